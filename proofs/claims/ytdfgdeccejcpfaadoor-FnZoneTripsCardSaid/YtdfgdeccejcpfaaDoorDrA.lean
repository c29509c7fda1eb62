/- The reader of a code: what a pick gives. -/
import Derived.Test.YtdfgdeccejcpfaaDoorProg
import Derived.Test.YtdfgdeccejcpfaaDoorBk
import Derived.Laws.BitsAllLaws
import Derived.Laws.BitsLemmas
import Derived.Deep.RegionHeld3
namespace Go.Proofs.YtdfgdeccejcpfaaDoor
open Go.RowKit Go.Deep
set_option linter.unusedSimpArgs false
set_option linter.unusedVariables false

/-- Only block g, and what is new, has turned. -/
def Chg (g : Nat) (w w' : World) : Prop := w.grownBy w' (some g)
theorem Chg.refl (g : Nat) (w : World) : Chg g w w := ⟨rfl, rfl, rfl, Nat.le_refl _, fun _ _ _ => rfl⟩
theorem Chg.trans {g : Nat} {a b c : World} (h : Chg g a b) (k : Chg g b c) : Chg g a c :=
  ⟨k.os.trans h.os, k.tape.trans h.tape, k.output.trans h.output, Nat.le_trans h.size k.size, fun i hi hne => (k.block i (Nat.lt_of_lt_of_le hi h.size) hne).trans (h.block i hi hne)⟩
theorem Chg.of_below {g : Nat} {a b : World} (h : Below a.heap.size a b) : Chg g a b := ⟨h.os, h.tape, h.output, h.size, fun i hi _ => h.block i hi⟩
theorem Chg.below {g : Nat} {w w' : World} (h : Chg g w w') (hg : g ≤ w.heap.size) : Below g w w' :=
  ⟨h.os, h.tape, h.output, h.size, fun k hk => h.block k (by omega) (fun e => by injection e with e; omega)⟩
theorem Chg.cell {g b : Nat} {w w' : World} (h : Chg g w w') (hb : b < w.heap.size) (hne : b ≠ g) (i : Nat) : w'.cell? ⟨b, i, none⟩ = w.cell? ⟨b, i, none⟩ :=
  World.cell?_of_block (h.block b hb (fun e => hne (by injection e)))
theorem Chg.frozen {g b : Nat} {w w' : World} (h : Chg g w w') (hb : b < w.heap.size) (hne : b ≠ g) (i : Nat) : w'.frozen? ⟨b, i, none⟩ = w.frozen? ⟨b, i, none⟩ :=
  World.frozen?_of_block (h.block b hb (fun e => hne (by injection e)))
theorem Chg.bk {g b : Nat} {t : TypeId} {cs : Array Value} {w w' : World} (h : Chg g w w') (k : Bk w b t cs) (hne : b ≠ g) : Bk w' b t cs := k.of_block (h.block b k.lt (fun e => hne (by injection e)))
theorem Chg.alloc {g : Nat} {a w : World} (h : Chg g a w) (o : Obj) : Chg g a (w.alloc o) := h.trans (Chg.of_below (Below.alloc (Below.refl _ _) (Nat.le_refl _) _))
theorem Chg.set {g i : Nat} {a w : World} (h : Chg g a w) (v : Value) : Chg g a (w.setCell ⟨g, i, none⟩ v) :=
  ⟨h.os, h.tape, h.output, by simpa using h.size, fun k hk hne => (Below.heap_setCell w ⟨g, i, none⟩ v k (fun e => hne (by rw [e]))).trans (h.block k hk hne)⟩
theorem Chg.set_new {g b i : Nat} {a w : World} (h : Chg g a w) (hb : a.heap.size ≤ b) (v : Value) : Chg g a (w.setCell ⟨b, i, none⟩ v) :=
  ⟨h.os, h.tape, h.output, by simpa using h.size, fun k hk hne => (Below.heap_setCell w ⟨b, i, none⟩ v k (fun e => by have : k = b := e; omega)).trans (h.block k hk hne)⟩
theorem Chg.undrew {g : Nat} {a w : World} (h : Chg g a.drew w) : Chg g a w := ⟨h.os, h.tape, h.output, h.size, h.block⟩
theorem Chg.undrewN {g n : Nat} {a w : World} (h : Chg g (a.drewN n) w) : Chg g a w := ⟨h.os, h.tape, h.output, h.size, h.block⟩
theorem Chg.set4n {g b : Nat} {a w : World} {y0 y1 y2 y3 : Value} (h : Chg g a w) (hb : a.heap.size ≤ b) : Chg g a ((((w.setCell ⟨b, 0, none⟩ y0).setCell ⟨b, 1, none⟩ y1).setCell ⟨b, 2, none⟩ y2).setCell ⟨b, 3, none⟩ y3) := (((h.set_new hb _).set_new hb _).set_new hb _).set_new hb _
theorem Chg.drewN {g n : Nat} {a w : World} (h : Chg g a w) : Chg g a (w.drewN n) := ⟨h.os, h.tape, h.output, h.size, h.block⟩

/-- The reader at block g: its bytes lie below it; at most P picks were made. -/
def RdOk (T : TypeId) (w : World) (g : Nat) (P : Int) : Prop :=
  ∃ (A : Option Addr) (c : Nat) (p : Int) (bs : List Int), Bk w g T #[.slice A bs.length c, .int .i64 p] ∧ 0 ≤ p ∧ p ≤ P ∧ bs.length ≤ 2000 ∧ (∀ x ∈ bs, U8 x) ∧ Reads 1 byteC w g A bs
theorem RdOk.lt {T : TypeId} {w : World} {g : Nat} {P : Int} (h : RdOk T w g P) : g < w.heap.size := by
  obtain ⟨A, c, p, bs, hb, _⟩ := h; exact hb.lt
theorem RdOk.more {T : TypeId} {w : World} {g : Nat} {P P' : Int} (h : RdOk T w g P) (hP : P ≤ P') : RdOk T w g P' := by
  obtain ⟨A, c, p, bs, hb, h0, h1, h2⟩ := h; exact ⟨A, c, p, bs, hb, h0, by omega, h2⟩
theorem RdOk.keep {T : TypeId} {w w' : World} {g : Nat} {P : Int} (h : RdOk T w g P) (hb : ∀ k, k ≤ g → w'.heap[k]? = w.heap[k]?) : RdOk T w' g P := by
  obtain ⟨A, c, p, bs, hk, h0, h1, h2, h3, hr⟩ := h
  exact ⟨A, c, p, bs, hk.of_block (hb g (Nat.le_refl _)), h0, h1, h2, h3, hr.keep fun b o hlt => World.cell?_of_block (a := ⟨b, o, none⟩) (hb b (by omega))⟩
theorem RdOk.below {T : TypeId} {w w' : World} {g : Nat} {P : Int} (h : RdOk T w g P) (hb : Below w.heap.size w w') : RdOk T w' g P := h.keep fun k hk => hb.block k (Nat.lt_of_le_of_lt hk h.lt)
theorem RdOk.alloc {T : TypeId} {w : World} {g : Nat} {P : Int} (h : RdOk T w g P) (o : Obj) : RdOk T (w.alloc o) g P := h.below (Below.alloc (Below.refl _ _) (Nat.le_refl _) _)
theorem RdOk.set_new {T : TypeId} {w : World} {g b i : Nat} {P : Int} (h : RdOk T w g P) (hb : g < b) (v : Value) : RdOk T (w.setCell ⟨b, i, none⟩ v) g P :=
  h.keep fun k hk => Below.heap_setCell w ⟨b, i, none⟩ v k (fun e => by have : k = b := e; omega)

theorem RdOk.set4n {T : TypeId} {w : World} {g b : Nat} {P : Int} {y0 y1 y2 y3 : Value} (h : RdOk T w g P) (hb : g < b) : RdOk T ((((w.setCell ⟨b, 0, none⟩ y0).setCell ⟨b, 1, none⟩ y1).setCell ⟨b, 2, none⟩ y2).setCell ⟨b, 3, none⟩ y3) g P := (((h.set_new hb _).set_new hb _).set_new hb _).set_new hb _
/-- What a pick leaves: a number below n (or 0), the reader one step on. -/
def PickP (T : TypeId) (g : Nat) (P n : Int) (w : World) (e : Ending) (w' : World) : Prop :=
  ∃ v : Int, e = .returned (.int .i64 v) ∧ 0 ≤ v ∧ (v = 0 ∨ v < n) ∧ RdOk T w' g (P + 1) ∧ Chg g w w'

theorem xor_nn (x : Int) (h0 : 0 ≤ x) (h1 : x ≤ 4611686018427387904) : 0 ≤ bits .xor .i64 x (x / 64) ∧ bits .xor .i64 x (x / 64) ≤ 9223372036854775807 := by
  obtain ⟨a, rfl⟩ := Int.eq_ofNat_of_zero_le h0
  have ha : a < 9223372036854775808 := by omega
  have hb : a / 64 < 9223372036854775808 := by omega
  have e : (a : Int) / 64 = ((a / 64 : Nat) : Int) := by omega
  rw [e]
  show 0 ≤ IntKind.i64.wrap ((BitVec.ofInt 64 (a : Int) ^^^ BitVec.ofInt 64 ((a / 64 : Nat) : Int)).toNat : Int) ∧ IntKind.i64.wrap ((BitVec.ofInt 64 (a : Int) ^^^ BitVec.ofInt 64 ((a / 64 : Nat) : Int)).toNat : Int) ≤ 9223372036854775807
  have f1 : (BitVec.ofInt 64 (a : Int)).toNat = a := by rw [BitVec.ofInt_natCast, BitVec.toNat_ofNat]; exact Nat.mod_eq_of_lt (by omega)
  have f2 : (BitVec.ofInt 64 ((a / 64 : Nat) : Int)).toNat = a / 64 := by rw [BitVec.ofInt_natCast, BitVec.toNat_ofNat]; exact Nat.mod_eq_of_lt (by omega)
  have hx : a ^^^ (a / 64) < 2 ^ 63 := Nat.xor_lt_two_pow (by omega) (by omega)
  rw [BitVec.toNat_xor, f1, f2, IntKind.wrap_i64]
  omega

set_option maxHeartbeats 4000000 in
theorem pick_any (g : Nat) (P n : Int) (w : World) (hr : RdOk 83 w g P) (hP : P ≤ 1000000) (hn : n ≤ 1000000) :
    Calls Tryd.prog 33 #[.pointer (some ⟨g, 0, none⟩), .int .i64 n] w (PickP 83 g P n w) := by
  obtain ⟨A, c, p, bs, hk, hp0, hp1, hl, hb, hR⟩ := hr
  have HB := Lib.hid hb; clear hb
  have HR := Lib.hid hR; clear hR
  have HK := Lib.hid hk
  have c0 := hk.cell
  have f0 := hk.frozen
  have hlt := hk.lt
  have hfin : Hid (∀ v : Int, 0 ≤ v → (v = 0 ∨ v < n) → ∀ k, PickP 83 g P n w (.returned (.int .i64 v)) ((w.setCell ⟨g, 1, none⟩ (.int .i64 (p + 1))).drewN k)) := by
    intro v h0 hv k
    refine ⟨v, rfl, h0, hv, ⟨A, c, p + 1, bs, ?_, by omega, by omega, hl, HB.out, ?_⟩, ?_⟩
    · have := (HK.out.set 1 (.int .i64 (p + 1))).drewN k; simpa using this
    · exact HR.out.keep fun b o hlt => World.cell?_setCell_far _ ⟨g, 1, none⟩ ⟨b, o, none⟩ _ (by simp; omega)
    · exact ((Chg.refl g w).set _).drewN
  have HF := hfin; clear hfin hk
  generalize hm : bs.length = m at hl c0
  have HM := Lib.hid hm; clear hm
  by_cases h1 : 1 ≤ n
  · by_cases hm0 : m = 0
    · have hb0 : ((m : Int) == 0) = true := by simp [hm0]
      have hb1 : (m == 0) = true := by simp [hm0]
      clear hm0
      go_enter Tryd.func33, Tryd.ntmps33
      go_wp2_with fail
      go_ret
      exact HF.out 0 (by omega) (.inl rfl) 0
    · have hb0 : ((m : Int) == 0) = false := by simp [hm0]
      have hb1 : (m == 0) = false := by simp [hm0]
      have hm1 : 1 ≤ m := by omega
      clear hm0
      by_cases hpm : p < (m : Int)
      · obtain ⟨pn, rfl⟩ := Int.eq_ofNat_of_zero_le hp0
        have hx : pn < bs.length := by rw [HM.out]; omega
        obtain ⟨b, off, rfl, hbg, hc⟩ := HR.out.at1 hx
        have hu := HB.out bs[pn] (List.getElem_mem hx)
        have hc1 : w.cell? ⟨b, off + pn, none⟩ = some (.int .u8 bs[pn]) := hc
        unfold U8 at hu
        obtain ⟨hu0, hu1⟩ := hu
        clear hc
        generalize bs[pn] = x at hc1 hu0 hu1
        have hbne : ¬ g = b := by omega
        have hbne2 : ¬ b = g := by omega
        go_enter Tryd.func33, Tryd.ntmps33
        go_wp2_with fail
        go_ret
        refine HF.out _ ?_ ?_ 0
        · exact Int.emod_nonneg _ (by omega)
        · exact .inr (Int.emod_lt_of_pos _ (by omega))
      · have hpm' : (m : Int) ≤ p := by omega
        have hmp : 0 < (m : Int) := by omega
        obtain ⟨i1, hi1⟩ := Int.eq_ofNat_of_zero_le (Int.emod_nonneg p (by omega : (m : Int) ≠ 0))
        obtain ⟨i2, hi2⟩ := Int.eq_ofNat_of_zero_le (Int.emod_nonneg (p * 7 + 3) (by omega : (m : Int) ≠ 0))
        have hl1 : i1 < m := by have := Int.emod_lt_of_pos p hmp; omega
        have hl2 : i2 < m := by have := Int.emod_lt_of_pos (p * 7 + 3) hmp; omega
        have m1 : p.tmod (m : Int) = (i1 : Int) := by rw [Int.tmod_eq_emod_of_nonneg hp0]; exact hi1
        have m2 : (p * 7 + 3).tmod (m : Int) = (i2 : Int) := by rw [Int.tmod_eq_emod_of_nonneg (by omega)]; exact hi2
        have hq0 : 0 ≤ p / (m : Int) := Int.ediv_nonneg hp0 (by omega)
        have hq1 : p / (m : Int) ≤ p := Int.ediv_le_self _ hp0
        have m3 : p.tdiv (m : Int) = p / (m : Int) := Int.tdiv_eq_ediv_of_nonneg hp0
        have hx1 : i1 < bs.length := by rw [HM.out]; exact hl1
        have hx2 : i2 < bs.length := by rw [HM.out]; exact hl2
        obtain ⟨b, off, rfl, hbg, hc⟩ := HR.out.at1 hx1
        obtain ⟨b', off', e, _, hc'⟩ := HR.out.at1 hx2
        injection e with e; injection e with e1 e2
        subst e1 e2
        have hu := HB.out bs[i1] (List.getElem_mem hx1)
        have hu' := HB.out bs[i2] (List.getElem_mem hx2)
        have hc1 : w.cell? ⟨b, off + i1, none⟩ = some (.int .u8 bs[i1]) := hc
        have hc2 : w.cell? ⟨b, off + i2, none⟩ = some (.int .u8 bs[i2]) := hc'
        unfold U8 at hu hu'
        obtain ⟨hu0, hu1⟩ := hu
        obtain ⟨hv0, hv1⟩ := hu'
        clear hc hc' hi1 hi2
        generalize bs[i1] = x at hc1 hu0 hu1
        generalize bs[i2] = y at hc2 hv0 hv1
        generalize p / (m : Int) = q at hq0 hq1 m3
        have hbne : ¬ g = b := by omega
        have hbne2 : ¬ b = g := by omega
        have hi10 : (0 : Int) ≤ (i1 : Int) := by omega
        have hi11 : (i1 : Int) < (m : Int) := by omega
        have hi20 : (0 : Int) ≤ (i2 : Int) := by omega
        have hi21 : (i2 : Int) < (m : Int) := by omega
        have e1 : IntKind.i64.wrap (p * 7) = p * 7 := IntWalk.i64_in _ (by omega)
        have e2 : IntKind.i64.wrap (p * 7 + 3) = p * 7 + 3 := IntWalk.i64_in _ (by omega)
        have e3 : IntKind.i64.wrap x = x := IntWalk.i64_in _ (by omega)
        have e4 : IntKind.i64.wrap y = y := IntWalk.i64_in _ (by omega)
        have e5 : IntKind.i64.wrap (x * 131) = x * 131 := IntWalk.i64_in _ (by omega)
        have e6 : IntKind.i64.wrap (y * 1117) = y * 1117 := IntWalk.i64_in _ (by omega)
        have e7 : IntKind.i64.wrap (x * 131 + y * 1117) = x * 131 + y * 1117 := IntWalk.i64_in _ (by omega)
        have e8 : IntKind.i64.wrap (p * 29) = p * 29 := IntWalk.i64_in _ (by omega)
        have e9 : IntKind.i64.wrap (x * 131 + y * 1117 + p * 29) = x * 131 + y * 1117 + p * 29 := IntWalk.i64_in _ (by omega)
        have e10 : IntKind.i64.wrap q = q := IntWalk.i64_in _ (by omega)
        have e11 : IntKind.i64.wrap (q * 53) = q * 53 := IntWalk.i64_in _ (by omega)
        have e12 : IntKind.i64.wrap (x * 131 + y * 1117 + p * 29 + q * 53) = x * 131 + y * 1117 + p * 29 + q * 53 := IntWalk.i64_in _ (by omega)
        have hz0 : 0 ≤ x * 131 + y * 1117 + p * 29 + q * 53 := by omega
        have hz1 : x * 131 + y * 1117 + p * 29 + q * 53 ≤ 4611686018427387904 := by omega
        go_enter Tryd.func33, Tryd.ntmps33
        go_wp2_with fail
        go_quiet (fail)
        clear e1 e2 e3 e4 e5 e6 e7 e8 e9 e10 e11 e12 m1 m2 m3
        generalize x * 131 + y * 1117 + p * 29 + q * 53 = z at hz0 hz1 ⊢
        have hxz := xor_nn z hz0 hz1
        obtain ⟨hxz0, hxz1⟩ := hxz
        go_wp2_with fail
        go_ret
        refine HF.out _ ?_ ?_ _
        · exact Int.emod_nonneg _ (by omega)
        · exact .inr (Int.emod_lt_of_pos _ (by omega))
  · have h1' : n < 1 := by omega
    go_enter Tryd.func33, Tryd.ntmps33
    go_wp2_with fail
    go_ret
    exact HF.out 0 (by omega) (.inl rfl) 0
end Go.Proofs.YtdfgdeccejcpfaaDoor
