/- The law FnZoneValid: plain law and walk. (Printed by mkzv.py.) -/
import Derived.Test.YtdfgdeccejcpfaaDoorDrZv
import Derived.Test.YtdfgdeccejcpfaaDoorZoC
import Derived.Test.YtdfgdeccejcpfaaDoorZoD
import Derived.Test.YtdfgdeccejcpfaaDoorAlive
import Derived.Test.YtdfgdeccejcpfaaDoorCutS
import Derived.Test.YtdfgdeccejcpfaaDoorAppS
import Derived.Deep.RegionHeldLaw
namespace Go.Proofs.YtdfgdeccejcpfaaDoor
open Go.RowKit Go.Deep
set_option linter.unusedSimpArgs false
set_option linter.unusedVariables false

theorem zone_drop {B : Int} {zs : List Int} (h : ZoneP B zs) : ZoneP B (zs.drop 1) := by
  have e : ∀ j, (zs.drop 1).getD j 0 = zs.getD (j + 1) 0 := fun j => by
    rw [List.getD_eq_getElem?_getD, List.getD_eq_getElem?_getD, List.getElem?_drop, Nat.add_comm]
  intro j hj
  rw [List.length_drop] at hj
  have h1 := h (j + 1) (by omega)
  rw [e]
  refine ⟨h1.1, h1.2.1, fun hj0 => ?_⟩
  rw [e]
  have e2 : j - 1 + 1 = j + 1 - 1 := by omega
  rw [e2]; exact h1.2.2 (by omega)
theorem zone_dup {B y : Int} {zs : List Int} {m : Nat} (hm : m + 1 = zs.length) (hy : zs.getD m 0 = y) : ¬ ZoneP B (zs ++ [y]) := fun h => by
  have h1 := (h (m + 1) (by rw [List.length_append]; simp; omega)).2.2 (by omega)
  rw [List.getD_eq_getElem?_getD, List.getD_eq_getElem?_getD, Nat.add_sub_cancel, List.getElem?_append_left (by omega), List.getElem?_append_right (by omega)] at h1
  rw [List.getD_eq_getElem?_getD] at hy
  rw [hy] at h1
  have e : m + 1 - zs.length = 0 := by omega
  rw [e] at h1
  simp at h1
section
variable {P : Program} {α : Type} {k : Nat} {c : α → Nat → Value} (w : World)
/-- append as one step of a region, behind a guard. -/
theorem step_app_h {ops : Array Oper} {o : Oper} {a : Act} {K : Act → World → Prop} {Q : Exit → Act → World → Prop} {E : Prop} (hw : Region.wanted o (yielded ops a.tmps) = true) (s x : Operand) (t : TypeId)
    (ho : o.op = .call { callee := .builtin .append, args := #[s, x], argTypes := #[t, t] }) (T : TypeId) (z : Value) (bytes : Nat) (ht : P.underlying t = some (.slice T)) (hi : (P.info? T).map (fun i => (i.zero, i.size, i.bytes)) = some (some z, k, bytes)) (hzs : z.cells.size = k) (hk : 0 < k) (hby : bytes ≤ 64) (h1 : ∀ (x : α) j, (c x j).oneCell' = true)
    (v : Value) (B : Nat) (xs : List α) (hs : a.eval s = v) (hown : Own k c T w B v xs) (A : Option Addr) (m cp : Nat) (ys : List α) (hx : a.eval x = .slice A m cp) (hr : Reads k c w w.heap.size A ys) (hm : m = ys.length) (hlen : xs.length + ys.length ≤ 16777216) (hB : B ≤ w.heap.size)
    (h : ∀ v' w', Own k c T w' B v' (xs ++ ys) → w.grownBy w' v.ownBlock → (v'.ownBlock = v.ownBlock ∨ v'.ownBlock = some w.heap.size) → K (a.put o.dst v') w') :
    if Region.wanted o (yielded ops a.tmps) = true then Oper.wp P o a w K Q else E := by
  rw [if_pos hw]
  exact wp_app w s x t ho T z bytes ht hi hzs hk hby h1 v B xs hs hown A m cp ys hx hr hm hlen hB h
end
abbrev EI : Obj := .cells #[] 3
abbrev LI (y : Int) : Obj := .cells #[.int .i64 y] 3
theorem own_e1 (w : World) : Own 1 intC 3 (w.alloc EI) w.heap.size (.slice (some ⟨w.heap.size, 0, none⟩) 0 0) [] := Own.lit (k := 1) (c := intC) (B := w.heap.size) w 3 #[] 0 [] (Nat.le_refl _) rfl (by omega) rfl
theorem own_e2 (w : World) (y : Int) : Own 1 intC 3 ((w.alloc EI).alloc (LI y)) w.heap.size (.slice (some ⟨w.heap.size, 0, none⟩) 0 0) [] := (own_e1 w).alloc _
theorem own_e3 (w : World) (y : Int) : Own 1 intC 3 ((w.alloc (LI y)).alloc EI) w.heap.size (.slice (some ⟨w.heap.size + 1, 0, none⟩) 0 0) [] := by
  have h := (own_e1 (w.alloc (LI y))).mono (B' := w.heap.size) (by simp)
  simpa using h
theorem bk_l2 (w : World) (y : Int) : Bk ((w.alloc EI).alloc (LI y)) (w.heap.size + 1) 3 #[.int .i64 y] := Bk.new_at _ _ _ (by simp)
theorem bk_l3 (w : World) (y : Int) : Bk ((w.alloc (LI y)).alloc EI) w.heap.size 3 #[.int .i64 y] := (Bk.new w _ _).alloc _
theorem reads_bk {w : World} {g : Nat} {y : Int} (h : Bk w g 3 #[.int .i64 y]) : Reads 1 intC w w.heap.size (some ⟨g, 0, none⟩) [y] := by
  refine .inr ⟨g, 0, rfl, h.lt, fun i x hx j hj => ?_⟩
  obtain ⟨hi, he⟩ := getElem?_of_lt hx
  have hi0 : i = 0 := by simp at hi; exact hi
  subst hi0
  have hj0 : j = 0 := by omega
  subst hj0
  rw [h.cell]
  simp at hx
  subst hx; rfl
theorem reads_lit (w : World) (y : Int) : Reads 1 intC (w.alloc (LI y)) (w.alloc (LI y)).heap.size (some ⟨w.heap.size, 0, none⟩) [y] := reads_bk (Bk.new w _ _)

set_option maxRecDepth 100000 in
set_option maxHeartbeats 8000000 in
theorem fnZoneValid_any (A : Option Addr) (n c : Nat) (bs : List Int) (w : World) (hn : bs.length = n) (hb : ∀ x ∈ bs, U8 x) (hc : n ≤ c) (hcm : c ≤ maxLen) (hR : Reads 1 byteC w w.heap.size A bs) :
    Calls Tryd.prog 4 #[.slice A n c] w fun e w' => e = .returned (.bool true) ∧ Below w.heap.size w w' := by
  unfold maxLen at hcm
  subst hn
  have HR := Lib.hid hR; clear hR
  have HB := Lib.hid hb; clear hb
  have HB_w : Hid (Below w.heap.size w w) := Below.refl _ _
  have hbb : ∀ x : Bool, (x != x) = false := fun x => by simp
  have hnn : ∀ x : Int, (x != x) = false := fun x => by simp
  by_cases hl : ¬ bs.length ≤ 1048576
  · have hl' : (1048576 : Int) < bs.length := by omega
    go_enter Tryd.func4, Tryd.ntmps4
    go_wp2_with fail
    go_ret
    exact ⟨rfl, Below.refl _ _⟩
  have hl : bs.length ≤ 1048576 := by omega
  have hl' : ¬ (1048576 : Int) < bs.length := by omega
  go_enter Tryd.func4, Tryd.ntmps4
  go_wp2_with fail
  with_reducible refine (drawZoneValid_any A c bs w HR.out HB.out hl hc hcm).mono ?_
  rintro e w1 ⟨nb, A1, A4, c1, c4, ls, zs, rfl, hl1, hz5, hd1, hd4, hb1⟩
  have HN_wa : Hid (NetAt (w1.alloc (.cells #[.int .i64 nb, .slice A1 ls.length c1] 25)) w1.heap.size nb (.slice A1 ls.length c1)) := Bk.new _ _ _
  have HB_wa : Hid (Below w.heap.size w (w1.alloc (.cells #[.int .i64 nb, .slice A1 ls.length c1] 25))) := hb1.alloc hb1.size _
  have HD_wa := Lib.hid (hd1.allocZ (.cells #[.int .i64 nb, .slice A1 ls.length c1] 25))
  have HG_wa := Lib.hid (hd4.allocZ (.cells #[.int .i64 nb, .slice A1 ls.length c1] 25))
  have hcap4 := hd4.cap
  clear hd1 hd4 hb1 HR HB
  go_upto_region 4 with fail
  generalize w1.alloc (.cells #[.int .i64 nb, .slice A1 ls.length c1] 25) = wa at HN_wa HB_wa HD_wa HG_wa ⊢
  generalize w1.heap.size = g3 at HN_wa ⊢
  have hm1 : ls.length ≤ 1048576 := by omega
  have hm4 : zs.length ≤ 1048576 := by omega
  have s0 := HN_wa.out.c0
  have s1 := HN_wa.out.c1
  go_wp2_with fail; ((with_reducible refine (implZoneValid_any nb A1 A4 c1 c4 ls zs wa HD_wa.out.reads.1 HG_wa.out.reads.1 hm1 hm4).mono ?_); rintro e w2 ⟨rfl, hb_w2⟩); have HB_w2 : Hid (Below w.heap.size w w2) := HB_wa.out.trans (hb_w2.mono HB_wa.out.size); have HN_w2 := Lib.hid (HN_wa.out.below hb_w2); have HD_w2 := Lib.hid (HD_wa.out.below hb_w2); have HG_w2 := Lib.hid (HG_wa.out.below hb_w2); clear hb_w2
  clear s0 s1
  have s0 := HN_w2.out.c0
  have s1 := HN_w2.out.c1
  go_wp2_with fail; ((with_reducible refine (specZoneValid_any nb A1 A4 c1 c4 ls zs w2 HD_w2.out.reads.1 HG_w2.out.reads.1 hm1 hm4).mono ?_); rintro e w3 ⟨rfl, hb_w3⟩); have HB_w3 : Hid (Below w.heap.size w w3) := HB_w2.out.trans (hb_w3.mono HB_w2.out.size); have HN_w3 := Lib.hid (HN_w2.out.below hb_w3); have HD_w3 := Lib.hid (HD_w2.out.below hb_w3); have HG_w3 := Lib.hid (HG_w2.out.below hb_w3); clear hb_w3
  clear s0 s1
  have s0 := HN_w3.out.c0
  have s1 := HN_w3.out.c1
  have hbt : ∀ x : Bool, (x == x) = true := fun x => by simp
  by_cases h0 : zs = []
  · subst h0
    have HV : Hid ((netV nb ls && zoneV nb []) = netV nb ls) := by
      have : zoneV nb [] = true := zoneV_t.2 (fun j hj => by simp at hj)
      unfold Hid; rw [this, Bool.and_true]
    have HNV : Hid (∀ W, Reads 3 r3C W W.heap.size A1 ls → Calls Tryd.prog 18 #[.agg #[.int .i64 nb, .slice A1 ls.length c1]] W fun e w' => e = .returned (.bool (netV nb ls)) ∧ Below W.heap.size W w') := fun W h => implNetValid_any nb A1 c1 ls W h hm1
    rw [HV.out]
    generalize netV nb ls = nv at HNV ⊢
    clear HV
    cases nv
    all_goals
      go_wp2_with fail; ((with_reducible refine (HNV.out w3 HD_w3.out.reads.1).mono ?_); rintro e w4 ⟨rfl, hb_w4⟩); have HB_w4 : Hid (Below w.heap.size w w4) := HB_w3.out.trans (hb_w4.mono HB_w3.out.size); clear hb_w4
      go_wp2_with fail
      go_ret
      exact ⟨rfl, HB_w4.out⟩
  · have hzl : 0 < zs.length := List.length_pos_iff.2 h0
    have hzl1 : (0 : Int) < (zs.length : Int) := by omega
    have hz01 : ((zs.length : Int) == 0) = false := beq_eq_false_iff_ne.2 (by omega)
    have hz02 : (zs.length == 0) = false := beq_eq_false_iff_ne.2 (by omega)
    clear h0
    by_cases hv : (netV nb ls && zoneV nb zs) = true
    · rw [hv]
      obtain ⟨hnv, hzv⟩ := Bool.and_eq_true_iff.1 hv
      have hzp := zoneV_t.1 hzv
      clear hv hzv
      obtain ⟨m, hm⟩ : ∃ m, m + 1 = zs.length := ⟨zs.length - 1, by omega⟩
      have hml : m < zs.length := by omega
      obtain ⟨zb, zo, hA4, hzb, kz0⟩ := HG_w3.out.reads.1.at1 hml
      have kz : w3.cell? ⟨zb, zo + m, none⟩ = some (.int .i64 zs[m]) := kz0
      clear kz0
      obtain ⟨y, hy⟩ : ∃ y, zs[m] = y := ⟨_, rfl⟩
      rw [hy] at kz
      have hdup : zoneV nb (zs ++ [y]) = false := zoneV_f.2 (zone_dup hm (by rw [getD_lt hml]; exact hy))
      have hdrop : zoneV nb (zs.drop 1) = true := zoneV_t.2 (zone_drop hzp)
      obtain ⟨A2, hA2, hs2⟩ := slice_drop (α := Int) (P := Tryd.prog) (t := 28) (k := 1) (n := zs.length) (c := intC) (A := A4) (cp := c4) (h := 1) (xs := zs) Tryd.underlying28 (fun _ => rfl) rfl (by omega) hcap4.1
      have hs : ∀ W, (Instr.sliceAt 28 (.slice A4 zs.length c4) (some (.int .i64 1)) none none).run Tryd.prog W = .ok (.slice A2 (zs.length - 1) (c4 - 1)) W := hs2
      have HC1 : Hid (∀ W, Reads 3 r3C W W.heap.size A1 ls → Reads 1 intC W W.heap.size A4 zs → Calls Tryd.prog 16 #[.agg #[.int .i64 nb, .slice A1 ls.length c1], .slice A2 (zs.length - 1) (c4 - 1)] W fun e w' => e = .returned (.bool true) ∧ Below W.heap.size W w') := fun W h1 h2 => by
        have := implZoneValid_any nb A1 A2 c1 (c4 - 1) ls (zs.drop 1) W h1 (hA2 _ _ h2) hm1 (by rw [List.length_drop]; omega)
        rw [hnv, hdrop, List.length_drop] at this; exact this
      have HC2 : Hid (∀ W A c, Reads 3 r3C W W.heap.size A1 ls → Reads 1 intC W W.heap.size A (zs ++ [y]) → Calls Tryd.prog 16 #[.agg #[.int .i64 nb, .slice A1 ls.length c1], .slice A (zs.length + 1) c] W fun e w' => e = .returned (.bool false) ∧ Below W.heap.size W w') := fun W A c h1 h2 => by
        have := implZoneValid_any nb A1 A c1 c ls (zs ++ [y]) W h1 h2 hm1 (by rw [List.length_append]; simp; omega)
        rw [hnv, hdup, List.length_append] at this; exact this
      subst hA4
      have hmw : IntKind.i64.wrap ((zs.length : Int) - 1) = (m : Int) := by rw [IntWalk.i64_in _ (by omega)]; omega
      have hmi : (m : Int) < (zs.length : Int) := by omega
      have hm0 : (0 : Int) ≤ (m : Int) := by omega
      have HNd : Hid (NetAt w3.drew g3 nb (.slice A1 ls.length c1)) := HN_w3.out
      have HDd : Hid (DrS 3 r3C w3.drew w.heap.size (.slice A1 ls.length c1) ls) := HD_w3.out
      have HGd : Hid (DrS 1 intC w3.drew w.heap.size (.slice (some ⟨zb, zo, none⟩) zs.length c4) zs) := HG_w3.out
      have HBd : Hid (Below w.heap.size w w3.drew) := HB_w3.out.drew
      clear hA2 hs2 hnv hdup hdrop hzp hy hm
      go_wp2_with fail
      go_region_held_law (fun w' => w'.cell? ⟨g3, 0, none⟩ = some (.int .i64 nb) ∧ w'.cell? ⟨g3, 1, none⟩ = some (.slice A1 ls.length c1) ∧ w'.cell? ⟨zb, zo + m, none⟩ = some (.int .i64 y)) (simp [go_sem, World.cell?_alloc_past, *])
        (first | (refine step_app_h (k := 1) (c := intC) _ (by rfl) _ _ _ rfl 3 (.int .i64 0) 8 Tryd.underlying28 (by kernel_rfl) rfl (by decide) (by decide) intC_one _ _ _ rfl (own_e1 w5) _ _ _ _ rfl ((HG5.out.allocZ EI).reads.1) ?hm ?hlen ?hB ?_; (case hm => (first | rfl | (simp; done) | omega)); (case hlen => (simp only [List.length_nil, List.length_cons]; omega)); (case hB => ((try simp only [World.size_alloc]); omega)); intro v6 w6 hown6 hg6 hat6; simp only [List.nil_append] at hown6; have HW6 : Hid (Below w5.heap.size w5 w6) := (Below.alloc (Below.refl w5.heap.size w5) (Nat.le_refl _) EI).grown hg6 (by (try simp only [World.size_alloc]); omega) (fun q hq => ((own_e1 w5).blk q hq).1); have HO6 := Lib.hid hown6; (obtain ⟨A6, c6, hv6⟩ := hown6.slice); subst hv6; clear hown6 hg6 hat6; have HN6 := Lib.hid (HN5.out.below HW6.out); have HG6 := Lib.hid (HG5.out.below HW6.out); have HD6 := Lib.hid (HD5.out.below HW6.out); have s0_6 := HN6.out.c0; have s1_6 := HN6.out.c1; have sz_6 := (keepB HW6.out (g := zb) z5 _).trans zc5; have zz_6 := HW6.out.size; have gz_6 := HN6.out.lt; have zb_6 : zb < w6.heap.size := Nat.lt_of_lt_of_le z5 HW6.out.size) | (refine step_app_h (k := 1) (c := intC) _ (by rfl) _ _ _ rfl 3 (.int .i64 0) 8 Tryd.underlying28 (by kernel_rfl) rfl (by decide) (by decide) intC_one _ _ _ rfl (own_e2 w5 y) _ _ _ _ rfl (((HG5.out.allocZ EI).allocZ (LI y)).reads.1) ?hm ?hlen ?hB ?_; (case hm => (first | rfl | (simp; done) | omega)); (case hlen => (simp only [List.length_nil, List.length_cons]; omega)); (case hB => ((try simp only [World.size_alloc]); omega)); intro v6 w6 hown6 hg6 hat6; simp only [List.nil_append] at hown6; have HW6 : Hid (Below w5.heap.size w5 w6) := (Below.alloc (Below.alloc (Below.refl w5.heap.size w5) (Nat.le_refl _) EI) (by simp) (LI y)).grown hg6 (by (try simp only [World.size_alloc]); omega) (fun q hq => ((own_e2 w5 y).blk q hq).1); have HO6 := Lib.hid hown6; have HL6 := Lib.hid (reads_bk ((bk_l2 w5 y).grown hg6 (by intro h; injection h with h; simp at h))); (obtain ⟨A6, c6, hv6⟩ := hown6.slice); subst hv6; clear hown6 hg6 hat6; have HN6 := Lib.hid (HN5.out.below HW6.out); have HG6 := Lib.hid (HG5.out.below HW6.out); have HD6 := Lib.hid (HD5.out.below HW6.out); have s0_6 := HN6.out.c0; have s1_6 := HN6.out.c1; have sz_6 := (keepB HW6.out (g := zb) z5 _).trans zc5; have zz_6 := HW6.out.size; have gz_6 := HN6.out.lt; have zb_6 : zb < w6.heap.size := Nat.lt_of_lt_of_le z5 HW6.out.size) | (refine step_app_h (k := 1) (c := intC) _ (by rfl) _ _ _ rfl 3 (.int .i64 0) 8 Tryd.underlying28 (by kernel_rfl) rfl (by decide) (by decide) intC_one _ _ _ rfl (own_e3 w5 y) _ _ _ _ rfl (((HG5.out.allocZ (LI y)).allocZ EI).reads.1) ?hm ?hlen ?hB ?_; (case hm => (first | rfl | (simp; done) | omega)); (case hlen => (simp only [List.length_nil, List.length_cons]; omega)); (case hB => ((try simp only [World.size_alloc]); omega)); intro v6 w6 hown6 hg6 hat6; simp only [List.nil_append] at hown6; have HW6 : Hid (Below w5.heap.size w5 w6) := (Below.alloc (Below.alloc (Below.refl w5.heap.size w5) (Nat.le_refl _) (LI y)) (by simp) EI).grown hg6 (by (try simp only [World.size_alloc]); omega) (fun q hq => ((own_e3 w5 y).blk q hq).1); have HO6 := Lib.hid hown6; have HL6 := Lib.hid (reads_bk ((bk_l3 w5 y).grown hg6 (by intro h; injection h with h; simp at h))); (obtain ⟨A6, c6, hv6⟩ := hown6.slice); subst hv6; clear hown6 hg6 hat6; have HN6 := Lib.hid (HN5.out.below HW6.out); have HG6 := Lib.hid (HG5.out.below HW6.out); have HD6 := Lib.hid (HD5.out.below HW6.out); have s0_6 := HN6.out.c0; have s1_6 := HN6.out.c1; have sz_6 := (keepB HW6.out (g := zb) z5 _).trans zc5; have zz_6 := HW6.out.size; have gz_6 := HN6.out.lt; have zb_6 : zb < w6.heap.size := Nat.lt_of_lt_of_le z5 HW6.out.size) | (refine step_app_h (k := 1) (c := intC) _ (by rfl) _ _ _ rfl 3 (.int .i64 0) 8 Tryd.underlying28 (by kernel_rfl) rfl (by decide) (by decide) intC_one _ _ _ rfl (HO6.out.alloc (LI y)) _ _ _ _ rfl (reads_lit w6 y) ?hm ?hlen ?hB ?_; (case hm => (first | rfl | (simp; done) | omega)); (case hlen => (simp only [List.length_nil, List.length_cons]; omega)); (case hB => ((try simp only [World.size_alloc]); omega)); intro v7 w7 hown7 hg7 hat7; have HW7 : Hid (Below w5.heap.size w5 w7) := (Below.alloc HW6.out HW6.out.size (LI y)).grown hg7 (by (try simp only [World.size_alloc]); omega) (fun q hq => ((HO6.out.alloc (LI y)).blk q hq).1); have HO7 := Lib.hid hown7; (obtain ⟨A7, c7, hv7⟩ := hown7.slice); simp only [List.length_append, List.length_cons, List.length_nil, Nat.zero_add] at hv7; subst hv7; clear hown7 hg7 hat7; have HN7 := Lib.hid (HN5.out.below HW7.out); have HG7 := Lib.hid (HG5.out.below HW7.out); have HD7 := Lib.hid (HD5.out.below HW7.out); have s0_7 := HN7.out.c0; have s1_7 := HN7.out.c1; have sz_7 := (keepB HW7.out (g := zb) z5 _).trans zc5; have zz_7 := HW7.out.size; have gz_7 := HN7.out.lt; have zb_7 : zb < w7.heap.size := Nat.lt_of_lt_of_le z5 HW7.out.size) | (refine step_app_h (k := 1) (c := intC) _ (by rfl) _ _ _ rfl 3 (.int .i64 0) 8 Tryd.underlying28 (by kernel_rfl) rfl (by decide) (by decide) intC_one _ _ _ rfl (HO6.out) _ _ _ _ rfl (HL6.out) ?hm ?hlen ?hB ?_; (case hm => (first | rfl | (simp; done) | omega)); (case hlen => (simp only [List.length_nil, List.length_cons]; omega)); (case hB => ((try simp only [World.size_alloc]); omega)); intro v7 w7 hown7 hg7 hat7; have HW7 : Hid (Below w5.heap.size w5 w7) := HW6.out.grown hg7 (by (try simp only [World.size_alloc]); omega) (fun q hq => ((HO6.out).blk q hq).1); have HO7 := Lib.hid hown7; (obtain ⟨A7, c7, hv7⟩ := hown7.slice); simp only [List.length_append, List.length_cons, List.length_nil, Nat.zero_add] at hv7; subst hv7; clear hown7 hg7 hat7; have HN7 := Lib.hid (HN5.out.below HW7.out); have HG7 := Lib.hid (HG5.out.below HW7.out); have HD7 := Lib.hid (HD5.out.below HW7.out); have s0_7 := HN7.out.c0; have s1_7 := HN7.out.c1; have sz_7 := (keepB HW7.out (g := zb) z5 _).trans zc5; have zz_7 := HW7.out.size; have gz_7 := HN7.out.lt; have zb_7 : zb < w7.heap.size := Nat.lt_of_lt_of_le z5 HW7.out.size) | (go_at_call 16; (with_reducible refine (HC2.out _ A7 c7 (by with_reducible exact HD7.out.reads.1) (by with_reducible exact (HO7.out.reads rfl).1)).mono ?_); rintro e w8 ⟨rfl, hb8⟩; have HW8 : Hid (Below w5.heap.size w5 w8) := HW7.out.trans (hb8.mono HW7.out.size); clear hb8; have HN8 := Lib.hid (HN5.out.below HW8.out); have HG8 := Lib.hid (HG5.out.below HW8.out); have HD8 := Lib.hid (HD5.out.below HW8.out); have s0_8 := HN8.out.c0; have s1_8 := HN8.out.c1; have sz_8 := (keepB HW8.out (g := zb) z5 _).trans zc5; have zz_8 := HW8.out.size; have gz_8 := HN8.out.lt; have zb_8 : zb < w8.heap.size := Nat.lt_of_lt_of_le z5 HW8.out.size) | (go_at_call 16; (with_reducible refine (HC1.out _ (by with_reducible exact HDd.out.reads.1) (by with_reducible exact HGd.out.reads.1)).mono ?_); rintro e w5 ⟨rfl, hb5⟩; have HN5 := Lib.hid (HNd.out.below hb5); have HD5 := Lib.hid (HDd.out.below hb5); have HG5 := Lib.hid (HGd.out.below hb5); have HB5 : Hid (Below w.heap.size w w5) := HBd.out.trans (hb5.mono HBd.out.size); have s0_5 := HN5.out.c0; have s1_5 := HN5.out.c1; have zc5 := (keepB hb5 (g := zb) (by exact hzb) _).trans kz; have z5 := keepZ hb5 (g := zb) (by exact hzb); have gz5 := HN5.out.lt; have gz5b : g3 < w5.heap.size + 1 := (by omega); have z5b : zb < w5.heap.size + 1 := (by omega); clear hb5) | (go_at_call 14; (with_reducible refine (alive_any _).mono ?_); rintro e w9 ⟨rfl, hb9⟩; have HW9 : Hid (Below w5.heap.size w5 w9) := HW8.out.trans (hb9.mono HW8.out.size); clear hb9; have HN9 := Lib.hid (HN5.out.below HW9.out); have HG9 := Lib.hid (HG5.out.below HW9.out); have HD9 := Lib.hid (HD5.out.below HW9.out); have s0_9 := HN9.out.c0; have s1_9 := HN9.out.c1; have sz_9 := (keepB HW9.out (g := zb) z5 _).trans zc5; have zz_9 := HW9.out.size; have gz_9 := HN9.out.lt; have zb_9 : zb < w9.heap.size := Nat.lt_of_lt_of_le z5 HW9.out.size))
      all_goals
        go_wp2_with fail
        go_ret
        exact ⟨rfl, HB5.out.trans (HW9.out.mono HB5.out.size)⟩
    · have hv := Bool.not_eq_true _ ▸ hv
      rw [hv]
      clear hv
      have HNV : Hid (∀ W, Reads 3 r3C W W.heap.size A1 ls → Calls Tryd.prog 18 #[.agg #[.int .i64 nb, .slice A1 ls.length c1]] W fun e w' => e = .returned (.bool (netV nb ls)) ∧ Below W.heap.size W w') := fun W h => implNetValid_any nb A1 c1 ls W h hm1
      generalize netV nb ls = nv at HNV
      cases nv
      all_goals
        go_wp2_with fail; ((with_reducible refine (HNV.out w3 HD_w3.out.reads.1).mono ?_); rintro e w4 ⟨rfl, hb_w4⟩); have HB_w4 : Hid (Below w.heap.size w w4) := HB_w3.out.trans (hb_w4.mono HB_w3.out.size); clear hb_w4
        go_wp2_with fail
        go_ret
        exact ⟨rfl, HB_w4.out⟩
end Go.Proofs.YtdfgdeccejcpfaaDoor
