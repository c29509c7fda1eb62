/- The reference's lines through which buses are fed. -/
import Derived.Test.YtdfgdeccejcpfaaSpD
namespace Go.Proofs.Ytdfgdeccejcpfaa
open Go.RowKit Go.Deep
set_option linter.unusedSimpArgs false
set_option linter.unusedVariables false

set_option maxHeartbeats 2000000 in
theorem specOtherEnd_any (n : Nat) (A : Option Addr) (c : Nat) (ls : List R3) (l b : Nat) (w : World) (hN : NetP n ls) (hl : l < ls.length) (he : endsAt ls l b) (hR : Reads 3 r3C w w.heap.size A ls) :
    Calls Try.prog 53 #[.agg #[.int .i64 (n : Int), .slice A ls.length c], .int .i64 (l : Int), .int .i64 (b : Int)] w fun e w' => e = .returned (.int .i64 (oth ls l b : Int)) ∧ Below w.heap.size w w' := by
  have hnv := netV_t.2 hN
  have hm10 := hN.2.2.1
  have hline := hN.line hl
  obtain ⟨l1, l2, l3, l4, l5⟩ := hline
  have hi0 : inB (l : Int) 0 ((ls.length : Int) - 1) = true := inB_t.2 (by omega)
  have HR := Lib.hid hR; clear hR
  have HNV := Lib.hid hnv; clear hnv
  have hl1 : (l : Int) < (ls.length : Int) := by omega
  obtain ⟨z2, hz2⟩ : ∃ z, ls[l].c = z := ⟨_, rfl⟩
  by_cases hA : lA ls l = b
  · have ho : oth ls l b = lB ls l := by unfold oth; rw [if_pos hA]
    rw [ho]
    have HL := Lib.hid (And.intro l1 (And.intro l2 hz2))
    have he1 : ((lA ls l : Int) == (b : Int)) = true := by simp [hA]
    generalize lA ls l = a at HL he1
    generalize lB ls l = d at HL ⊢
    clear l1 l2 l3 l4 l5 hN he hA ho hz2
    go_enter Try.func53, Try.ntmps53
    go_wp2_with fail
    refine (specNetValid_any (n : Int) A c ls _ (HR.out.alloc _) (by omega)).mono ?_
    rintro e w1 ⟨rfl, hb1⟩
    rw [HNV.out]
    have cB0 := keepB hb1 (g := w.heap.size) (by go_size); have zB0 := keepZ hb1 (g := w.heap.size) (by go_size)
    have HB1 : Hid (Below w.heap.size w w1) := by unfold Hid; (repeat' (first | (with_reducible exact Below.refl _ _) | (with_reducible refine Below.alloc ?_ ?_ _) | (with_reducible refine Below.setCell ?_ ?_ _) | (with_reducible refine Below.drew ?_) | (refine Below.trans ?_ (Below.mono (by with_reducible assumption) ?_)) | go_size))
    clear hb1
    obtain ⟨lb, lo, rfl, hlb, hc0, hc1, hc2⟩ := HR.out.at3 hl
    have hc0 := (HB1.out.cell (p := ⟨lb, lo + l * 3, none⟩) hlb).trans hc0
    have hc1 := (HB1.out.cell (p := ⟨lb, lo + l * 3 + 1, none⟩) hlb).trans hc1
    have hc2 := (HB1.out.cell (p := ⟨lb, lo + l * 3 + 2, none⟩) hlb).trans hc2
    rw [HL.out.1] at hc0
    rw [HL.out.2.1] at hc1
    rw [HL.out.2.2] at hc2
    go_wp2_with (go_at_call 38; (with_reducible refine (l1In_any _ _ _ _).mono ?_); rintro e w' ⟨rfl, rfl⟩)
    go_ret
    exact ⟨rfl, HB1.out.alloc HB1.out.size _⟩
  · have hB : lB ls l = b := by unfold endsAt at he; omega
    have ho : oth ls l b = lA ls l := by unfold oth; rw [if_neg hA]
    rw [ho]
    have HL := Lib.hid (And.intro l1 (And.intro l2 hz2))
    have he1 : ((lA ls l : Int) == (b : Int)) = false := by simp; exact fun h => hA (by omega)
    have he2 : ((lB ls l : Int) == (b : Int)) = true := by simp [hB]
    generalize lA ls l = a at HL he1 ⊢
    generalize lB ls l = d at HL he2
    clear l1 l2 l3 l4 l5 hN he hA ho hz2 hB
    go_enter Try.func53, Try.ntmps53
    go_wp2_with fail
    refine (specNetValid_any (n : Int) A c ls _ (HR.out.alloc _) (by omega)).mono ?_
    rintro e w1 ⟨rfl, hb1⟩
    rw [HNV.out]
    have cB0 := keepB hb1 (g := w.heap.size) (by go_size); have zB0 := keepZ hb1 (g := w.heap.size) (by go_size)
    have HB1 : Hid (Below w.heap.size w w1) := by unfold Hid; (repeat' (first | (with_reducible exact Below.refl _ _) | (with_reducible refine Below.alloc ?_ ?_ _) | (with_reducible refine Below.setCell ?_ ?_ _) | (with_reducible refine Below.drew ?_) | (refine Below.trans ?_ (Below.mono (by with_reducible assumption) ?_)) | go_size))
    clear hb1
    obtain ⟨lb, lo, rfl, hlb, hc0, hc1, hc2⟩ := HR.out.at3 hl
    have hc0 := (HB1.out.cell (p := ⟨lb, lo + l * 3, none⟩) hlb).trans hc0
    have hc1 := (HB1.out.cell (p := ⟨lb, lo + l * 3 + 1, none⟩) hlb).trans hc1
    have hc2 := (HB1.out.cell (p := ⟨lb, lo + l * 3 + 2, none⟩) hlb).trans hc2
    rw [HL.out.1] at hc0
    rw [HL.out.2.1] at hc1
    rw [HL.out.2.2] at hc2
    go_wp2_with (go_at_call 38; (with_reducible refine (l1In_any _ _ _ _).mono ?_); rintro e w' ⟨rfl, rfl⟩)
    go_ret
    exact ⟨rfl, HB1.out.alloc HB1.out.size _⟩
theorem Res.cellI {w : World} {T : TypeId} {B g n c : Nat} {xs : List Int} (h : Res 1 intC T w B (.slice (some ⟨g, 0, none⟩) n c) xs) {k : Nat} (hk : k < xs.length) (d : Int) : w.cell? ⟨g, k, none⟩ = some (.int .i64 (xs.getD k d)) := by
  have hr := h.reads.1
  obtain ⟨b, o, e, _, hc⟩ := hr.at1 hk
  injection e with e; injection e with e1 e2; subst e1 e2
  rw [Nat.zero_add] at hc
  rw [hc, getD_lt hk]; rfl
theorem Res.setI {w : World} {T : TypeId} {B g n c : Nat} {xs : List Int} (h : Res 1 intC T w B (.slice (some ⟨g, 0, none⟩) n c) xs) {k : Nat} (hk : k < xs.length) (x : Int) :
    (∀ i, w.frozen? ⟨g, i, none⟩ = false) ∧ B ≤ g ∧ g < w.heap.size ∧ Res 1 intC T (w.setCell ⟨g, k, none⟩ (.int .i64 x)) B (.slice (some ⟨g, 0, none⟩) n c) (xs.set k x) := by
  obtain ⟨A, c', e, h⟩ := h
  injection e with e1 e2 e3
  rcases h with h | ⟨g', m, f, hA, hB, hr, hm, hf⟩
  · rw [h] at hk; simp at hk
  · rw [hA] at e1; injection e1 with e1; injection e1 with e1; subst e1
    refine ⟨hr.frozen, hB, hr.lt, Res.of_row hB (hr.set k (.int .i64 x)) (by simp [e2]) (by simpa using hm) (fun i y hy j hj => ?_)⟩
    obtain rfl : j = 0 := by omega
    rw [Nat.mul_one, Nat.add_zero]
    rw [List.getElem?_set] at hy
    by_cases e : k = i
    · subst e; rw [if_pos rfl] at hy; rw [if_pos rfl]
      rw [if_pos hk] at hy; injection hy with hy; subst hy; rfl
    · rw [if_neg e] at hy; rw [if_neg (fun q => e q.symm)]
      have := hf i y hy 0 (by omega)
      rw [Nat.mul_one, Nat.add_zero] at this; exact this
theorem Res.far {α : Type} {k : Nat} {cl : α → Nat → Value} {w : World} {T : TypeId} {B g n c : Nat} {xs : List α} (h : Res k cl T w B (.slice (some ⟨g, 0, none⟩) n c) xs) {p : Addr} (hp : g ≠ p.block) (u : Value) : Res k cl T (w.setCell p u) B (.slice (some ⟨g, 0, none⟩) n c) xs := by
  obtain ⟨A, c', e, h⟩ := h
  injection e with e1 e2 e3
  refine ⟨A, c', by rw [e1, e2, e3], ?_⟩
  rcases h with h | ⟨g', m, f, hA, hB, hr, hm, hf⟩
  · exact .inl h
  · rw [hA] at e1; injection e1 with e1; injection e1 with e1; subst e1
    exact .inr ⟨g, m, f, hA, hB, hr.of_block (Below.heap_setCell w p u g hp), hm, hf⟩
theorem prelax_off {ls : List R3} {on : List Bool} {p : List Int} {k : Nat} (h : on.getD k false = false) : prelax ls on p k = p := by
  have e1 : prelB ls on p k = p := by unfold prelB; rw [if_neg (fun q => by rw [h] at q; cases q.1)]
  unfold prelax; rw [e1]; unfold prelA; rw [if_neg (fun q => by rw [h] at q; cases q.1)]
theorem prelax_on {ls : List R3} {on : List Bool} {p : List Int} {k a b : Nat} (h : on.getD k false = true) (ha : lA ls k = a) (hb : lB ls k = b) (hne : a ≠ b) :
    prelax ls on p k = if -2 < p.getD a (-2) ∧ p.getD b (-2) = -2 then p.set b (k : Int) else if -2 < p.getD b (-2) ∧ p.getD a (-2) = -2 then p.set a (k : Int) else p := by
  subst ha; subst hb
  by_cases q : -2 < p.getD (lA ls k) (-2) ∧ p.getD (lB ls k) (-2) = -2
  · rw [if_pos q]
    have e1 : prelB ls on p k = p.set (lB ls k) (k : Int) := by unfold prelB; rw [if_pos ⟨h, q⟩]
    unfold prelax; rw [e1]; unfold prelA
    rw [if_neg (fun t => by have := t.2.2; rw [getD_set, if_neg (fun e => hne e.1)] at this; omega)]
  · rw [if_neg q]
    have e1 : prelB ls on p k = p := by unfold prelB; rw [if_neg (fun t => q t.2)]
    unfold prelax; rw [e1]; unfold prelA
    by_cases q2 : -2 < p.getD (lB ls k) (-2) ∧ p.getD (lA ls k) (-2) = -2
    · rw [if_pos ⟨h, q2⟩, if_pos q2]
    · rw [if_neg (fun t => q2 t.2), if_neg q2]
theorem par0_take {bs : List R2} {i : Nat} (h : i < bs.length) : (par0 bs).take (i + 1) = (par0 bs).take i ++ [if 0 < bs[i].a then -1 else -2] := by
  rw [List.take_add_one]
  congr 1
  unfold par0
  rw [List.getElem?_map, List.getElem?_eq_getElem h]; rfl
theorem proundTo_len {ls : List R3} {on : List Bool} {p : List Int} (k : Nat) : (proundTo ls on p k).length = p.length := by
  induction k with
  | zero => rfl
  | succ k ih => show (prelax ls on (proundTo ls on p k) k).length = _; rw [prelax_len, ih]
theorem prounds_len {ls : List R3} {on : List Bool} {p : List Int} (k : Nat) : (prounds ls on p k).length = p.length := by
  induction k with
  | zero => rfl
  | succ k ih => show (proundTo ls on (prounds ls on p k) on.length).length = _; rw [proundTo_len, ih]
end Go.Proofs.Ytdfgdeccejcpfaa
