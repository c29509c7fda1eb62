/- impl.treeOf. -/
import Derived.Test.YtdfgdeccejcpfaaTr
import Derived.Test.YtdfgdeccejcpfaaZoA
import Derived.Deep.RegionHeld3
import Derived.Deep.DeepCutAuto
namespace Go.Proofs.Ytdfgdeccejcpfaa
open Go.RowKit Go.Deep
set_option linter.unusedSimpArgs false
set_option linter.unusedVariables false

/-- A tree that a call returned, as a value. -/
structure TreeR (w : World) (B : Int) (L : Value) (ls : List R3) (on : List Bool) (bs : List R2) (v : Value) (F P : List Int) (O : List Nat) : Prop where
  val : ∃ gF gP oA oc, v = .agg #[.int .i64 B, L, .slice (some ⟨gF, 0, none⟩) bs.length bs.length, .slice (some ⟨gP, 0, none⟩) bs.length bs.length, .slice oA O.length oc] ∧
    RowL iV (-1) w gF 3 F ∧ RowL iV (-1) w gP 3 P ∧ Reads 1 intC w w.heap.size oA (natI O)
  tree : TreeS ls on bs bs.length O.length F P O
theorem TreeR.keep {w w' : World} {B : Int} {L : Value} {ls : List R3} {on : List Bool} {bs : List R2} {v : Value} {F P : List Int} {O : List Nat} (h : TreeR w B L ls on bs v F P O) (hb : Below w.heap.size w w') : TreeR w' B L ls on bs v F P O := by
  obtain ⟨⟨gF, gP, oA, oc, e, h1, h2, h3⟩, ht⟩ := h
  exact ⟨⟨gF, gP, oA, oc, e, h1.keep hb, h2.keep hb, (h3.below hb (Nat.le_refl _)).more hb.size⟩, ht⟩
abbrev noTree : Value := .agg #[.int .i64 0, .slice none 0 0, .slice none 0 0, .slice none 0 0, .slice none 0 0]
def TreeRet (w : World) (B : Int) (L : Value) (ls : List R3) (on : List Bool) (bs : List R2) (e : Ending) (w' : World) : Prop :=
  Below w.heap.size w w' ∧ ((RadP B ls on bs ∧ ∃ v F P O, e = .returned (.tuple #[v, .bool true]) ∧ TreeR w' B L ls on bs v F P O) ∨ (¬ RadP B ls on bs ∧ e = .returned (.tuple #[noTree, .bool false])))
theorem row_zero (w : World) (n : Nat) (T : TypeId) {g : Nat} (hg : g = w.heap.size) : RowL iV (-1) (w.alloc (.cells (madeCells #[Value.int .i64 0] n) T)) g T (List.replicate n 0) := by
  subst hg
  have h := RowL.made (f := iV) (d := 0) w n T
  refine RowL.of_row (n := n) (u := fun j => iV ((List.replicate n (0 : Int)).getD j 0)) ?_ (by simp) (fun i hi => ?_)
  · unfold RowL at h; rw [List.length_replicate] at h; exact h
  · rw [getD_rep, List.getD_eq_getElem?_getD, List.getElem?_replicate, if_pos hi]; rfl
theorem treeM_new {w : World} {n : Nat} {L : Value} {gt gF gP : Nat} (hb : Bk w gt 72 #[.int .i64 (n : Int), L, .slice (some ⟨gF, 0, none⟩) n n, .slice (some ⟨gP, 0, none⟩) n n, .slice none 0 0])
    (hF : RowL iV (-1) w gF 3 (List.replicate n 0)) (hP : RowL iV (-1) w gP 3 (List.replicate n 0)) : TreeM w w.heap.size (n : Int) L gt gF gP (.slice none 0 0) (List.replicate n 0) (List.replicate n 0) [] :=
  ⟨by simpa using hb, hF, hP, Own.nil⟩
theorem TreeM.far {w : World} {B0 : Nat} {B : Int} {L : Value} {gt gF gP : Nat} {vO : Value} {F P : List Int} {O : List Nat} (h : TreeM w B0 B L gt gF gP vO F P O) {p : Addr} (hp : p.block < B0) (h1 : gt ≠ p.block) (h2 : gF ≠ p.block) (h3 : gP ≠ p.block) (u : Value) : TreeM (w.setCell p u) B0 B L gt gF gP vO F P O :=
  ⟨h.bk.far h1 u, h.rF.far h2 u, h.rP.far h3 u, h.ow.far hp u⟩
theorem all_neg {X : List Int} {n : Nat} (hl : X.length = n) (h : ∀ j, j < n → X.getD j (-1) = -1) : X = List.replicate n (-1) := by
  refine ext_getD (-1) (by simp [hl]) (fun i => ?_)
  rw [getD_rep]
  by_cases hi : i < n
  · exact h i hi
  · exact getD_oob (by omega)
set_option maxRecDepth 100000 in
set_option maxHeartbeats 8000000 in
theorem treeOf_any (B : Int) (A A1 A2 : Option Addr) (c c1 c2 : Nat) (ls : List R3) (on : List Bool) (bs : List R2) (w : World) (hR : Reads 3 r3C w w.heap.size A ls) (hR1 : Reads 1 boolC w w.heap.size A1 on) (hR2 : Reads 2 r2C w w.heap.size A2 bs) (hl : ls.length ≤ 1048576) (hl1 : on.length ≤ 1048576) (hl2 : bs.length ≤ 1048576) :
    Calls Try.prog 48 #[.agg #[.int .i64 B, .slice A ls.length c], .slice A1 on.length c1, .slice A2 bs.length c2] w (TreeRet w B (.slice A ls.length c) ls on bs) := by
  have HR := Lib.hid hR; have HR1 := Lib.hid hR1; have HR2 := Lib.hid hR2
  clear hR hR1 hR2
  have HRX : ∀ W, Below w.heap.size w W → Reads 3 r3C W W.heap.size A ls ∧ Reads 1 boolC W W.heap.size A1 on ∧ Reads 2 r2C W W.heap.size A2 bs := fun W h => ⟨(HR.out.below h (Nat.le_refl _)).more h.size, (HR1.out.below h (Nat.le_refl _)).more h.size, (HR2.out.below h (Nat.le_refl _)).more h.size⟩
  have HRD := Lib.hid HRX; clear HRX
  by_cases hf : FedP B ls on bs
  · have hfv := fedV_t.2 hf
    have HF := Lib.hid hf
    clear hf
    by_cases hc : cycP ls on
    · have hcv := pB_true hc
      have HNR : Hid (¬ RadP B ls on bs) := fun h => h.2.1 hc
      clear hc
      have HCV := Lib.hid hcv; have HFV := Lib.hid hfv
      clear hcv hfv
      go_enter Try.func48, Try.ntmps48
      go_wp2_with fail
      refine (implFedValid_any B A A1 A2 c c1 c2 ls on bs _ (HRD.out _ (by (repeat' (first | (with_reducible exact Below.refl _ _) | (with_reducible refine Below.alloc ?_ ?_ _) | (with_reducible refine Below.setCell ?_ ?_ _) | (with_reducible refine Below.drew ?_) | (refine Below.trans ?_ (Below.mono (by with_reducible assumption) ?_)) | go_size)))).1 (HRD.out _ (by (repeat' (first | (with_reducible exact Below.refl _ _) | (with_reducible refine Below.alloc ?_ ?_ _) | (with_reducible refine Below.setCell ?_ ?_ _) | (with_reducible refine Below.drew ?_) | (refine Below.trans ?_ (Below.mono (by with_reducible assumption) ?_)) | go_size)))).2.2 hl hl1 hl2).mono ?_
      rintro e w1 ⟨rfl, hb1⟩
      rw [HFV.out]
      have cB0 := keepB hb1 (g := w.heap.size) (by go_size); have fB0 := keepF hb1 (g := w.heap.size) (by go_size); have zB0 := keepZ hb1 (g := w.heap.size) (by go_size)
      have cB1 := keepB hb1 (g := w.heap.size + 1) (by go_size); have fB1 := keepF hb1 (g := w.heap.size + 1) (by go_size); have zB1 := keepZ hb1 (g := w.heap.size + 1) (by go_size)
      have HB1 : Hid (Below w.heap.size w w1) := by unfold Hid; (repeat' (first | (with_reducible exact Below.refl _ _) | (with_reducible refine Below.alloc ?_ ?_ _) | (with_reducible refine Below.setCell ?_ ?_ _) | (with_reducible refine Below.drew ?_) | (refine Below.trans ?_ (Below.mono (by with_reducible assumption) ?_)) | go_size))
      clear hb1
      go_wp2_with fail
      refine (hasCycle_any B A A1 c c1 ls on _ HF.out.1.1 HF.out.1.2 (HRD.out _ HB1.out).1 (HRD.out _ HB1.out).2.1).mono ?_
      rintro e w2 ⟨rfl, hb2⟩
      rw [HCV.out]
      have cD0 := keepB hb2 (g := w.heap.size) (by go_size); have fD0 := keepF hb2 (g := w.heap.size) (by go_size); have zD0 := keepZ hb2 (g := w.heap.size) (by go_size)
      have cD1 := keepB hb2 (g := w.heap.size + 1) (by go_size); have fD1 := keepF hb2 (g := w.heap.size + 1) (by go_size); have zD1 := keepZ hb2 (g := w.heap.size + 1) (by go_size)
      have HB2 : Hid (Below w.heap.size w w2) := HB1.out.trans (hb2.mono HB1.out.size)
      clear hb2
      go_wp2_with fail
      refine bodyPost_ret (v := .tuple #[noTree, .bool false]) (by simp [results, Try.results48, go_sem, cD1, cB1]; try rfl) rfl ?_
      refine ⟨?_, .inr ⟨HNR.out, rfl⟩⟩
      have hb := HB2.out; (repeat' (first | (with_reducible exact Below.refl _ _) | (with_reducible refine Below.alloc ?_ ?_ _) | (with_reducible refine Below.setCell ?_ ?_ _) | (with_reducible refine Below.drew ?_) | (refine Below.trans ?_ (Below.mono (by with_reducible assumption) ?_)) | go_size))
    · have hcv := pB_false hc
      have HCV := Lib.hid hcv; have HFV := Lib.hid hfv; have HNC := Lib.hid hc
      clear hcv hfv hc
      have HE := Lib.hid HF.out.ends
      have hlens := HF.out.lens
      obtain ⟨hb8, hb1, hm10, -, hBn⟩ := hlens
      obtain ⟨n, hn⟩ : ∃ n, bs.length = n := ⟨_, rfl⟩
      have HNL := Lib.hid hn
      rw [hn] at hb8 hb1 hBn
      clear hn
      subst hBn
      have hmk := fun W => run_mk (P := Try.prog) 25 3 (.int .i64 0) 1 8 n Try.underlying25 (by kernel_rfl) (by omega) (by omega) W
      simp only [Nat.mul_one] at hmk
      go_enter Try.func48, Try.ntmps48
      go_wp2_with fail
      refine (implFedValid_any (n : Int) A A1 A2 c c1 c2 ls on bs _ (HRD.out _ (by (repeat' (first | (with_reducible exact Below.refl _ _) | (with_reducible refine Below.alloc ?_ ?_ _) | (with_reducible refine Below.setCell ?_ ?_ _) | (with_reducible refine Below.drew ?_) | (refine Below.trans ?_ (Below.mono (by with_reducible assumption) ?_)) | go_size)))).1 (HRD.out _ (by (repeat' (first | (with_reducible exact Below.refl _ _) | (with_reducible refine Below.alloc ?_ ?_ _) | (with_reducible refine Below.setCell ?_ ?_ _) | (with_reducible refine Below.drew ?_) | (refine Below.trans ?_ (Below.mono (by with_reducible assumption) ?_)) | go_size)))).2.2 hl hl1 hl2).mono ?_
      rintro e w1 ⟨rfl, hb1⟩
      rw [HFV.out]
      have cB0 := keepB hb1 (g := w.heap.size) (by go_size); have fB0 := keepF hb1 (g := w.heap.size) (by go_size); have zB0 := keepZ hb1 (g := w.heap.size) (by go_size)
      have HK1 : Hid (Bk w1 (w.heap.size + 1) 72 #[.int .i64 0, .slice none 0 0, .slice none 0 0, .slice none 0 0, .slice none 0 0]) := (Bk.new_at _ _ _ (by simp)).keep hb1
      have HG1 : Hid (Bk w1 w.heap.size 30 #[.int .i64 (n : Int), .slice A ls.length c]) := ((Bk.new _ _ _).alloc _).keep hb1
      have HB1 : Hid (Below w.heap.size w w1) := by unfold Hid; (repeat' (first | (with_reducible exact Below.refl _ _) | (with_reducible refine Below.alloc ?_ ?_ _) | (with_reducible refine Below.setCell ?_ ?_ _) | (with_reducible refine Below.drew ?_) | (refine Below.trans ?_ (Below.mono (by with_reducible assumption) ?_)) | go_size))
      clear hb1
      go_wp2_with fail
      refine (hasCycle_any (n : Int) A A1 c c1 ls on _ HF.out.1.1 HF.out.1.2 (HRD.out _ HB1.out).1 (HRD.out _ HB1.out).2.1).mono ?_
      rintro e w2 ⟨rfl, hb2⟩
      rw [HCV.out]
      have cD0 := keepB hb2 (g := w.heap.size) (by go_size); have fD0 := keepF hb2 (g := w.heap.size) (by go_size); have zD0 := keepZ hb2 (g := w.heap.size) (by go_size)
      have HK2 := Lib.hid (HK1.out.keep hb2)
      have HB2 : Hid (Below w.heap.size w w2) := HB1.out.trans (hb2.mono HB1.out.size)
      have hG0 : Bk w2 w.heap.size 30 #[.int .i64 (n : Int), .slice A ls.length c] := HG1.out.keep hb2
      clear hb2 cB0 fB0 zB0 cD0 fD0 zD0 HK1 HB1
      have HG0 := Lib.hid hG0
      have cD0 := hG0.cell; have zD0 := hG0.lt
      clear hG0
      go_upto_region 3 with fail
      go_cut [8] (fun s8 wx => ∃ gt : Nat, s8 = .pointer (some ⟨gt, 0, none⟩) ∧ Hid (∃ gF gP, TreeN wx.heap.size gt gF gP ∧ w2.heap.size ≤ gt ∧ w2.heap.size ≤ gF ∧ w2.heap.size ≤ gP ∧ TreeM wx wx.heap.size (n : Int) (.slice A ls.length c) gt gF gP (.slice none 0 0) (List.replicate n 0) (List.replicate n 0) [] ∧ Below w2.heap.size w2 wx))
      case first =>
        have zD1 : w.heap.size < w2.heap.size + 1 := by omega
        have zD2 : w.heap.size < w2.heap.size + 1 + 1 := by omega
        have zD3 : w.heap.size < w2.heap.size + 1 + 1 + 1 := by omega
        have hs0 : w2.cell? ⟨w.heap.size, 0, none⟩ = some (.int .i64 (n : Int)) := cD0 0
        have hs1 : w2.cell? ⟨w.heap.size, 1, none⟩ = some (.slice A ls.length c) := cD0 1
        clear cD0
        go_region_held3 (fun w' => w'.cell? ⟨w.heap.size, 0, none⟩ = some (.int .i64 (n : Int)) ∧ w'.cell? ⟨w.heap.size, 1, none⟩ = some (.slice A ls.length c)) (simp [go_sem, World.cell?_alloc_past, *]) (first | fail)
        · go_wp2_with fail
          go_meet
          refine ⟨w2.heap.size + 1 + 1, rfl, w2.heap.size, w2.heap.size + 1, ⟨?_, ?_, ?_, ?_, ?_, ?_⟩, by omega, by omega, by omega, (treeM_new ((Bk.new_at _ _ _ (by simp))) ((((row_zero _ n _ (by simp))).alloc _).alloc _) (((row_zero _ n _ (by simp))).alloc _)).drew, ?_⟩
          all_goals first | (simp only [World.size_drew, World.size_alloc]; omega) | omega | skip
          (repeat' (first | (with_reducible exact Below.refl _ _) | (with_reducible refine Below.alloc ?_ ?_ _) | (with_reducible refine Below.setCell ?_ ?_ _) | (with_reducible refine Below.drew ?_) | (refine Below.trans ?_ (Below.mono (by with_reducible assumption) ?_)) | go_size))
        · go_wp2_with fail
          go_meet
          refine ⟨w2.heap.size + 1, rfl, w2.heap.size, w2.heap.size + 1 + 1, ⟨?_, ?_, ?_, ?_, ?_, ?_⟩, by omega, by omega, by omega, (treeM_new (((Bk.new_at _ _ _ (by simp))).alloc _) ((((row_zero _ n _ (by simp))).alloc _).alloc _) ((row_zero _ n _ (by simp)))).drew, ?_⟩
          all_goals first | (simp only [World.size_drew, World.size_alloc]; omega) | omega | skip
          (repeat' (first | (with_reducible exact Below.refl _ _) | (with_reducible refine Below.alloc ?_ ?_ _) | (with_reducible refine Below.setCell ?_ ?_ _) | (with_reducible refine Below.drew ?_) | (refine Below.trans ?_ (Below.mono (by with_reducible assumption) ?_)) | go_size))
        · go_wp2_with fail
          go_meet
          refine ⟨w2.heap.size + 1 + 1, rfl, w2.heap.size + 1, w2.heap.size, ⟨?_, ?_, ?_, ?_, ?_, ?_⟩, by omega, by omega, by omega, (treeM_new ((Bk.new_at _ _ _ (by simp))) (((row_zero _ n _ (by simp))).alloc _) ((((row_zero _ n _ (by simp))).alloc _).alloc _)).drew, ?_⟩
          all_goals first | (simp only [World.size_drew, World.size_alloc]; omega) | omega | skip
          (repeat' (first | (with_reducible exact Below.refl _ _) | (with_reducible refine Below.alloc ?_ ?_ _) | (with_reducible refine Below.setCell ?_ ?_ _) | (with_reducible refine Below.drew ?_) | (refine Below.trans ?_ (Below.mono (by with_reducible assumption) ?_)) | go_size))
        · go_wp2_with fail
          go_meet
          refine ⟨w2.heap.size + 1, rfl, w2.heap.size + 1 + 1, w2.heap.size, ⟨?_, ?_, ?_, ?_, ?_, ?_⟩, by omega, by omega, by omega, (treeM_new (((Bk.new_at _ _ _ (by simp))).alloc _) ((row_zero _ n _ (by simp))) ((((row_zero _ n _ (by simp))).alloc _).alloc _)).drew, ?_⟩
          all_goals first | (simp only [World.size_drew, World.size_alloc]; omega) | omega | skip
          (repeat' (first | (with_reducible exact Below.refl _ _) | (with_reducible refine Below.alloc ?_ ?_ _) | (with_reducible refine Below.setCell ?_ ?_ _) | (with_reducible refine Below.drew ?_) | (refine Below.trans ?_ (Below.mono (by with_reducible assumption) ?_)) | go_size))
        · go_wp2_with fail
          go_meet
          refine ⟨w2.heap.size, rfl, w2.heap.size + 1, w2.heap.size + 1 + 1, ⟨?_, ?_, ?_, ?_, ?_, ?_⟩, by omega, by omega, by omega, (treeM_new ((((Bk.new_at _ _ _ (by simp))).alloc _).alloc _) (((row_zero _ n _ (by simp))).alloc _) ((row_zero _ n _ (by simp)))).drew, ?_⟩
          all_goals first | (simp only [World.size_drew, World.size_alloc]; omega) | omega | skip
          (repeat' (first | (with_reducible exact Below.refl _ _) | (with_reducible refine Below.alloc ?_ ?_ _) | (with_reducible refine Below.setCell ?_ ?_ _) | (with_reducible refine Below.drew ?_) | (refine Below.trans ?_ (Below.mono (by with_reducible assumption) ?_)) | go_size))
        · go_wp2_with fail
          go_meet
          refine ⟨w2.heap.size, rfl, w2.heap.size + 1 + 1, w2.heap.size + 1, ⟨?_, ?_, ?_, ?_, ?_, ?_⟩, by omega, by omega, by omega, (treeM_new ((((Bk.new_at _ _ _ (by simp))).alloc _).alloc _) ((row_zero _ n _ (by simp))) (((row_zero _ n _ (by simp))).alloc _)).drew, ?_⟩
          all_goals first | (simp only [World.size_drew, World.size_alloc]; omega) | omega | skip
          (repeat' (first | (with_reducible exact Below.refl _ _) | (with_reducible refine Below.alloc ?_ ?_ _) | (with_reducible refine Below.setCell ?_ ?_ _) | (with_reducible refine Below.drew ?_) | (refine Below.trans ?_ (Below.mono (by with_reducible assumption) ?_)) | go_size))
      case rest =>
        obtain ⟨gt, rfl, HCT⟩ := hcut
        obtain ⟨gF, gP, htn, hg1, hg2, hg3, htm, hbw⟩ := HCT.out
        clear HCT
        have hG6 := HK2.out.lt
        have cD0 := (HG0.out.below hbw HG0.out.lt).cell
        have hB0z : wc.heap.size ≤ wc.heap.size := Nat.le_refl _
        generalize hB0 : wc.heap.size = B0 at htn htm
        rw [hB0] at hB0z
        have hB0y : B0 ≤ wc.heap.size := by omega
        clear hB0z hB0
        have hBG6 : w.heap.size + 1 < B0 := by have := htn.a; omega
        have HT := Lib.hid htn; have HTM := Lib.hid htm; have HBW := Lib.hid hbw
        clear htn htm hbw hmk
        have HX0 : Hid ((List.replicate n (0 : Int)).length = n ∧ (List.replicate n (0 : Int)).length = n ∧ ∀ j, j < 0 → (List.replicate n (0 : Int)).getD j (-1) = -1 ∧ (List.replicate n (0 : Int)).getD j (-1) = -1) := ⟨by simp, by simp, fun j hj => by omega⟩
        go_wp2_with fail
        go_loopw [33] (fun t wr => ∃ (i : Nat) (X Y : List Int), t = .int .i64 i ∧ i ≤ n ∧ B0 ≤ wr.heap.size ∧ Hid (X.length = n ∧ Y.length = n ∧ ∀ j, j < i → X.getD j (-1) = -1 ∧ Y.getD j (-1) = -1) ∧ Hid (TreeM wr B0 (n : Int) (.slice A ls.length c) gt gF gP (.slice none 0 0) X Y []) ∧ Hid (Below w2.heap.size w2 wr)) (fun t _ => n - (intOf t).toNat)
        case atStart => exact ⟨0, _, _, rfl, Nat.zero_le _, hB0y, HX0, HTM, HBW⟩
        case round =>
          clear HX0 HTM HBW hB0y cD0
          obtain ⟨i, X, Y, rfl, hi, hB0y, HX, HM, HB⟩ := hrel
          by_cases hlt : i < n
          · have hXl := HX.out.1; have hYl := HX.out.2.1
            have cG := HM.out.bk.cell
            rw [hXl, hYl] at cG
            have zG := HM.out.bk.lt
            have cF := HM.out.rF.cell (i := i) (by omega)
            have cP := HM.out.rP.cell (i := i) (by omega)
            have fF := HM.out.rF.frozen; have fP := HM.out.rP.frozen
            have n1 := HT.out.f; have n2 : gP ≠ gF := fun e => n1 e.symm
            have n3 := HT.out.d; have n4 := HT.out.e
            have hi1 : (i : Int) < (n : Int) := by omega
            have hi0 : (0 : Int) ≤ (i : Int) := by omega
            have HMN : Hid (TreeM ((wr.setCell ⟨gF, i, none⟩ (.int .i64 (-1))).setCell ⟨gP, i, none⟩ (.int .i64 (-1))) B0 (n : Int) (.slice A ls.length c) gt gF gP (.slice none 0 0) (X.set i (-1)) (Y.set i (-1)) []) :=
              (HM.out.setF HT.out (by omega) _).setP HT.out (by omega) _
            have HBN : Hid (Below w2.heap.size w2 ((wr.setCell ⟨gF, i, none⟩ (.int .i64 (-1))).setCell ⟨gP, i, none⟩ (.int .i64 (-1)))) := (HB.out.setCell (p := ⟨gF, i, none⟩) hg2 _).setCell (p := ⟨gP, i, none⟩) hg3 _
            have HXN : Hid ((X.set i (-1)).length = n ∧ (Y.set i (-1)).length = n ∧ ∀ j, j < i + 1 → (X.set i (-1)).getD j (-1) = -1 ∧ (Y.set i (-1)).getD j (-1) = -1) := by
              refine ⟨by simp [hXl], by simp [hYl], fun j hj => ?_⟩
              rw [getD_set, getD_set]
              by_cases e : j = i
              · rw [if_pos ⟨e, by omega⟩, if_pos ⟨e, by omega⟩]; exact ⟨rfl, rfl⟩
              · rw [if_neg (fun q => e q.1), if_neg (fun q => e q.1)]; exact HX.out.2.2 j (by omega)
            clear hXl hYl
            go_wp2_with fail
            exact ⟨⟨i + 1, _, _, by go_num, by omega, by simp [World.setCell]; omega, HXN, HMN, HBN⟩, by simp [intOf]; omega⟩
          · obtain rfl : i = n := by omega
            have eX := all_neg HX.out.1 (fun j hj => (HX.out.2.2 j hj).1)
            have eY := all_neg HX.out.2.1 (fun j hj => (HX.out.2.2 j hj).2)
            have HM0 : Hid (TreeM wr B0 (i : Int) (.slice A ls.length c) gt gF gP (.slice none 0 0) (List.replicate i (-1)) (List.replicate i (-1)) []) := by have h := HM.out; rw [eX, eY] at h; exact h
            have HS0 : Hid (TreeS ls on bs 0 ([] : List Nat).length (List.replicate i (-1)) (List.replicate i (-1)) []) := by have h := TreeS.start (ls := ls) (on := on) (bs := bs); rw [HNL.out] at h; exact h
            clear eX eY HM HX
            have hbl : bs.length = i := HNL.out
            rw [hbl] at hl2
            rw [hbl]
            clear hbl
            go_wp2_with fail
            go_loopw [47] (fun t wr => ∃ (q : Nat) (v : Value) (F P : List Int) (O : List Nat), t = .int .i64 q ∧ q ≤ i ∧ B0 ≤ wr.heap.size ∧ Hid (TreeM wr B0 (i : Int) (.slice A ls.length c) gt gF gP v F P O) ∧ Hid (TreeS ls on bs q O.length F P O) ∧ Hid (Below w2.heap.size w2 wr)) (fun t _ => i - (intOf t).toNat)
            case atStart => exact ⟨0, _, _, _, _, rfl, Nat.zero_le _, hB0y, HM0, HS0, HB⟩
            case round =>
              clear HM0 HS0 HB hB0y
              obtain ⟨q, v, F, P, O, rfl, hq, hB0y, HM, HS, HB⟩ := hrel
              have HBW : Hid (Below w.heap.size w wr) := HB2.out.trans (HB.out.mono HB2.out.size)
              have HK6 := Lib.hid (HK2.out.below HB.out hG6)
              have hFl : F.length = i := by rw [HS.out.lenF]; exact HNL.out
              have hPl : P.length = i := by rw [HS.out.lenP]; exact HNL.out
              have HFP := Lib.hid (And.intro hFl hPl)
              have n1 : gF ≠ w.heap.size + 1 := by omega
              have n2 : gP ≠ w.heap.size + 1 := by omega
              have n3 : gt ≠ w.heap.size + 1 := by omega
              have hzw : w2.heap.size ≤ wr.heap.size := HB.out.size
              by_cases hlt : q < i
              · have hx : q < bs.length := by rw [HNL.out]; exact hlt
                obtain ⟨lb, lo, rfl, hlb, hc0, hc1⟩ := HR2.out.at2 hx
                have hc0 := (HBW.out.cell (p := ⟨lb, lo + q * 2, none⟩) hlb).trans hc0
                have hc1 := (HBW.out.cell (p := ⟨lb, lo + q * 2 + 1, none⟩) hlb).trans hc1
                have hbk := HF.out.2.2 _ (List.getElem_mem hx)
                have hfa : feedAt bs q = bs[q].a := by unfold feedAt; rw [getD_lt hx]
                generalize bs[q] = x at hc0 hc1 hbk hfa
                have HFA := Lib.hid hfa
                have hx0 : 0 ≤ x.a := hbk.1
                clear hfa hbk
                have hi1 : (q : Int) < (i : Int) := by omega
                have hi0 : (0 : Int) ≤ (q : Int) := by omega
                have HMA := Lib.hid (HM.out.alloc (.cells #[.int .i64 x.a, .int .i64 x.b] 68))
                by_cases hxa : x.a = 0
                · have hxe : (x.a == 0) = true := by simp [hxa]
                  have HSN := Lib.hid (HS.out.skip (fun h => by have := h.2; rw [HFA.out] at this; omega))
                  have HBN : Hid (Below w2.heap.size w2 (wr.alloc (.cells #[.int .i64 x.a, .int .i64 x.b] 68))) := HB.out.alloc HB.out.size _
                  clear hxa hFl hPl
                  go_wp2_with fail
                  exact ⟨⟨q + 1, v, F, P, O, by go_num, by omega, by rw [World.size_alloc]; omega, HMA, HSN, HBN⟩, by simp [intOf]; omega⟩
                · have hxe : (x.a == 0) = false := by simp [hxa]
                  have HFE : Hid (isFeed bs q) := ⟨hx, by rw [HFA.out]; omega⟩
                  clear hxa
                  have cG := HM.out.bk.cell
                  rw [hFl, hPl] at cG
                  have zG := HM.out.bk.lt
                  have cF := HM.out.rF.cell (i := q) (by omega)
                  have fF := HM.out.rF.frozen
                  have zF := HM.out.rF.lt
                  unfold iV at cF
                  obtain ⟨y, hy⟩ : ∃ y, F.getD q (-1) = y := ⟨_, rfl⟩
                  rw [hy] at cF
                  have HY := Lib.hid hy
                  clear hy hFl hPl
                  by_cases hyn : 0 ≤ y
                  · have c6 := HK6.out.cell; have f6 := HK6.out.frozen; have z6 := HK6.out.lt
                    have HNR : Hid (¬ RadP (i : Int) ls on bs) := fun h => HS.out.twice HFE.out (by rw [HY.out]; exact hyn) h.2.2
                    go_wp2_with fail
                    refine bodyPost_ret (v := .tuple #[noTree, .bool false]) (by simp [results, Try.results48, go_sem, c6, World.cell?_alloc_past, z6]; try rfl) rfl ?_
                    refine ⟨?_, .inr ⟨HNR.out, rfl⟩⟩
                    have hb := HBW.out; (repeat' (first | (with_reducible exact Below.refl _ _) | (with_reducible refine Below.alloc ?_ ?_ _) | (with_reducible refine Below.setCell ?_ ?_ _) | (with_reducible refine Below.drew ?_) | (refine Below.trans ?_ (Below.mono (by with_reducible assumption) ?_)) | go_size))
                  · have HMS : Hid (TreeM ((wr.setCell ⟨gF, q, none⟩ (.int .i64 (q : Int))).alloc (.cells #[.int .i64 x.a, .int .i64 x.b] 68)) B0 (i : Int) (.slice A ls.length c) gt gF gP v (F.set q (q : Int)) P O) := (HM.out.setF HT.out (by rw [HFP.out.1]; exact hlt) _).alloc _
                    have HBS : Hid (Below w2.heap.size w2 ((wr.setCell ⟨gF, q, none⟩ (.int .i64 (q : Int))).alloc (.cells #[.int .i64 x.a, .int .i64 x.b] 68))) := (HB.out.setCell (p := ⟨gF, q, none⟩) hg2 _).alloc (by rw [World.size_setCell]; exact HB.out.size) _
                    have HWS : Hid (Below w.heap.size w ((wr.setCell ⟨gF, q, none⟩ (.int .i64 (q : Int))).alloc (.cells #[.int .i64 x.a, .int .i64 x.b] 68))) := HB2.out.trans (HBS.out.mono HB2.out.size)
                    have HSS := Lib.hid (HS.out.addFeed HE.out rfl HFE.out (by rw [HY.out]; exact hyn))
                    have HFS : Hid ((F.set q (q : Int)).getD q (-1) = (q : Int)) := by unfold Hid; rw [getD_set, if_pos ⟨rfl, by rw [HFP.out.1]; exact hlt⟩]
                    have hzS : B0 ≤ (((wr.setCell ⟨gF, q, none⟩ (.int .i64 (q : Int))).alloc (.cells #[.int .i64 x.a, .int .i64 x.b] 68))).heap.size := by simp only [World.size_setCell, World.size_alloc]; omega
                    go_wp2_with fail
                    refine (search_any (i : Int) A A1 c c1 ls on bs _ w2.heap.size B0 gt gF gP v (F.set q (q : Int)) P O q HF.out ((HR.out.below HWS.out (Nat.le_refl _)).more (by omega)) ((HR1.out.below HWS.out (Nat.le_refl _)).more (by omega)) HT.out hg1 hg2 hg3 hzS hx HMS.out HSS.out HFS.out).mono ?_
                    rintro e w3 ⟨rfl, hb3, v3, F3, P3, O3, hm3, hs3⟩
                    have HM3 := Lib.hid hm3; have HS3 := Lib.hid hs3
                    have HB3 : Hid (Below w2.heap.size w2 w3) := HBS.out.trans hb3
                    have hz3 : B0 ≤ w3.heap.size := Nat.le_trans hzS hb3.size
                    clear hm3 hs3 hb3 cF fF zF cG zG
                    go_wp2_with fail
                    exact ⟨⟨q + 1, v3, F3, P3, O3, by go_num, by omega, hz3, HM3, HS3, HB3⟩, by simp [intOf]; omega⟩
              · obtain rfl : q = i := by omega
                obtain ⟨oA, oc, hov⟩ := HM.out.ow.slice
                rw [natI_len] at hov
                subst hov
                have cG := HM.out.bk.cell
                rw [hFl, hPl] at cG
                have c6 := HK6.out.cell; have f6 := HK6.out.frozen; have z6 := HK6.out.lt
                have HST : Hid (TreeS ls on bs bs.length O.length F P O) := by have h := HS.out; unfold Hid; rw [HNL.out]; exact h
                have HRP : Hid (RadP (q : Int) ls on bs) := ⟨HF.out, HNC.out, (HST.out.tree HE.out).2⟩
                clear hFl hPl
                go_wp2_with fail
                refine bodyPost_ret (v := .tuple #[.agg #[.int .i64 (q : Int), .slice A ls.length c, .slice (some ⟨gF, 0, none⟩) q q, .slice (some ⟨gP, 0, none⟩) q q, .slice oA O.length oc], .bool true]) (by simp [results, Try.results48, go_sem, c6]; try rfl) rfl ?_
                refine ⟨?_, .inl ⟨HRP.out, _, F, P, O, rfl, ⟨gF, gP, oA, oc, by rw [HNL.out], ?_, ?_, ?_⟩, HST.out⟩⟩
                · have hb := HBW.out; (repeat' (first | (with_reducible exact Below.refl _ _) | (with_reducible refine Below.alloc ?_ ?_ _) | (with_reducible refine Below.setCell ?_ ?_ _) | (with_reducible refine Below.drew ?_) | (refine Below.trans ?_ (Below.mono (by with_reducible assumption) ?_)) | go_size))
                · exact ((((HM.out.rF.far (p := ⟨w.heap.size + 1, _, none⟩) n1 _).far (p := ⟨w.heap.size + 1, _, none⟩) n1 _).far (p := ⟨w.heap.size + 1, _, none⟩) n1 _).far (p := ⟨w.heap.size + 1, _, none⟩) n1 _).far (p := ⟨w.heap.size + 1, _, none⟩) n1 _
                · exact ((((HM.out.rP.far (p := ⟨w.heap.size + 1, _, none⟩) n2 _).far (p := ⟨w.heap.size + 1, _, none⟩) n2 _).far (p := ⟨w.heap.size + 1, _, none⟩) n2 _).far (p := ⟨w.heap.size + 1, _, none⟩) n2 _).far (p := ⟨w.heap.size + 1, _, none⟩) n2 _
                · exact ((((((HM.out.ow.far (p := ⟨w.heap.size + 1, _, none⟩) hBG6 _).far (p := ⟨w.heap.size + 1, _, none⟩) hBG6 _).far (p := ⟨w.heap.size + 1, _, none⟩) hBG6 _).far (p := ⟨w.heap.size + 1, _, none⟩) hBG6 _).far (p := ⟨w.heap.size + 1, _, none⟩) hBG6 _).reads rfl).1
  · have hfv := fedV_f.2 hf
    have HNR : Hid (¬ RadP B ls on bs) := fun h => hf h.1
    clear hf
    have HFV := Lib.hid hfv
    clear hfv
    go_enter Try.func48, Try.ntmps48
    go_wp2_with fail
    refine (implFedValid_any B A A1 A2 c c1 c2 ls on bs _ (HRD.out _ (by (repeat' (first | (with_reducible exact Below.refl _ _) | (with_reducible refine Below.alloc ?_ ?_ _) | (with_reducible refine Below.setCell ?_ ?_ _) | (with_reducible refine Below.drew ?_) | (refine Below.trans ?_ (Below.mono (by with_reducible assumption) ?_)) | go_size)))).1 (HRD.out _ (by (repeat' (first | (with_reducible exact Below.refl _ _) | (with_reducible refine Below.alloc ?_ ?_ _) | (with_reducible refine Below.setCell ?_ ?_ _) | (with_reducible refine Below.drew ?_) | (refine Below.trans ?_ (Below.mono (by with_reducible assumption) ?_)) | go_size)))).2.2 hl hl1 hl2).mono ?_
    rintro e w1 ⟨rfl, hb1⟩
    rw [HFV.out]
    have cB1 := keepB hb1 (g := w.heap.size + 1) (by go_size); have fB1 := keepF hb1 (g := w.heap.size + 1) (by go_size); have zB1 := keepZ hb1 (g := w.heap.size + 1) (by go_size)
    have HB1 : Hid (Below w.heap.size w w1) := by unfold Hid; (repeat' (first | (with_reducible exact Below.refl _ _) | (with_reducible refine Below.alloc ?_ ?_ _) | (with_reducible refine Below.setCell ?_ ?_ _) | (with_reducible refine Below.drew ?_) | (refine Below.trans ?_ (Below.mono (by with_reducible assumption) ?_)) | go_size))
    clear hb1
    go_wp2_with fail
    refine bodyPost_ret (v := .tuple #[noTree, .bool false]) (by simp [results, Try.results48, go_sem, cB1]; try rfl) rfl ?_
    refine ⟨?_, .inr ⟨HNR.out, rfl⟩⟩
    have hb := HB1.out; (repeat' (first | (with_reducible exact Below.refl _ _) | (with_reducible refine Below.alloc ?_ ?_ _) | (with_reducible refine Below.setCell ?_ ?_ _) | (with_reducible refine Below.drew ?_) | (refine Below.trans ?_ (Below.mono (by with_reducible assumption) ?_)) | go_size))
end Go.Proofs.Ytdfgdeccejcpfaa
