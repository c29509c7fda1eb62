/- The reference's cycles. -/
import Derived.Test.YtdfgdeccejcpfaaSpB
import Derived.StillTailTactics
namespace Go.Proofs.Ytdfgdeccejcpfaa
open Go.RowKit Go.Deep
set_option linter.unusedSimpArgs false
set_option linter.unusedVariables false

theorem l2Copy_any (A : Option Addr) (c : Nat) (on : List Bool) (w : World) (hR : Reads 1 boolC w w.heap.size A on) (hl : on.length ≤ 1048576) :
    Calls Try.prog 87 #[.slice A on.length c] w (RetS 1 boolC 4 w on) := by
  have HR := Lib.hid hR; clear hR
  go_enter Try.func87, Try.ntmps87
  have HA_1 := Lib.hid (Own.lit (k := 1) (c := boolC) (B := w.heap.size) w 4 #[] 0 [] (Nat.le_refl _) rfl (by omega) rfl); have HQ_1 := Lib.hid (Reads.more (Reads.below (HR.out) (Below.alloc (Below.refl w.heap.size w) (Nat.le_refl _) (.cells #[] 4)) (Nat.le_refl _)) (show w.heap.size ≤ (w.alloc (.cells #[] 4)).heap.size by simp)); go_wp2_with (first | (at_builtin; refine wpList_app_g (k := 1) (c := boolC) _ (by rfl) _ _ _ rfl 4 (.bool false) 1 Try.underlying36 (by kernel_rfl) rfl (by decide) (by decide) boolC_one _ _ _ rfl HA_1.out _ _ _ _ rfl HQ_1.out ?hm ?hlen ?hB ?_; (case hm => (first | rfl | (simp; done) | omega)); (case hlen => (simp only [List.length_nil]; omega)); (case hB => simp); intro v_1 w_1 hown_1 hg_1 hat_1; have HW_1 : Hid (Below w.heap.size w w_1) := (Below.alloc (Below.refl _ _) (Nat.le_refl _) _).grown hg_1 (by simp) (fun q hq => by injection hq with hq; subst hq; exact Nat.le_refl _); simp only [List.nil_append] at hown_1; have HO_1 := Lib.hid hown_1; obtain ⟨A_1, c_1, hv_1⟩ := hown_1.slice; subst hv_1; have hz_1 := HW_1.out.size; clear hown_1 hg_1 hat_1 HA_1 HQ_1))
  go_ret
  exact ⟨_, rfl, HO_1.out.res, HW_1.out⟩
theorem Res.setB {w : World} {T : TypeId} {B g n c : Nat} {xs : List Bool} (h : Res 1 boolC T w B (.slice (some ⟨g, 0, none⟩) n c) xs) {k : Nat} (hk : k < xs.length) (x : Bool) :
    (∃ y, w.cell? ⟨g, k, none⟩ = some y) ∧ (∀ i, w.frozen? ⟨g, i, none⟩ = false) ∧ B ≤ g ∧ Res 1 boolC T (w.setCell ⟨g, k, none⟩ (.bool x)) B (.slice (some ⟨g, 0, none⟩) n c) (xs.set k x) := by
  obtain ⟨A, c', e, h⟩ := h
  injection e with e1 e2 e3
  rcases h with h | ⟨g', m, f, hA, hB, hr, hm, hf⟩
  · rw [h] at hk; simp at hk
  · rw [hA] at e1; injection e1 with e1; injection e1 with e1; subst e1
    refine ⟨⟨_, hr.cell (by omega)⟩, hr.frozen, hB, Res.of_row hB (hr.set k (.bool x)) (by simp [e2]) (by simpa using hm) (fun i y hy j hj => ?_)⟩
    obtain rfl : j = 0 := by omega
    rw [Nat.mul_one, Nat.add_zero]
    rw [List.getElem?_set] at hy
    by_cases e : k = i
    · subst e; rw [if_pos rfl] at hy; rw [if_pos rfl]
      rw [if_pos hk] at hy; injection hy with hy; subst hy; rfl
    · rw [if_neg e] at hy; rw [if_neg (fun q => e q.symm)]
      have := hf i y hy 0 (by omega)
      rw [Nat.mul_one, Nat.add_zero] at this; exact this
set_option maxHeartbeats 2000000 in
theorem switchLine_any (n : Nat) (A A1 : Option Addr) (c c1 : Nat) (ls : List R3) (on : List Bool) (k : Nat) (w : World) (hN : NetP n ls) (hle : on.length = ls.length) (hk : k < on.length) (hR : Reads 3 r3C w w.heap.size A ls) (hR1 : Reads 1 boolC w w.heap.size A1 on) :
    Calls Try.prog 85 #[.agg #[.int .i64 (n : Int), .slice A ls.length c], .slice A1 on.length c1, .int .i64 (k : Int), .bool false] w fun e w' => ∃ v, e = .returned (.tuple #[v, .bool true]) ∧ Res 1 boolC 4 w' w.heap.size v (on.set k false) ∧ Below w.heap.size w w' := by
  have HR := Lib.hid hR; have HR1 := Lib.hid hR1
  clear hR hR1
  have hn8 : n ≤ 8 := by have := hN.2.1; omega
  have hm10 := hN.2.2.1
  have hsv : Hid (stV n ls on = true) := stV_t.2 ⟨hN, hle⟩
  have hl : ls.length ≤ 1048576 := by omega
  have hl1 : on.length ≤ 1048576 := by omega
  have HL := Lib.hid (And.intro hl hl1)
  have HK := Lib.hid hk
  have hon10 : on.length ≤ 10 := by omega
  clear hN hl hl1 hle hm10
  have HRX : ∀ W, Below w.heap.size w W → Reads 3 r3C W W.heap.size A ls ∧ Reads 1 boolC W W.heap.size A1 on := fun W h => ⟨(HR.out.below h (Nat.le_refl _)).more h.size, (HR1.out.below h (Nat.le_refl _)).more h.size⟩
  have HRD := Lib.hid HRX; clear HRX
  have hi0 : inB (k : Int) 0 ((on.length : Int) - 1) = true := inB_t.2 (by omega)
  go_enter Try.func85, Try.ntmps85
  go_wp2_with fail
  refine (specStateValid_any (n : Int) A A1 c c1 ls on _ (HRD.out _ (by (repeat' (first | (with_reducible exact Below.refl _ _) | (with_reducible refine Below.alloc ?_ ?_ _) | (with_reducible refine Below.setCell ?_ ?_ _) | (with_reducible refine Below.drew ?_) | (refine Below.trans ?_ (Below.mono (by with_reducible assumption) ?_)) | go_size)))).1 HL.out.1 HL.out.2).mono ?_
  rintro e w1 ⟨rfl, hb1⟩
  rw [hsv.out]
  have HB1 : Hid (Below w.heap.size w w1) := by unfold Hid; (repeat' (first | (with_reducible exact Below.refl _ _) | (with_reducible refine Below.alloc ?_ ?_ _) | (with_reducible refine Below.setCell ?_ ?_ _) | (with_reducible refine Below.drew ?_) | (refine Below.trans ?_ (Below.mono (by with_reducible assumption) ?_)) | go_size))
  clear hb1
  go_wp2_with fail
  refine (l2Copy_any A1 c1 on w1 (HRD.out _ HB1.out).2 HL.out.2).mono ?_
  rintro e w2 ⟨v, rfl, hres, hb2⟩
  have HB2 : Hid (Below w.heap.size w w2) := HB1.out.trans (hb2.mono HB1.out.size)
  have HRS := Lib.hid (hres.mono HB1.out.size)
  obtain ⟨vA, vc, rfl, hq⟩ := hres
  obtain ⟨g, hg⟩ : ∃ g, vA = some ⟨g, 0, none⟩ := by
    rcases hq with h | ⟨g, m, f, hA, _⟩
    · rw [h] at hk; simp at hk
    · exact ⟨g, hA⟩
  subst hg
  obtain ⟨⟨y, hy⟩, hf, hgB, hset⟩ := HRS.out.setB HK.out false
  have HSE := Lib.hid hset
  have hk1 : (k : Int) < (on.length : Int) := by omega
  clear hb2 hq hset
  go_wp2_with (go_at_call 38; (with_reducible refine (l1In_any _ _ _ _).mono ?_); rintro e w' ⟨rfl, rfl⟩)
  refine bodyPost_ret (v := .tuple #[.slice (some ⟨g, 0, none⟩) on.length vc, .bool true]) (by simp [results, Try.results85, go_sem]; try rfl) rfl ?_
  exact ⟨_, rfl, HSE.out, HB2.out.setCell (p := ⟨g, k, none⟩) hgB _⟩
theorem isOn_set {on : List Bool} {k : Nat} (hk : k < on.length) : isOn (on.set k false) = But (isOn on) k := by
  funext j
  apply propext
  unfold isOn But
  rw [getD_set]
  by_cases e : j = k
  · rw [if_pos ⟨e, hk⟩]; exact ⟨(fun h => by cases h), fun h => absurd e h.2⟩
  · rw [if_neg (fun h => e h.1)]; exact ⟨fun h => ⟨h, e⟩, fun h => h.1⟩
/-- Lies a line on a cycle? -/
noncomputable def cyB (ls : List R3) (on : List Bool) (k : Nat) : Bool := pB (isOn on k ∧ Conn (lA ls) (lB ls) (But (isOn on) k) (lA ls k) (lB ls k))
set_option maxRecDepth 100000 in
set_option maxHeartbeats 8000000 in
theorem cycleLines_any (n : Nat) (A A1 : Option Addr) (c c1 : Nat) (ls : List R3) (on : List Bool) (w : World) (hN : NetP n ls) (hle : on.length = ls.length) (hR : Reads 3 r3C w w.heap.size A ls) (hR1 : Reads 1 boolC w w.heap.size A1 on) :
    Calls Try.prog 78 #[.agg #[.int .i64 (n : Int), .slice A ls.length c], .slice A1 on.length c1] w (RetS 1 intC 3 w (idxL (cyB ls on) on.length)) := by
  have HR := Lib.hid hR; have HR1 := Lib.hid hR1
  clear hR hR1
  have hn8 : n ≤ 8 := by have := hN.2.1; omega
  have hm10 := hN.2.2.1
  have hsv : Hid (stV n ls on = true) := stV_t.2 ⟨hN, hle⟩
  have hl : ls.length ≤ 1048576 := by omega
  have hl1 : on.length ≤ 1048576 := by omega
  have HL := Lib.hid (And.intro hl hl1)
  have HN := Lib.hid hN
  have HLE := Lib.hid hle
  have hon10 : on.length ≤ 10 := by omega
  obtain ⟨m, hm⟩ : ∃ m, on.length = m := ⟨_, rfl⟩
  have HM := Lib.hid hm
  clear hN hl hl1 hm10
  have HRX : ∀ W, Below w.heap.size w W → Reads 3 r3C W W.heap.size A ls ∧ Reads 1 boolC W W.heap.size A1 on := fun W h => ⟨(HR.out.below h (Nat.le_refl _)).more h.size, (HR1.out.below h (Nat.le_refl _)).more h.size⟩
  have HRD := Lib.hid HRX; clear HRX
  have HSV : Hid (∀ W, Below w.heap.size w W → Calls Try.prog 76 #[.agg #[.int .i64 (n : Int), .slice A m c], .slice A1 m c1] W fun e w' => e = .returned (.bool true) ∧ Below W.heap.size W w') := fun W h => by
    have q := specStateValid_any (n : Int) A A1 c c1 ls on W (HRD.out _ h).1 HL.out.1 HL.out.2
    rw [hsv.out, ← hle, hm] at q; exact q
  have HSW : Hid (∀ W k, Below w.heap.size w W → k < m → Calls Try.prog 85 #[.agg #[.int .i64 (n : Int), .slice A m c], .slice A1 m c1, .int .i64 (k : Int), .bool false] W fun e w' => ∃ v, e = .returned (.tuple #[v, .bool true]) ∧ Res 1 boolC 4 w' W.heap.size v (on.set k false) ∧ Below W.heap.size W w') := fun W k h hk => by
    have q := switchLine_any n A A1 c c1 ls on k W HN.out HLE.out (by omega) (HRD.out _ h).1 (HRD.out _ h).2
    rw [← hle, hm] at q; exact q
  have HSI : Hid (∀ W k X xc a b, Below w.heap.size w W → k < m → a < n → b < n → Reads 1 boolC W W.heap.size X (on.set k false) → Calls Try.prog 67 #[.agg #[.int .i64 (n : Int), .slice A m c], .slice X m xc, .int .i64 ((a : Nat) : Int), .int .i64 ((b : Nat) : Int)] W fun e w' => e = .returned (.bool (pB (Conn (lA ls) (lB ls) (But (isOn on) k) a b))) ∧ Below W.heap.size W w') := fun W k X xc a b h hk ha hb hx => by
    have q := sameIsland_any n A X c xc ls (on.set k false) a b W HN.out (by simp [hle]) ha hb (HRD.out _ h).1 hx
    rw [List.length_set, ← hle, hm] at q
    have e : Cn ls (on.set k false) a b = Conn (lA ls) (lB ls) (But (isOn on) k) a b := by show Conn (lA ls) (lB ls) (isOn (on.set k false)) a b = _; rw [isOn_set (by omega)]
    rw [e] at q; exact q
  rw [← hle, hm]
  rw [hm] at hon10
  clear hm hle hsv
  go_enter Try.func78, Try.ntmps78
  have HK0 : Hid (Bk ((w.alloc (.cells #[.int .i64 (n : Int), .slice A m c] 30)).alloc (.cells #[] 3)) w.heap.size 30 #[.int .i64 (n : Int), .slice A m c]) := (Bk.new _ _ _).alloc _
  have HO0 : Hid (Own 1 intC 3 ((w.alloc (.cells #[.int .i64 (n : Int), .slice A m c] 30)).alloc (.cells #[] 3)) (w.heap.size + 1) (.slice (some ⟨w.heap.size + 1, 0, none⟩) 0 0) ([] : List Int)) := by
    have h := Own.lit (k := 1) (c := intC) (B := w.heap.size + 1) (w.alloc (.cells #[.int .i64 (n : Int), .slice A m c] 30)) 3 #[] 0 [] (by simp) rfl (by omega) rfl
    simp only [World.size_alloc] at h
    exact h
  have HB0 : Hid (Below w.heap.size w ((w.alloc (.cells #[.int .i64 (n : Int), .slice A m c] 30)).alloc (.cells #[] 3))) := by unfold Hid; (repeat' (first | (with_reducible exact Below.refl _ _) | (with_reducible refine Below.alloc ?_ ?_ _) | (with_reducible refine Below.setCell ?_ ?_ _) | (with_reducible refine Below.drew ?_) | (refine Below.trans ?_ (Below.mono (by with_reducible assumption) ?_)) | go_size))
  go_wp2_with fail
  go_loopw [5, 6] (fun t5 t6 wr => ∃ k : Nat, t6 = .int .i64 k ∧ k ≤ m ∧ Hid (Own 1 intC 3 wr (w.heap.size + 1) t5 (idxL (cyB ls on) k)) ∧ Hid (Bk wr w.heap.size 30 #[.int .i64 (n : Int), .slice A m c]) ∧ Hid (Below w.heap.size w wr)) (fun _ t6 _ => m - (intOf t6).toNat)
  case atStart => exact ⟨0, rfl, Nat.zero_le _, HO0, HK0, HB0⟩
  case round =>
    obtain ⟨k, rfl, hk, HO, HK, HB⟩ := hrel
    clear HO0 HK0 HB0
    by_cases hlt : k < m
    · have hk1 : (k : Int) < (m : Int) := by omega
      have hk0 : (0 : Int) ≤ (k : Int) := by omega
      have hkd : decide ((k : Int) < (m : Int)) = true := by simp [hlt]
      have cK := HK.out.cell; have zK := HK.out.lt
      go_wp2_with fail
      refine (HSV.out wr HB.out).mono ?_
      rintro e w1 ⟨rfl, hb1⟩
      have HO1 := Lib.hid (HO.out.keep hb1); have HK1 := Lib.hid (HK.out.keep hb1)
      have HB1 : Hid (Below w.heap.size w w1) := HB.out.trans (hb1.mono HB.out.size)
      clear hb1 HO HK HB cK zK
      have cK := HK1.out.cell; have zK := HK1.out.lt
      go_wp2_with fail
      refine (HSW.out w1 k HB1.out hlt).mono ?_
      rintro e w2 ⟨xv, rfl, hxr, hb2⟩
      have HO2 := Lib.hid (HO1.out.keep hb2); have HK2 := Lib.hid (HK1.out.keep hb2)
      have HB2 : Hid (Below w.heap.size w w2) := HB1.out.trans (hb2.mono HB1.out.size)
      have HXR := Lib.hid hxr
      obtain ⟨xA, xc, rfl, -⟩ := hxr
      rw [List.length_set, HM.out] at HXR
      rw [List.length_set, HM.out]
      clear hb2 HO1 HK1 HB1 cK zK
      have cK := HK2.out.cell; have zK := HK2.out.lt
      have hy : k < on.length := by rw [HM.out]; exact hlt
      have hx : k < ls.length := by rw [← HLE.out]; exact hy
      obtain ⟨lb, lo, rfl, hlb, hc0, hc1, hc2⟩ := (HRD.out _ HB2.out).1.at3 hx
      obtain ⟨nb, no, rfl, hnb, hd⟩ := (HRD.out _ HB2.out).2.at1 hy
      have hd0 : w2.cell? ⟨nb, no + k, none⟩ = some (.bool on[k]) := hd
      obtain ⟨l1, l2, l3, l4, l5⟩ := HN.out.line hx
      rw [l1] at hc0
      rw [l2] at hc1
      have hog : isOn on k ↔ on[k] = true := by unfold isOn; rw [getD_lt hy]
      generalize on[k] = o at hd0 hog
      have ha : lA ls k < n := by omega
      have hb : lB ls k < n := by omega
      have hcy : cyB ls on k = pB (isOn on k ∧ Conn (lA ls) (lB ls) (But (isOn on) k) (lA ls k) (lB ls k)) := rfl
      generalize lA ls k = a at hc0 ha hcy
      generalize lB ls k = b at hc1 hb hcy
      have HOG := Lib.hid hog; have HCY := Lib.hid hcy
      clear hd hog hcy l1 l2 l3 l4 l5 hx hy hc2
      cases o with
      | false =>
        have HF : Hid (idxL (cyB ls on) k = idxL (cyB ls on) (k + 1)) := by
          unfold Hid; rw [idxL_succ, HCY.out, pB_false (fun h => by have := HOG.out.1 h.1; cases this)]; simp
        go_wp2_with fail
        go_quiet (fail)
        go_wp2_with fail
        exact ⟨⟨k + 1, by go_num, by omega, by have h := HO2.out.drewN 1; rw [HF.out] at h; exact h, HK2.out.drewN _, below_drewN' HB2.out _⟩, by simp [intOf]; omega⟩
      | true =>
        have hs0 : w2.cell? ⟨w.heap.size, 0, none⟩ = some (.int .i64 (n : Int)) := cK 0
        have hs1 : w2.cell? ⟨w.heap.size, 1, none⟩ = some (.slice (some ⟨lb, lo, none⟩) m c) := cK 1
        have hRX : Reads 1 boolC w2.drew w2.drew.heap.size xA (on.set k false) := HXR.out.reads.1
        have HRXX := Lib.hid hRX
        have HBD : Hid (Below w.heap.size w w2.drew) := HB2.out.drew
        clear cK hRX
        go_upto_region 6 with fail
        go_region_held3 (fun w' => w'.cell? ⟨w.heap.size, 0, none⟩ = some (.int .i64 (n : Int)) ∧ w'.cell? ⟨w.heap.size, 1, none⟩ = some (.slice (some ⟨lb, lo, none⟩) m c) ∧ w'.cell? ⟨nb, no + k, none⟩ = some (.bool true) ∧ w'.cell? ⟨lb, lo + k * 3, none⟩ = some (.int .i64 (a : Int)) ∧ w'.cell? ⟨lb, lo + k * 3 + 1, none⟩ = some (.int .i64 (b : Int))) (simp [go_sem, World.cell?_alloc_past, *])
          (first | (go_at_call 67; (with_reducible refine (HSI.out _ k xA xc a b (by exact HBD.out) hlt ha hb (by exact HRXX.out)).mono ?_); rintro e w3 ⟨rfl, hb3⟩; have q0 := keepB hb3 (g := w.heap.size) (by exact zK); have q1 := keepB hb3 (g := nb) (by exact hnb); have q2 := keepB hb3 (g := lb) (by exact hlb); have HB3 := Lib.hid hb3; clear hb3))
        have HO3 : Hid (Own 1 intC 3 w3 (w.heap.size + 1) _ (idxL (cyB ls on) k)) := (HO2.out.drew).keep HB3.out
        have HK3 : Hid (Bk w3 w.heap.size 30 #[.int .i64 (n : Int), .slice (some ⟨lb, lo, none⟩) m c]) := Bk.keep (w := w2.drew) HK2.out HB3.out
        have HBW3 : Hid (Below w.heap.size w w3) := HBD.out.trans (HB3.out.mono HBD.out.size)
        by_cases hcn : Conn (lA ls) (lB ls) (But (isOn on) k) a b
        · rw [pB_true hcn]
          have HT : Hid (cyB ls on k = true) := HCY.out.trans (pB_true ⟨HOG.out.2 (by first | rfl | trivial), hcn⟩)
          clear hcn
          obtain ⟨vA, vc, hv⟩ := HO3.out.slice
          have hil := idxL_len (cyB ls on) k
          subst hv
          have hzw : w.heap.size + 1 ≤ w3.heap.size := by have := HK3.out.lt; omega
          have HL_1 := Lib.hid (Own.lit (k := 1) (c := intC) (B := (w.heap.size + 1)) w3 3 #[.int .i64 k] 1 [(k : Int)] (by first | exact Nat.le_refl _ | omega) rfl (by omega) rfl); have HQ_1 := Lib.hid (HL_1.out.reads rfl).1; have HV_1 := Lib.hid (Own.alloc (HO3.out) (.cells #[.int .i64 k] 3)); have HK_1 := Lib.hid (Own.blk (HO3.out)); go_wp2_with (first | (at_builtin; refine wpList_app_g (k := 1) (c := intC) _ (by rfl) _ _ _ rfl 3 (.int .i64 0) 8 Try.underlying25 (by kernel_rfl) rfl (by decide) (by decide) intC_one _ _ _ rfl HV_1.out _ _ _ _ rfl HQ_1.out ?hm ?hlen ?hB ?_; (case hm => (first | rfl | (simp; done) | omega)); (case hlen => (simp only [List.length_cons, List.length_nil]; omega)); (case hB => ((try simp only [World.size_alloc, World.size_drew]); omega)); intro v_1 w_1 hown_1 hg_1 hat_1; have HW_1 : Hid (Below ((w.heap.size + 1)) (w3) w_1) := (Below.alloc (Below.refl _ _) (by first | exact Nat.le_refl _ | omega) _).grown hg_1 (by (try simp only [World.size_alloc]); omega) (fun q hq => (HK_1.out q hq).1); have HG_1 := Lib.hid hg_1; have HAT_1 := Lib.hid hat_1; have HO_1 := Lib.hid hown_1; obtain ⟨A_1, c_1, hv_1⟩ := hown_1.slice; simp only [List.length_append, List.length_cons, List.length_nil, Nat.zero_add] at hv_1; subst hv_1; have hz_1 := HG_1.out.size; (try simp only [World.size_alloc] at hz_1); clear hown_1 hg_1 hat_1 HL_1 HQ_1 HV_1))
          have HON : Hid (Own 1 intC 3 w_1 (w.heap.size + 1) (.slice A_1 ((idxL (cyB ls on) k).length + 1) c_1) (idxL (cyB ls on) (k + 1))) := by unfold Hid; rw [idxL_succ, HT.out]; exact HO_1.out
          have HKN : Hid (Bk w_1 w.heap.size 30 #[.int .i64 (n : Int), .slice (some ⟨lb, lo, none⟩) m c]) := (HK3.out.alloc _).grown HG_1.out (fun e => by have := (HK_1.out _ e.symm).1; omega)
          have HBN : Hid (Below w.heap.size w w_1) := HBW3.out.trans (HW_1.out.mono (by omega))
          exact ⟨⟨k + 1, by go_num, by omega, HON, HKN, HBN⟩, by simp [intOf]; omega⟩
        · rw [pB_false hcn]
          have HF : Hid (idxL (cyB ls on) k = idxL (cyB ls on) (k + 1)) := by
            unfold Hid; rw [idxL_succ, HCY.out, pB_false (fun h => hcn h.2)]; simp
          clear hcn
          go_wp2_with fail
          exact ⟨⟨k + 1, by go_num, by omega, by have h := HO3.out; rw [HF.out] at h; exact h, HK3, HBW3⟩, by simp [intOf]; omega⟩
    · obtain rfl : k = m := by omega
      have hkd : decide ((k : Int) < (k : Int)) = false := by simp
      have hres := HO.out.res
      have HX := Lib.hid hres; clear hres
      obtain ⟨vA, vc, hv⟩ := HO.out.slice
      subst hv
      go_wp2_with fail
      go_ret
      exact ⟨_, rfl, Res.mono HX.out (show w.heap.size ≤ w.heap.size + 1 by omega), HB.out⟩
theorem idxL_nil {p : Nat → Bool} {n : Nat} : 0 < (idxL p n).length ↔ ∃ k, k < n ∧ p k = true := by
  rw [List.length_pos_iff_exists_mem]
  constructor
  · rintro ⟨x, hx⟩
    obtain ⟨k, _, h1, h2⟩ := idxL_mem.1 hx
    exact ⟨k, h1, h2⟩
  · rintro ⟨k, h1, h2⟩
    exact ⟨_, idxL_mem.2 ⟨k, rfl, h1, h2⟩⟩
theorem cyB_any (ls : List R3) (on : List Bool) : 0 < (idxL (cyB ls on) on.length).length ↔ cycP ls on := by
  rw [idxL_nil]
  unfold cyB cycP
  constructor
  · rintro ⟨k, _, h⟩; exact ⟨k, pB_t.1 h⟩
  · rintro ⟨k, h⟩; exact ⟨k, isOn_lt h.1, pB_true h⟩
theorem specHasCycle_any (n : Nat) (A A1 : Option Addr) (c c1 : Nat) (ls : List R3) (on : List Bool) (w : World) (hN : NetP n ls) (hle : on.length = ls.length) (hR : Reads 3 r3C w w.heap.size A ls) (hR1 : Reads 1 boolC w w.heap.size A1 on) :
    Calls Try.prog 66 #[.agg #[.int .i64 (n : Int), .slice A ls.length c], .slice A1 on.length c1] w fun e w' => e = .returned (.bool (pB (cycP ls on))) ∧ Below w.heap.size w w' := by
  have HR := Lib.hid hR; have HR1 := Lib.hid hR1
  clear hR hR1
  have HN := Lib.hid hN; have HLE := Lib.hid hle
  clear hN hle
  have hd : pB (cycP ls on) = decide ((0 : Int) < ((idxL (cyB ls on) on.length).length : Int)) := by
    by_cases h : cycP ls on
    · rw [pB_true h]; have := (cyB_any ls on).2 h; exact (decide_eq_true (by omega)).symm
    · rw [pB_false h]; exact (decide_eq_false (fun q => h ((cyB_any ls on).1 (by omega)))).symm
  rw [hd]
  clear hd
  have HRX : ∀ W, Below w.heap.size w W → Reads 3 r3C W W.heap.size A ls ∧ Reads 1 boolC W W.heap.size A1 on := fun W h => ⟨(HR.out.below h (Nat.le_refl _)).more h.size, (HR1.out.below h (Nat.le_refl _)).more h.size⟩
  have HRD := Lib.hid HRX; clear HRX
  generalize hzz : (idxL (cyB ls on) on.length).length = l
  have HZZ := Lib.hid hzz; clear hzz
  go_enter Try.func66, Try.ntmps66
  go_wp2_with fail
  refine (cycleLines_any n A A1 c c1 ls on _ HN.out HLE.out (HRD.out _ (by (repeat' (first | (with_reducible exact Below.refl _ _) | (with_reducible refine Below.alloc ?_ ?_ _) | (with_reducible refine Below.setCell ?_ ?_ _) | (with_reducible refine Below.drew ?_) | (refine Below.trans ?_ (Below.mono (by with_reducible assumption) ?_)) | go_size)))).1 (HRD.out _ (by (repeat' (first | (with_reducible exact Below.refl _ _) | (with_reducible refine Below.alloc ?_ ?_ _) | (with_reducible refine Below.setCell ?_ ?_ _) | (with_reducible refine Below.drew ?_) | (refine Below.trans ?_ (Below.mono (by with_reducible assumption) ?_)) | go_size)))).2).mono ?_
  rintro e w1 ⟨v, rfl, hres, hb1⟩
  obtain ⟨zA, zc, rfl, -⟩ := hres
  rw [HZZ.out]
  have HB1 : Hid (Below w.heap.size w w1) := by unfold Hid; (repeat' (first | (with_reducible exact Below.refl _ _) | (with_reducible refine Below.alloc ?_ ?_ _) | (with_reducible refine Below.setCell ?_ ?_ _) | (with_reducible refine Below.drew ?_) | (refine Below.trans ?_ (Below.mono (by with_reducible assumption) ?_)) | go_size))
  clear hb1
  go_wp2_with fail
  go_ret
  refine ⟨?_, HB1.out⟩
  first | rfl | (refine congrArg (fun b => Ending.returned (Value.bool b)) ?_; exact decide_eq_decide.2 ⟨fun h => by omega, fun h => by omega⟩)
end Go.Proofs.Ytdfgdeccejcpfaa
