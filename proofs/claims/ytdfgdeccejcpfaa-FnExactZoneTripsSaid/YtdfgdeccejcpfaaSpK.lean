/- spec.l7Flows. -/
import Derived.Test.YtdfgdeccejcpfaaSpJ
import Derived.StillTailTactics
namespace Go.Proofs.Ytdfgdeccejcpfaa
open Go.RowKit Go.Deep
set_option linter.unusedSimpArgs false
set_option linter.unusedVariables false

theorem way_mem {ls : List R3} {on : List Bool} {bs : List R2} {p : List Int} {rk : Nat → Nat} (h : Leads ls on bs p rk) (h8 : p.length ≤ 8) (b : Nat) : (∀ l ∈ way ls p b, isOn on l) ∧ (way ls p b).length ≤ 8 := by
  obtain ⟨W, hW, hl⟩ := h.wayEx (rk b + 1) b (by omega)
  rw [way_eq hW]
  have hm : ∀ {b : Nat} {W : List Nat}, WayOf ls p b W → ∀ l ∈ W, isOn on l := by
    intro b W hW
    induction hW with
    | stop _ => intro l hl; simp at hl
    | go hb _ ih =>
      intro l hl
      rcases List.mem_append.1 hl with q | q
      · exact ih l q
      · simp at q; subst q; exact (h.line _ hb).1
  refine ⟨hm hW, ?_⟩
  cases hW with
  | stop _ => simp
  | go hb _ => have := h.rk8 h8 hb; omega
noncomputable def flowP (ls : List R3) (bs : List R2) (p : List Int) (k l : Nat) : Int := sumN (fun j => loadAt bs j * ((way ls p j).count l : Int)) k
noncomputable def flowL (ls : List R3) (bs : List R2) (p : List Int) (m : Nat) : List Int := (List.range m).map fun l => flowS ls bs p l
theorem flowL_at {ls : List R3} {bs : List R2} {p : List Int} {m l : Nat} (h : l < m) : (flowL ls bs p m).getD l 0 = flowS ls bs p l := by
  rw [List.getD_eq_getElem?_getD]; unfold flowL; rw [List.getElem?_map, List.getElem?_range h]; rfl
theorem mul_bd {x y : Int} (hx0 : 0 ≤ x) (hx1 : x ≤ 999) (hy0 : 0 ≤ y) (hy1 : y ≤ 8) : 0 ≤ x * y ∧ x * y ≤ 7992 := by
  refine ⟨Int.mul_nonneg hx0 hy0, ?_⟩
  have h1 : x * y ≤ 999 * y := Int.mul_le_mul_of_nonneg_right hx1 hy0
  omega
theorem flowP_bd {ls : List R3} {bs : List R2} {p : List Int} (hl : ∀ x, 0 ≤ loadAt bs x ∧ loadAt bs x ≤ 999) (hw : ∀ b, (way ls p b).length ≤ 8) (l : Nat) : ∀ k, 0 ≤ flowP ls bs p k l ∧ flowP ls bs p k l ≤ 7992 * k
  | 0 => by simp [flowP, sumN]
  | k + 1 => by
    have ih := flowP_bd hl hw l k
    have hc : (way ls p k).count l ≤ 8 := Nat.le_trans List.count_le_length (hw k)
    have := mul_bd (hl k).1 (hl k).2 (by omega : (0 : Int) ≤ ((way ls p k).count l : Int)) (by omega)
    show 0 ≤ flowP ls bs p k l + loadAt bs k * ((way ls p k).count l : Int) ∧ flowP ls bs p k l + loadAt bs k * ((way ls p k).count l : Int) ≤ _
    omega
theorem count_take {W : List Nat} {j : Nat} (h : j < W.length) (l : Nat) : (W.take (j + 1)).count l = (W.take j).count l + (if W[j] = l then 1 else 0) := by
  rw [List.take_succ_eq_append_getElem h, List.count_append, List.count_singleton]
  congr 1
  by_cases e : W[j] = l <;> simp [e]
/-- The sums, when the first j lines of bus k's way are through. -/
structure FloS (ls : List R3) (bs : List R2) (p : List Int) (m k j : Nat) (X : List Int) : Prop where
  len : X.length = m
  at_ : ∀ l, l < m → X.getD l 0 = flowP ls bs p k l + loadAt bs k * (((way ls p k).take j).count l : Int)
theorem FloS.step {ls : List R3} {bs : List R2} {p : List Int} {m k j : Nat} {X : List Int} (h : FloS ls bs p m k j X) (hj : j < (way ls p k).length) {l : Nat} (hl : (way ls p k)[j] = l) (hlm : l < m) : FloS ls bs p m k (j + 1) (X.set l (X.getD l 0 + loadAt bs k)) := by
  refine ⟨by simp [h.len], fun i hi => ?_⟩
  rw [getD_set, count_take hj, hl]
  by_cases e : i = l
  · subst e
    rw [if_pos ⟨rfl, by rw [h.len]; exact hi⟩, h.at_ i hi, if_pos rfl, Int.natCast_add, Int.mul_add]; simp; omega
  · rw [if_neg (fun q => e q.1), h.at_ i hi, if_neg (fun q => e q.symm)]; simp
theorem FloS.next {ls : List R3} {bs : List R2} {p : List Int} {m k : Nat} {X : List Int} (h : FloS ls bs p m k (way ls p k).length X) : FloS ls bs p m (k + 1) 0 X := by
  refine ⟨h.len, fun i hi => ?_⟩
  rw [h.at_ i hi, List.take_length]
  show _ = (flowP ls bs p k i + loadAt bs k * ((way ls p k).count i : Int)) + loadAt bs (k + 1) * ((([] : List Nat)).count i : Int)
  simp
theorem FloS.done {ls : List R3} {bs : List R2} {p : List Int} {m : Nat} {X : List Int} (h : FloS ls bs p m bs.length 0 X) : X = flowL ls bs p m := by
  refine ext_getD 0 (by rw [h.len]; simp [flowL]) (fun i => ?_)
  by_cases hi : i < m
  · rw [h.at_ i hi, flowL_at hi]; simp [flowS, flowP]
  · rw [getD_oob (by rw [h.len]; omega), getD_oob (by simp [flowL]; omega)]
set_option maxRecDepth 100000 in
set_option maxHeartbeats 16000000 in
theorem l7Flows_any (n : Nat) (A A1 A2 : Option Addr) (c c1 c2 : Nat) (ls : List R3) (on : List Bool) (bs : List R2) (w : World) (hf : FedP n ls on bs) (hR : Reads 3 r3C w w.heap.size A ls) (hR1 : Reads 1 boolC w w.heap.size A1 on) (hR2 : Reads 2 r2C w w.heap.size A2 bs) :
    Calls Try.prog 51 #[.agg #[.int .i64 (n : Int), .slice A ls.length c], .slice A1 on.length c1, .slice A2 bs.length c2] w (RetS 1 intC 3 w (flowL ls bs (pars ls on bs) on.length)) := by
  have HRD : Hid (∀ W, Below w.heap.size w W → Reads 3 r3C W W.heap.size A ls ∧ Reads 1 boolC W W.heap.size A1 on ∧ Reads 2 r2C W W.heap.size A2 bs) := fun W h => ⟨(hR.below h (Nat.le_refl _)).more h.size, (hR1.below h (Nat.le_refl _)).more h.size, (hR2.below h (Nat.le_refl _)).more h.size⟩
  clear hR hR1 hR2
  have hlens := hf.lens
  obtain ⟨hb8, hb1, hm10, hle, hBn⟩ := hlens
  have hnb : bs.length = n := by omega
  have HF := Lib.hid hf
  have HNB := Lib.hid hnb
  have HLE := Lib.hid hle
  obtain ⟨m, hm⟩ : ∃ m, on.length = m := ⟨_, rfl⟩
  have HM := Lib.hid hm
  obtain ⟨rk, hL⟩ := pars_leads (ls := ls) (on := on) (bs := bs) hf.ends
  have hpl : (pars ls on bs).length = n := by rw [pars_len]; exact hnb
  have HPC : Hid (∀ W, Below w.heap.size w W → Calls Try.prog 50 #[.agg #[.int .i64 (n : Int), .slice A ls.length c], .slice A1 m c1, .slice A2 n c2] W (RetS 1 intC 3 W (pars ls on bs))) := fun W h => by
    have q := l6Parents_any n A A1 A2 c c1 c2 ls on bs W HF.out (HRD.out _ h).1 (HRD.out _ h).2.1 (HRD.out _ h).2.2
    rw [hm, hnb] at q; exact q
  generalize pars ls on bs = p at hL hpl HPC ⊢
  have HL := Lib.hid hL
  have HPN := Lib.hid hpl
  have HWM : Hid (∀ b, (∀ l ∈ way ls p b, isOn on l) ∧ (way ls p b).length ≤ 8) := fun b => way_mem HL.out (by rw [hpl, ← hnb]; exact hb8) b
  have HWC : Hid (∀ W pA pc k, Below w.heap.size w W → k < n → Reads 1 intC W W.heap.size pA p → Calls Try.prog 72 #[.agg #[.int .i64 (n : Int), .slice A ls.length c], .slice pA n pc, .int .i64 ((k : Nat) : Int)] W (RetS 1 intC 3 W (natI (way ls p k)))) := fun W pA pc k h hk hp => l6Way_any n A pA c pc ls on bs p rk k W HF.out.1.1 HLE.out HL.out HPN.out hk (HRD.out _ h).1 hp
  have hmk := fun W => run_mk (P := Try.prog) 25 3 (.int .i64 0) 1 8 m Try.underlying25 (by kernel_rfl) (by omega) (by omega) W
  simp only [Nat.mul_one] at hmk
  rw [hm, hnb]
  rw [hnb] at hb8
  have hm10' : m ≤ 10 := by omega
  clear hf hnb hle hm hL hpl hBn hm10 hb1
  go_enter Try.func51, Try.ntmps51
  have HR0 : Hid (RowL iV 0 ((w.alloc (.cells #[.int .i64 (n : Int), .slice A ls.length c] 30)).alloc (.cells (madeCells #[Value.int .i64 0] m) 3)) (w.heap.size + 1) 3 (List.replicate m 0)) := by
    have h := RowL.made (f := iV) (d := 0) (w.alloc (.cells #[.int .i64 (n : Int), .slice A ls.length c] 30)) m 3
    rw [World.size_alloc] at h; exact h
  have HK0 : Hid (Bk ((w.alloc (.cells #[.int .i64 (n : Int), .slice A ls.length c] 30)).alloc (.cells (madeCells #[Value.int .i64 0] m) 3)) w.heap.size 30 #[.int .i64 (n : Int), .slice A ls.length c]) := (Bk.new _ _ _).alloc _
  have HB0 : Hid (Below w.heap.size w ((w.alloc (.cells #[.int .i64 (n : Int), .slice A ls.length c] 30)).alloc (.cells (madeCells #[Value.int .i64 0] m) 3))) := by unfold Hid; (repeat' (first | (with_reducible exact Below.refl _ _) | (with_reducible refine Below.alloc ?_ ?_ _) | (with_reducible refine Below.setCell ?_ ?_ _) | (with_reducible refine Below.drew ?_) | (refine Below.trans ?_ (Below.mono (by with_reducible assumption) ?_)) | go_size))
  go_wp2_with fail
  with_reducible refine (HPC.out _ HB0.out).mono ?_
  rintro e w1 ⟨pv, rfl, hpr, hb1⟩
  have HPR := Lib.hid hpr
  obtain ⟨pA, pc, rfl, -⟩ := hpr
  rw [HPN.out] at HPR
  rw [HPN.out]
  have HR1 := Lib.hid (HR0.out.keep hb1); have HK1 := Lib.hid (HK0.out.keep hb1)
  have HB1 : Hid (Below w.heap.size w w1) := HB0.out.trans (hb1.mono HB0.out.size)
  have hpB : w.heap.size + 1 < (((w.alloc (.cells #[.int .i64 (n : Int), .slice A ls.length c] 30)).alloc (.cells (madeCells #[Value.int .i64 0] m) 3))).heap.size := by simp only [World.size_alloc]; omega
  have HPB := Lib.hid hpB
  generalize hwq : (((w.alloc (.cells #[.int .i64 (n : Int), .slice A ls.length c] 30)).alloc (.cells (madeCells #[Value.int .i64 0] m) 3))).heap.size = S1 at HPR HPB
  clear hb1 HR0 HK0 HB0 hmk hpB hwq
  have HS0 : Hid (FloS ls bs p m 0 0 (List.replicate m 0)) := ⟨by simp, fun l hl => by rw [getD_rep]; simp [flowP, sumN]⟩
  -- the parents' row is no block of the sums
  have HPRK : Hid (∀ W, (∀ g, S1 ≤ g → g < w1.heap.size → W.heap[g]? = w1.heap[g]?) → Reads 1 intC W W.heap.size pA p) := fun W h => (HPR.out.kept h).reads.1
  go_wp2_with fail
  go_loopw [9] (fun t wr => ∃ (k : Nat) (X : List Int), t = .int .i64 k ∧ k ≤ n ∧ Hid (FloS ls bs p m k 0 X) ∧ Hid (RowL iV 0 wr (w.heap.size + 1) 3 X) ∧ Hid (∀ g, S1 ≤ g → g < w1.heap.size → wr.heap[g]? = w1.heap[g]?) ∧ w1.heap.size ≤ wr.heap.size ∧ Hid (Bk wr w.heap.size 30 #[.int .i64 (n : Int), .slice A ls.length c]) ∧ Hid (Below w.heap.size w wr)) (fun t _ => n - (intOf t).toNat)
  case atStart => exact ⟨0, _, rfl, Nat.zero_le _, HS0, HR1, fun _ _ _ => rfl, Nat.le_refl _, HK1, HB1⟩
  case round =>
    obtain ⟨k, X, rfl, hk, HS, HX, HG, hzw, HK, HB⟩ := hrel
    clear HS0 HR1 HK1 HB1
    have cK := HK.out.cell; have zK := HK.out.lt
    by_cases hlt : k < n
    · have hk1 : (k : Int) < (n : Int) := by omega
      go_wp2_with fail
      with_reducible refine (HWC.out wr pA pc k HB.out hlt (HPRK.out wr HG.out)).mono ?_
      rintro e w2 ⟨v, rfl, hwr, hb2⟩
      have HWR := Lib.hid hwr
      obtain ⟨vA, vc, rfl, -⟩ := hwr
      rw [natI_len] at HWR
      rw [natI_len]
      have HX2 := Lib.hid (HX.out.keep hb2); have HK2 := Lib.hid (HK.out.keep hb2)
      have HB2 : Hid (Below w.heap.size w w2) := HB.out.trans (hb2.mono HB.out.size)
      have HG2 : Hid (∀ g, S1 ≤ g → g < w1.heap.size → w2.heap[g]? = w1.heap[g]?) := fun g h1 h2 => (hb2.block g (by omega)).trans (HG.out g h1 h2)
      have hz2 : w1.heap.size ≤ w2.heap.size := Nat.le_trans hzw hb2.size
      have hwz := hb2.size
      have hvB : ∀ g, wr.heap.size ≤ g → g ≠ w.heap.size + 1 := fun g h e => by have := HX.out.lt; omega
      have HVB := Lib.hid hvB
      clear hb2 HX HK HB HG cK zK hvB
      obtain ⟨wl, hwl⟩ : ∃ q, (way ls p k).length = q := ⟨_, rfl⟩
      have HWL := Lib.hid hwl
      have hw8 : wl ≤ 8 := by rw [← hwl]; exact (HWM.out k).2
      rw [hwl] at HWR
      rw [hwl]
      clear hwl
      have HWRK : Hid (∀ W, (∀ g, wr.heap.size ≤ g → g < w2.heap.size → W.heap[g]? = w2.heap[g]?) → Reads 1 intC W W.heap.size vA (natI (way ls p k))) := fun W h => (HWR.out.kept h).reads.1
      go_wp2_with fail
      go_loopw [11] (fun t wq => ∃ (j : Nat) (X : List Int), t = .int .i64 j ∧ j ≤ wl ∧ Hid (FloS ls bs p m k j X) ∧ Hid (RowL iV 0 wq (w.heap.size + 1) 3 X) ∧ Hid (∀ g, wr.heap.size ≤ g → g < w2.heap.size → wq.heap[g]? = w2.heap[g]?) ∧ Hid (∀ g, S1 ≤ g → g < w1.heap.size → wq.heap[g]? = w1.heap[g]?) ∧ w1.heap.size ≤ wq.heap.size ∧ Hid (Bk wq w.heap.size 30 #[.int .i64 (n : Int), .slice A ls.length c]) ∧ Hid (Below w.heap.size w wq)) (fun t _ => wl - (intOf t).toNat)
      case atStart => exact ⟨0, X, rfl, Nat.zero_le _, HS, HX2, fun _ _ _ => rfl, HG2, hz2, HK2, HB2⟩
      case round =>
        obtain ⟨j, X3, rfl, hj, HS3, HX3, HW3, HG3, hz3, HK3, HB3⟩ := hrel
        clear HS HX2 HG2 HK2 HB2
        by_cases hjw : j < wl
        · have hjl : j < (way ls p k).length := by rw [HWL.out]; exact hjw
          obtain ⟨vb, vo, rfl, hvb, hvc⟩ := (HWRK.out _ HW3.out).at1 (i := j) (by simpa using hjl)
          rw [natI_get, getD_lt hjl] at hvc
          unfold intC at hvc
          obtain ⟨l, hl⟩ : ∃ l, (way ls p k)[j] = l := ⟨_, rfl⟩
          rw [hl] at hvc
          have hlo := (HWM.out k).1 l (by rw [← hl]; exact List.getElem_mem hjl)
          have hlm : l < m := by have := isOn_lt hlo; rw [HM.out] at this; exact this
          have hkb : k < bs.length := by rw [HNB.out]; exact hlt
          obtain ⟨lb, lo, rfl, hlb, hc0, hc1⟩ := (HRD.out _ HB3.out).2.2.at2 hkb
          have hla : loadAt bs k = bs[k].b := by unfold loadAt; rw [getD_lt hkb]
          have hld := HF.out.load k
          generalize bs[k].a = zz at hc0
          generalize hzl : bs[k].b = ld at hc1 hla
          rw [hla] at hld
          have hcx := HX3.out.cell (i := l) (by rw [HS3.out.len]; exact hlm)
          have fX := HX3.out.frozen; have zX := HX3.out.lt
          unfold iV at hcx
          have hxe := HS3.out.at_ l hlm
          have hfp := flowP_bd HF.out.load (fun b => (HWM.out b).2) l k
          have hct : ((way ls p k).take j).count l ≤ 8 := Nat.le_trans List.count_le_length (by rw [List.length_take]; omega)
          have hmb := mul_bd (HF.out.load k).1 (HF.out.load k).2 (by omega : (0 : Int) ≤ (((way ls p k).take j).count l : Int)) (by omega)
          have hxb : 0 ≤ X3.getD l 0 ∧ X3.getD l 0 ≤ 100000 := by rw [hxe]; omega
          have hsn := HS3.out.step hjl hl hlm
          obtain ⟨x, hx⟩ : ∃ x, X3.getD l 0 = x := ⟨_, rfl⟩
          rw [hx] at hcx hxb hsn
          rw [hla] at hsn
          have HSN := Lib.hid hsn
          have hlX : l < X3.length := by rw [HS3.out.len]; exact hlm
          have hj1 : (j : Int) < (wl : Int) := by omega
          have hl1 : (l : Int) < (m : Int) := by omega
          have hw1 : IntKind.i64.wrap (x + ld) = x + ld := IntWalk.i64_in _ (by omega)
          clear hl hlo hla hzl hxe hfp hct hmb hsn hx
          go_wp2_with fail
          go_still_tail 19, (by kernel_rfl)
          have HXN : Hid (RowL iV 0 (wr.setCell ⟨w.heap.size + 1, l, none⟩ (.int .i64 (x + ld))).drew (w.heap.size + 1) 3 (X3.set l (x + ld))) := (HX3.out.set hlX (x + ld)).drew
          have HKN : Hid (Bk (wr.setCell ⟨w.heap.size + 1, l, none⟩ (.int .i64 (x + ld))).drew w.heap.size 30 #[.int .i64 (n : Int), .slice A ls.length c]) := HK3.out.far (p := ⟨w.heap.size + 1, l, none⟩) (by show w.heap.size ≠ w.heap.size + 1; omega) _
          have HBN : Hid (Below w.heap.size w (wr.setCell ⟨w.heap.size + 1, l, none⟩ (.int .i64 (x + ld))).drew) := (HB3.out.setCell (p := ⟨w.heap.size + 1, l, none⟩) (by show w.heap.size ≤ w.heap.size + 1; omega) _).drew
          have HGN : Hid (∀ g, S1 ≤ g → g < w1.heap.size → (wr.setCell ⟨w.heap.size + 1, l, none⟩ (.int .i64 (x + ld))).drew.heap[g]? = w1.heap[g]?) := fun g h1 h2 => (Below.heap_setCell wr ⟨w.heap.size + 1, l, none⟩ _ g (by have := HPB.out; show g ≠ w.heap.size + 1; omega)).trans (HG3.out g h1 h2)
          have hzn : w1.heap.size ≤ (wr.setCell ⟨w.heap.size + 1, l, none⟩ (.int .i64 (x + ld))).drew.heap.size := by simp only [World.size_drew, World.size_setCell]; exact hz3
          have hwn := fun g h1 h2 => (Below.heap_setCell wr ⟨w.heap.size + 1, l, none⟩ (.int .i64 (x + ld)) g (HVB.out g h1)).trans (HW3.out g h1 h2)
          have HWN := Lib.hid hwn
          clear hwn
          go_wp2_with fail
          exact ⟨⟨j + 1, _, by go_num, by omega, HSN, HXN, HWN.out, HGN, hzn, HKN, HBN⟩, by simp [intOf]; omega⟩
        · obtain rfl : j = wl := by omega
          have hs3 := HS3.out
          rw [← HWL.out] at hs3
          have HSN := Lib.hid hs3.next
          clear hs3
          go_wp2_with fail
          exact ⟨⟨k + 1, X3, by go_num, by omega, HSN, HX3, HG3, hz3, HK3, HB3⟩, by simp [intOf]; omega⟩
    · obtain rfl : k = n := by omega
      have hs := HS.out
      rw [show FloS ls bs p m k 0 X = FloS ls bs p m bs.length 0 X from by rw [HNB.out]] at hs
      have he := hs.done
      have HRX := Lib.hid (HX.out.resI (B := w.heap.size) (c := m) (n := m) (by omega) HS.out.len.symm)
      rw [he] at HRX
      clear hs he
      go_wp2_with fail
      go_ret
      exact ⟨_, rfl, HRX.out, HB.out⟩
end Go.Proofs.Ytdfgdeccejcpfaa
