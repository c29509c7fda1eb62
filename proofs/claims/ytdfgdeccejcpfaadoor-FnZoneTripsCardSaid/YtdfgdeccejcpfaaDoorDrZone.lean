/- Drawing zones (spec.l20Zone). -/
import Derived.Test.YtdfgdeccejcpfaaDoorRad
import Derived.Test.YtdfgdeccejcpfaaDoorPkS
import Derived.Test.YtdfgdeccejcpfaaDoorAppS
import Derived.Deep.RegionLaw
namespace Go.Proofs.YtdfgdeccejcpfaaDoor
open Go.RowKit Go.Deep
set_option linter.unusedSimpArgs false
set_option linter.unusedVariables false

/-- A zone was drawn. -/
def DrawnZ (g : Nat) (P : Int) (w : World) (e : Ending) (w' : World) : Prop :=
  ∃ v ys, e = .returned v ∧ ys.length ≤ 30 ∧ DrS 1 intC w' w.heap.size v ys ∧ RdOk 83 w' g (P + 30) ∧ Chg g w w'
abbrev LitB (B : Int) : Obj := .cells #[.int .i64 0, .int .i64 B] 3
def selZ (B : Int) (q : Nat) : Int := if q = 0 then 0 else B
set_option maxRecDepth 100000 in
set_option maxHeartbeats 8000000 in
theorem l20Zone_any (g : Nat) (P n B : Int) (lA : Option Addr) (ln lc : Nat) (w : World) (hr : RdOk 83 w g P) (hP : P ≤ 900000) (hn : n ≤ 1000) (hn0 : 0 ≤ n) (hB : B ≤ 20) (hB0 : -20 ≤ B) :
    Calls Tryd.prog 34 #[.pointer (some ⟨g, 0, none⟩), .agg #[.int .i64 B, .slice lA ln lc], .int .i64 n] w (DrawnZ g P w) := by
  have hgl := hr.lt
  have HR := Lib.hid hr; clear hr
  have HK0 : Hid (Bk (w.alloc (.cells #[.int .i64 B, .slice lA ln lc] 25)) w.heap.size 25 #[.int .i64 B, .slice lA ln lc]) := Bk.new _ _ _
  have HK1 : Hid (Bk ((w.alloc (.cells #[.int .i64 B, .slice lA ln lc] 25)).alloc (.cells #[] 3)) w.heap.size 25 #[.int .i64 B, .slice lA ln lc]) := HK0.out.alloc _
  have HO0 : Hid (Own 1 intC 3 ((w.alloc (.cells #[.int .i64 B, .slice lA ln lc] 25)).alloc (.cells #[] 3)) (w.heap.size + 1) (.slice (some ⟨w.heap.size + 1, 0, none⟩) 0 0) []) := by
    have h := Own.lit (k := 1) (c := intC) (B := w.heap.size + 1) (w.alloc (.cells #[.int .i64 B, .slice lA ln lc] 25)) 3 #[] 0 [] (by simp) rfl (by omega) rfl
    simpa [Hid] using h
  have HC0 := Lib.hid (((Chg.refl g w).alloc (.cells #[.int .i64 B, .slice lA ln lc] 25)).alloc (.cells #[] 3))
  have HR0 := Lib.hid ((HR.out.alloc (.cells #[.int .i64 B, .slice lA ln lc] 25)).alloc (.cells #[] 3))
  go_enter Tryd.func34, Tryd.ntmps34
  go_wp2_with fail
  go_loopw [7, 8] (fun t7 t8 wr => ∃ (k : Nat) (ys : List Int), t8 = .int .i64 k ∧ k ≤ 20 ∧ Hid (ys.length ≤ k) ∧ Hid (Bk wr w.heap.size 25 #[.int .i64 B, .slice lA ln lc]) ∧ Hid (RdOk 83 wr g (P + k)) ∧ Hid (Chg g w wr) ∧ Hid (Own 1 intC 3 wr (w.heap.size + 1) t7 ys)) (fun _ t8 _ => 20 - (intOf t8).toNat)
  case atStart => exact ⟨0, [], rfl, Nat.zero_le _, by simp [Hid], HK1, HR0.out.more (by omega), HC0, HO0⟩
  case round =>
    obtain ⟨k, ys, rfl, hk, HY, HK, HR2, HC, HV⟩ := hrel
    clear HK0 HK1 HO0 HC0 HR0
    have hz4 := HK.out.lt
    have hgz : g < wr.heap.size := by omega
    have c0 : wr.cell? ⟨w.heap.size, 0, none⟩ = some (.int .i64 B) := HK.out.cell 0
    obtain ⟨vA, vc, hvv⟩ := HV.out.slice
    generalize hll : ys.length = ll at hvv
    have HLL := Lib.hid hll; clear hll
    subst hvv
    have hyl : ys.length ≤ 20 := by have := HY.out; omega
    by_cases hlt : (k : Int) < B
    · go_wp2_with fail; ((with_reducible refine (pick_any g (P + k) 2 _ (HR2.out) (by omega) (by omega)).mono ?_); rintro e wa ⟨va, rfl, h0va, h1va, hr_wa, hc_wa⟩); have hz_wa := hc_wa.size; (try simp only [World.size_alloc, World.size_setCell, World.size_drew] at hz_wa); have HR_wa := Lib.hid hr_wa; have HC_wa := Lib.hid hc_wa; clear hr_wa hc_wa
      have HVa := Lib.hid (HV.out.chg HC_wa.out (by omega))
      have HCa := Lib.hid (HC.out.trans HC_wa.out)
      have HKa := Lib.hid (HC_wa.out.bk HK.out (by omega))
      have hza := HKa.out.lt
      clear c0 HC_wa
      by_cases hv : va = 0
      · have e1 : (va == 0) = true := by simp [hv]
        clear hv
        have HL_7 := Lib.hid (Own.lit (k := 1) (c := intC) (B := w.heap.size + 1) wa 3 #[.int .i64 k] 1 [(k : Int)] (by first | exact Nat.le_refl _ | omega) rfl (by omega) rfl); have HQ_7 := Lib.hid (HL_7.out.reads rfl).1; have HV_7 := Lib.hid (Own.alloc (HVa.out) (.cells #[.int .i64 k] 3)); have HK_7 := Lib.hid (Own.blk (HVa.out)); go_wp2_with (first | (at_builtin; refine wpList_app_g (k := 1) (c := intC) _ (by rfl) _ _ _ rfl 3 (.int .i64 0) 8 Tryd.underlying28 (by kernel_rfl) rfl (by decide) (by decide) intC_one _ _ _ rfl HV_7.out _ _ _ _ rfl HQ_7.out ?hm ?hlen ?hB ?_; (case hm => (first | rfl | (simp; done) | omega)); (case hlen => (simp only [List.length_cons, List.length_nil]; omega)); (case hB => ((try simp only [World.size_alloc, World.size_drew]); omega)); intro v_7 w_7 hown_7 hg_7 hat_7; have HW_7 : Hid (Below (w.heap.size + 1) (wa) w_7) := (Below.alloc (Below.refl _ _) (by first | exact Nat.le_refl _ | omega) _).grown hg_7 (by (try simp only [World.size_alloc]); omega) (fun q hq => (HK_7.out q hq).1); have HG_7 := Lib.hid hg_7; have HAT_7 := Lib.hid hat_7; have HO_7 := Lib.hid hown_7; obtain ⟨A_7, c_7, hv_7⟩ := hown_7.slice; simp only [List.length_append, List.length_cons, List.length_nil, Nat.zero_add] at hv_7; subst hv_7; have hz_7 := HG_7.out.size; (try simp only [World.size_alloc] at hz_7); clear hown_7 hg_7 hat_7 HL_7 HQ_7 HV_7))
        refine ⟨⟨k + 1, _, by go_num, by omega, by have := HY.out; unfold Hid; simp; omega, ?_, ?_, chG (g7 := w.heap.size) HCa.out HVa.out (Nat.le_refl _) HG_7.out, HO_7⟩, by simp [intOf]; omega⟩
        · exact (HKa.out.alloc _).grown HG_7.out (fun e => by have := (HVa.out.blk _ e.symm).1; omega)
        · exact (rdG (g7 := w.heap.size) HR_wa.out HVa.out hgl HG_7.out).more (by omega)
      · have e1 : (va == 0) = false := by simp [hv]
        clear hv
        go_wp2_with fail
        exact ⟨⟨k + 1, ys, by go_num, by omega, by have := HY.out; unfold Hid; omega, HKa, HR_wa.out.more (by omega), HCa, HVa⟩, by simp [intOf]; omega⟩
    · have hodd := odd_any g (P + k) n wr HR2.out (by omega) (by omega) hn0
      go_wp2_with fail
      refine hodd.mono ?_
      clear hodd
      rintro e w2 ⟨bo, rfl, hr2, hc2⟩
      have HRa := Lib.hid hr2
      have HV1 := Lib.hid (HV.out.chg hc2 (by omega))
      have HCW : Hid (Chg g w w2) := HC.out.trans hc2
      have HK2 := Lib.hid (hc2.bk HK.out (by omega))
      have hzw1 := HCW.out.size
      clear hr2 hc2 c0 hz4 hgz
      cases bo with
      | false =>
        go_wp2_with fail
        go_ret
        exact ⟨_, ys, rfl, by omega, HV1.out.drs.mono (by omega), HRa.out.more (by omega), HCW.out⟩
      | true =>
        have hz4 := HK2.out.lt
        have hgz2 : g < w2.heap.size := by omega
        have c0 : w2.cell? ⟨w.heap.size, 0, none⟩ = some (.int .i64 B) := HK2.out.cell 0
        have hsel : ∀ q : Nat, q < 2 → (#[Value.int .i64 0, Value.int .i64 B] : Array Value)[q]? = some (.int .i64 (selZ B q)) := by
          intro q hq
          have : q = 0 ∨ q = 1 := by omega
          rcases this with rfl | rfl <;> rfl
        have hsel2 : ∀ (q : Nat) (h : q < ([Value.int .i64 0, Value.int .i64 B] : List Value).length), ([Value.int .i64 0, Value.int .i64 B] : List Value)[q] = .int .i64 (selZ B q) := by
          intro q hq
          have hq : q < 2 := hq
          have : q = 0 ∨ q = 1 := by omega
          rcases this with rfl | rfl <;> rfl
        have HRd : Hid (RdOk 83 w2.drew g (P + k + 1)) := HRa.out
        have HVd : Hid (Own 1 intC 3 w2.drew (w.heap.size + 1) (.slice vA ll vc) ys) := HV1.out.drew
        have HCd : Hid (Chg g w w2.drew) := HCW.out.drewL
        have HKd : Hid (Bk w2.drew w.heap.size 25 #[.int .i64 B, .slice lA ln lc]) := HK2.out
        have hBz : w.heap.size + 1 ≤ w2.heap.size := by omega
        have HRe : Hid (RdOk 83 (w2.alloc (.cells #[.int .i64 0, .int .i64 B] 3)).drew g (P + k + 1)) := HRa.out.alloc _
        have HVe : Hid (Own 1 intC 3 (w2.alloc (.cells #[.int .i64 0, .int .i64 B] 3)).drew (w.heap.size + 1) (.slice vA ll vc) ys) := (HV1.out.alloc _).drew
        have HCe : Hid (Chg g w (w2.alloc (.cells #[.int .i64 0, .int .i64 B] 3)).drew) := (HCW.out.alloc _).drewL
        have HKe : Hid (Bk (w2.alloc (.cells #[.int .i64 0, .int .i64 B] 3)).drew w.heap.size 25 #[.int .i64 B, .slice lA ln lc]) := HK2.out.alloc _
        go_wp2_with fail
        go_region_law
          (first
            | (refine step_app_g (k := 1) (c := intC) _ (by rfl) _ _ _ rfl 3 (.int .i64 0) 8 Tryd.underlying28 (by kernel_rfl) rfl (by decide) (by decide) intC_one _ _ _ rfl HV_7.out _ _ _ _ rfl HQ_7.out ?hm ?hlen ?hB ?_; (case hm => (first | rfl | (simp; done) | omega)); (case hlen => (simp only [List.length_cons, List.length_nil]; omega)); (case hB => ((try simp only [World.size_alloc, World.size_drew]); omega)); intro v_7 w_7 hown_7 hg_7 hat_7; have HW_7 : Hid (Below (w.heap.size + 1) (wa) w_7) := (Below.alloc (Below.refl _ _) (by first | exact Nat.le_refl _ | omega) _).grown hg_7 (by (try simp only [World.size_alloc]); omega) (fun q hq => (HK_7.out q hq).1); have HG_7 := Lib.hid hg_7; have HAT_7 := Lib.hid hat_7; have HO_7 := Lib.hid hown_7; obtain ⟨A_7, c_7, hv_7⟩ := hown_7.slice; simp only [List.length_append, List.length_cons, List.length_nil, Nat.zero_add] at hv_7; subst hv_7; have hz_7 := HG_7.out.size; (try simp only [World.size_alloc] at hz_7); clear hown_7 hg_7 hat_7 HL_7 HQ_7 HV_7; have cc0 : w_7.cell? ⟨w.heap.size, 0, none⟩ = some (.int .i64 B) := ((HKa.out.alloc _).grown HG_7.out (fun e => by have := (HOa.out.blk _ e.symm).1 ; omega)).cell 0)
            | (refine step_app_g (k := 1) (c := intC) _ (by rfl) _ _ _ rfl 3 (.int .i64 0) 8 Tryd.underlying28 (by kernel_rfl) rfl (by decide) (by decide) intC_one _ _ _ rfl HV_8.out _ _ _ _ rfl HQ_8.out ?hm ?hlen ?hB ?_; (case hm => (first | rfl | (simp; done) | omega)); (case hlen => (simp only [List.length_cons, List.length_nil]; omega)); (case hB => ((try simp only [World.size_alloc, World.size_drew]); omega)); intro v_8 w_8 hown_8 hg_8 hat_8; have HW_8 : Hid (Below (w.heap.size + 1) ((wa.alloc (LitB B))) w_8) := (Below.alloc (Below.refl _ _) (by first | exact Nat.le_refl _ | omega) _).grown hg_8 (by (try simp only [World.size_alloc]); omega) (fun q hq => (HK_8.out q hq).1); have HG_8 := Lib.hid hg_8; have HAT_8 := Lib.hid hat_8; have HO_8 := Lib.hid hown_8; obtain ⟨A_8, c_8, hv_8⟩ := hown_8.slice; simp only [List.length_append, List.length_cons, List.length_nil, Nat.zero_add] at hv_8; subst hv_8; have hz_8 := HG_8.out.size; (try simp only [World.size_alloc] at hz_8); clear hown_8 hg_8 hat_8 HL_8 HQ_8 HV_8; have cc0 : w_8.cell? ⟨w.heap.size, 0, none⟩ = some (.int .i64 B) := (((HKa.out.alloc _).alloc _).grown HG_8.out (fun e => by have := (HOb.out.blk _ e.symm).1 ; omega)).cell 0)
            | (go_simp; go_at_call 33; (with_reducible refine (pick_same g (P + k + 1) 2 _ (by first | (with_reducible exact HRd.out) | (with_reducible exact HRe.out)) (by omega) (by omega)).mono ?_); rintro e wa ⟨⟨va, rfl, h0a, h1a, hra, hca⟩, zA⟩; have HCa : Hid (Chg g w wa) := (by first | (with_reducible exact Lib.hid (HCd.out.trans hca)) | (with_reducible exact Lib.hid (HCe.out.trans hca))); have HOa : Hid (Own 1 intC 3 wa (w.heap.size + 1) (.slice vA ll vc) ys) := (by first | (with_reducible exact Lib.hid (HVd.out.chg hca (by omega))) | (with_reducible exact Lib.hid (HVe.out.chg hca (by omega)))); have HKa : Hid (Bk wa w.heap.size 25 #[.int .i64 B, .slice lA ln lc]) := (by first | (with_reducible exact Lib.hid (hca.bk HKd.out (by omega))) | (with_reducible exact Lib.hid (hca.bk HKe.out (by omega)))); have cA := fun h => Chg.cell hca (b := w2.heap.size) h (by omega); clear zA; have hza := HCa.out.size; have hzk := HKa.out.lt; have a0 : wa.cell? ⟨w.heap.size, 0, none⟩ = some (.int .i64 B) := HKa.out.cell 0; have HRa2 := Lib.hid hra; (obtain ⟨q, hq⟩ : ∃ q : Nat, va = (q : Int) := ⟨va.toNat, (Int.toNat_of_nonneg h0a).symm⟩); subst hq; have hq3 : q < 2 := (by omega); have hq4 : (0 : Int) ≤ (q : Int) := (by omega); have hq5 : (q : Int) < 2 := (by omega); have hq6 := hsel q hq3; have HOb := Lib.hid (HOa.out.alloc (LitB B)); have hzb : w.heap.size + 1 ≤ (wa.alloc (LitB B)).heap.size := (by simp only [World.size_alloc]; omega); have hzb2 : w.heap.size + 1 ≤ wa.heap.size := (by omega); clear hra hca; have HL_7 := Lib.hid (Own.lit (k := 1) (c := intC) (B := w.heap.size + 1) wa 3 #[.int .i64 (selZ B q)] 1 [(selZ B q)] (by first | exact Nat.le_refl _ | omega) rfl (by omega) rfl); have HQ_7 := Lib.hid (HL_7.out.reads rfl).1; have HV_7 := Lib.hid (Own.alloc (HOa.out) (.cells #[.int .i64 (selZ B q)] 3)); have HK_7 := Lib.hid (Own.blk (HOa.out)); have HL_8 := Lib.hid (Own.lit (k := 1) (c := intC) (B := w.heap.size + 1) (wa.alloc (LitB B)) 3 #[.int .i64 (selZ B q)] 1 [(selZ B q)] (by first | exact Nat.le_refl _ | omega) rfl (by omega) rfl); have HQ_8 := Lib.hid (HL_8.out.reads rfl).1; have HV_8 := Lib.hid (Own.alloc (HOb.out) (.cells #[.int .i64 (selZ B q)] 3)); have HK_8 := Lib.hid (Own.blk (HOb.out)); have HQ_8 : Hid (Reads 1 intC ((wa.alloc (LitB B)).alloc (.cells #[.int .i64 (selZ B q)] 3)) ((wa.alloc (LitB B)).alloc (.cells #[.int .i64 (selZ B q)] 3)).heap.size (some ⟨wa.heap.size + 1, 0, none⟩) [selZ B q]) := (by have h := HQ_8.out; have hs : (wa.alloc (LitB B)).heap.size = wa.heap.size + 1 := (by simp only [World.size_alloc]); rw [hs] at h; exact Lib.hid h)))
        all_goals
          go_wp2_with fail
          go_ret
          first
            | exact ⟨_, _, rfl, by simp; omega, HO_7.out.drs.mono (by omega), (rdG (g7 := w.heap.size) HRa2.out HOa.out hgl HG_7.out).more (by omega), chG (g7 := w.heap.size) HCa.out HOa.out (Nat.le_refl _) HG_7.out⟩
            | exact ⟨_, _, rfl, by simp; omega, HO_8.out.drs.mono (by omega), (rdG (g7 := w.heap.size) (HRa2.out.alloc _) HOb.out hgl HG_8.out).more (by omega), chG (g7 := w.heap.size) (HCa.out.alloc _) HOb.out (Nat.le_refl _) HG_8.out⟩
end Go.Proofs.YtdfgdeccejcpfaaDoor
