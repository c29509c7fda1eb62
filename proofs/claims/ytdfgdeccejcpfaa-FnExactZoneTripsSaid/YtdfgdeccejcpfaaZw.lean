/- spec.l18With: the buses with their leaks. -/
import Derived.Test.YtdfgdeccejcpfaaZdP
import Derived.Test.YtdfgdeccejcpfaaSpK
import Derived.Test.YtdfgdeccejcpfaaAppS
import Derived.Deep.RegionHeldLaw
namespace Go.Proofs.Ytdfgdeccejcpfaa
open Go.RowKit Go.Deep
set_option linter.unusedSimpArgs false
set_option linter.unusedVariables false

theorem belowDrewN {B : Nat} {a w : World} (h : Below B a w) (n : Nat) : Below B a (w.drewN n) := ⟨h.os, h.tape, h.output, h.size, h.block⟩
def wOk (bs : List R2) (lk : List Int) (i : Nat) : Prop := lk.length = bs.length ∧ (0 ≤ lk.getD i 0 ∧ lk.getD i 0 ≤ 999) ∧ (leakN bs lk i).b ≤ 999
instance (bs : List R2) (lk : List Int) (i : Nat) : Decidable (wOk bs lk i) := by unfold wOk; infer_instance
def wAll (bs : List R2) (lk : List Int) : Prop := ∀ i, i < bs.length → wOk bs lk i
instance (bs : List R2) (lk : List Int) : Decidable (wAll bs lk) := by unfold wAll; infer_instance
def wtL (bs : List R2) (lk : List Int) (n : Nat) : List R2 := (List.range n).map (leakN bs lk)
theorem wtL_succ {bs : List R2} {lk : List Int} {i : Nat} : wtL bs lk (i + 1) = wtL bs lk i ++ [leakN bs lk i] := by unfold wtL; rw [List.range_succ, List.map_append]; rfl
theorem wtL_len {bs : List R2} {lk : List Int} {i : Nat} : (wtL bs lk i).length = i := by simp [wtL]
theorem wtL_leak {bs : List R2} {lk : List Int} : wtL bs lk bs.length = leakL bs lk := List.ext_getElem (by simp [wtL, leakL_len]) (fun i h1 h2 => by
  have hi : i < bs.length := by rw [leakL_len] at h2; exact h2
  have e : (leakL bs lk)[i] = leakN bs lk i := by rw [← leakL_at hi]; unfold busAt; rw [getD_lt h2]
  rw [e]; simp [wtL])
set_option maxRecDepth 100000 in
set_option maxHeartbeats 8000000 in
theorem l18With_any (A A1 : Option Addr) (c c1 : Nat) (bs : List R2) (lk : List Int) (w : World) (hR : Reads 2 r2C w w.heap.size A bs) (hR1 : Reads 1 intC w w.heap.size A1 lk) (hl : bs.length ≤ 1048576) (hl1 : lk.length ≤ 1048576) :
    Calls Try.prog 58 #[.slice A bs.length c, .slice A1 lk.length c1] w fun e w' => ∃ (vA : Option Addr) (vn vc : Nat), e = .returned (.tuple #[.slice vA vn vc, .bool (decide (wAll bs lk))]) ∧ (wAll bs lk → Res 2 r2C 68 w' w.heap.size (.slice vA vn vc) (leakL bs lk)) ∧ Below w.heap.size w w' := by
  have HRD : Hid (∀ W, Below w.heap.size w W → Reads 2 r2C W W.heap.size A bs ∧ Reads 1 intC W W.heap.size A1 lk) := fun W h => ⟨(hR.below h (Nat.le_refl _)).more h.size, (hR1.below h (Nat.le_refl _)).more h.size⟩
  clear hR hR1
  have HO0 : Hid (Own 2 r2C 68 (w.alloc (.cells #[] 68)) w.heap.size (.slice (some ⟨w.heap.size, 0, none⟩) 0 0) (wtL bs lk 0)) := Own.lit (k := 2) (c := r2C) (B := w.heap.size) w 68 #[] 0 [] (by simp) rfl (by omega) rfl
  have HB0 : Hid (Below w.heap.size w (w.alloc (.cells #[] 68))) := by unfold Hid; (repeat' (first | (with_reducible exact Below.refl _ _) | (with_reducible refine Below.alloc ?_ ?_ _) | (with_reducible refine Below.setCell ?_ ?_ _) | (with_reducible refine Below.drew ?_) | (refine Below.trans ?_ (Below.mono (by with_reducible assumption) ?_)) | go_size))
  generalize hv0 : wtL bs lk 0 = v0 at HO0
  have HV0 := Lib.hid hv0; clear hv0
  go_enter Try.func58, Try.ntmps58
  go_wp2_with fail
  go_loopw [6, 7] (fun t6 t7 wr => ∃ i : Nat, t7 = .int .i64 i ∧ i ≤ bs.length ∧ Hid (∀ j, j < i → wOk bs lk j) ∧ Hid (Own 2 r2C 68 wr w.heap.size t6 (wtL bs lk i)) ∧ Hid (Below w.heap.size w wr)) (fun _ t7 _ => bs.length - (intOf t7).toNat)
  case atStart => exact ⟨0, rfl, Nat.zero_le _, fun j hj => by omega, by rw [HV0.out]; exact HO0, HB0⟩
  case round =>
    obtain ⟨i, rfl, hi, HG, HO, HB⟩ := hrel
    clear HO0 HB0 HV0
    by_cases hlt : i < bs.length
    · have hi1 : (i : Int) < (bs.length : Int) := by omega
      obtain ⟨vA, vc, hv⟩ := HO.out.slice
      subst hv
      have hil : (wtL bs lk i).length ≤ 1048576 := by rw [wtL_len]; omega
      have HBAD : Hid (¬ wOk bs lk i → decide (wAll bs lk) = false) := fun h => decide_eq_false (fun q => h (q i hlt))
      by_cases hlen : lk.length = bs.length
      · have hne : ((lk.length : Int) != (bs.length : Int)) = false := by simp [hlen]
        have hik : i < lk.length := by omega
        have HLEN := Lib.hid hlen; clear hlen
        have hik1 : (i : Int) < (lk.length : Int) := by omega
        obtain ⟨kb, ko, rfl, hkb, hkc⟩ := (HRD.out _ (Below.refl _ _)).2.at1 hik
        unfold intC at hkc
        have hkd : lk.getD i 0 = lk[i] := getD_lt hik 0
        generalize lk[i] = x at hkc hkd
        have HKD := Lib.hid hkd; clear hkd
        obtain ⟨bb, bo, rfl, hbb, hb0, hb1⟩ := (HRD.out _ (Below.refl _ _)).1.at2 hlt
        have hbd : busAt bs i = bs[i] := getD_lt hlt _
        generalize bs[i] = y at hb0 hb1 hbd
        obtain ⟨ya, yb⟩ := y
        simp only at hb0 hb1
        have HCL : Hid (∀ W, Below w.heap.size w W → W.cell? ⟨kb, ko + i, none⟩ = some (.int .i64 x) ∧ W.cell? ⟨bb, bo + i * 2, none⟩ = some (.int .i64 ya) ∧ W.cell? ⟨bb, bo + i * 2 + 1, none⟩ = some (.int .i64 yb)) := fun W h => ⟨(keepB h hkb _).trans hkc, (keepB h hbb _).trans hb0, (keepB h hbb _).trans hb1⟩
        clear hkc hb0 hb1
        obtain ⟨hkc, hb0, hb1⟩ := HCL.out _ HB.out
        have HLK : Hid (leakN bs lk i = ⟨ya, IntKind.i64.wrap (yb + x)⟩) := by unfold Hid leakN; rw [hbd, HKD.out]
        clear hbd
        obtain ⟨s, hs⟩ : ∃ s, IntKind.i64.wrap (yb + x) = s := ⟨_, rfl⟩
        rw [hs] at HLK
        by_cases hx : 0 ≤ x ∧ x ≤ 999
        · have hin := inB_t.2 hx
          have HX := Lib.hid hx; clear hx
          by_cases h9 : s ≤ 999
          · have HOK : Hid (wOk bs lk i) := ⟨HLEN.out, by rw [HKD.out]; exact HX.out, by rw [HLK.out]; exact h9⟩
            go_wp2_with fail
            go_quiet ((go_at_call 38; exact quietL (l1In_any _ _ _ _)))
            have HOq : Hid (Own 2 r2C 68 (wr.drewN nq) w.heap.size (.slice vA (wtL bs lk i).length vc) (wtL bs lk i)) := HO.out
            have HBq : Hid (Below w.heap.size w (wr.drewN nq)) := belowDrewN HB.out nq
            generalize wr.drewN nq = wq at HOq HBq ⊢
            clear hkc hb0 hb1 HO HB
            obtain ⟨hkc, hb0, hb1⟩ := HCL.out _ HBq.out
            have hzq := HBq.out.size
            have HOq2 : Hid (Own 2 r2C 68 wq.drew w.heap.size (.slice vA (wtL bs lk i).length vc) (wtL bs lk i)) := HOq.out.drew
            have HBq2 : Hid (Below w.heap.size w wq.drew) := HBq.out.drew
            have zkq : kb < wq.heap.size := by omega
            have zbq : bb < wq.heap.size := by omega
            have hzq2 : w.heap.size ≤ wq.drew.heap.size := hzq
            go_upto_region 7 with fail
            have HL_1 := Lib.hid (Own.lit (k := 2) (c := r2C) (B := w.heap.size) wq.drew 68 #[.int .i64 ya, .int .i64 s] 1 [(⟨ya, s⟩ : R2)] (by first | exact Nat.le_refl _ | omega) rfl (by omega) rfl); have HQ_1 := Lib.hid (HL_1.out.reads rfl).1; have HV_1 := Lib.hid (Own.alloc (HOq2.out) (.cells #[.int .i64 ya, .int .i64 s] 68)); have HK_1 := Lib.hid (Own.blk (HOq2.out))
            go_region_held_law (fun w' => w'.cell? ⟨kb, ko + i, none⟩ = some (.int .i64 x) ∧ w'.cell? ⟨bb, bo + i * 2, none⟩ = some (.int .i64 ya) ∧ w'.cell? ⟨bb, bo + i * 2 + 1, none⟩ = some (.int .i64 yb)) (simp [go_sem, World.cell?_alloc_past, *])
              (first | (refine step_app_g (k := 2) (c := r2C) _ (by rfl) _ _ _ rfl 68 (.agg (Array.replicate 2 (.int .i64 0))) 16 Try.underlying41 (by kernel_rfl) rfl (by decide) (by decide) r2C_one _ _ _ rfl HV_1.out _ _ _ _ rfl HQ_1.out ?hm ?hlen ?hB ?_; (case hm => (first | rfl | (simp; done) | omega)); (case hlen => (simp only [List.length_cons, List.length_nil]; omega)); (case hB => ((try simp only [World.size_alloc, World.size_drew]); omega)); intro v_1 w_1 hown_1 hg_1 hat_1; have HW_1 : Hid (Below (w.heap.size) (wq.drew) w_1) := (Below.alloc (Below.refl _ _) (by first | exact Nat.le_refl _ | omega) _).grown hg_1 (by (try simp only [World.size_alloc]); omega) (fun q hq => (HK_1.out q hq).1); have HG_1 := Lib.hid hg_1; have HAT_1 := Lib.hid hat_1; have HO_1 := Lib.hid hown_1; obtain ⟨A_1, c_1, hv_1⟩ := hown_1.slice; simp only [List.length_append, List.length_cons, List.length_nil, Nat.zero_add] at hv_1; subst hv_1; have hz_1 := HG_1.out.size; (try simp only [World.size_alloc] at hz_1); clear hown_1 hg_1 hat_1 HL_1 HQ_1 HV_1; have HBN : Hid (Below w.heap.size w w_1) := HBq2.out.trans HW_1.out ; obtain ⟨k0, k1, k2⟩ := HCL.out w_1 HBN.out))
            have HG2 : Hid (∀ j, j < i + 1 → wOk bs lk j) := fun j hj => by
              by_cases e : j = i
              · subst e; exact HOK.out
              · exact HG.out j (by omega)
            have HON : Hid (Own 2 r2C 68 w_1 w.heap.size (.slice A_1 ((wtL bs lk i).length + 1) c_1) (wtL bs lk (i + 1))) := by unfold Hid; rw [wtL_succ, HLK.out]; exact HO_1.out
            go_wp2_with fail
            exact ⟨⟨i + 1, by go_num, by omega, HG2, HON, HBN⟩, by simp [intOf]; omega⟩
          · have HNO : Hid (decide (wAll bs lk) = false) := HBAD.out (fun q => h9 (by have := q.2.2; rw [HLK.out] at this; exact this))
            go_wp2_with fail
            go_quiet ((go_at_call 38; exact quietL (l1In_any _ _ _ _)))
            go_wp2_with fail
            refine bodyPost_ret (v := .tuple #[.slice (some ⟨wr.heap.size, 0, none⟩) 0 0, .bool false]) (by simp [results, Try.results58, go_sem]; try rfl) rfl ?_
            exact ⟨_, _, _, by rw [HNO.out], fun h => absurd h (of_decide_eq_false HNO.out), (belowDrewN HB.out nq).alloc HB.out.size _⟩
        · have hin := inB_f.2 hx
          have HNO : Hid (decide (wAll bs lk) = false) := HBAD.out (fun q => hx (by have := q.2.1; rw [HKD.out] at this; exact this))
          clear hx
          go_wp2_with fail
          go_quiet ((go_at_call 38; exact quietL (l1In_any _ _ _ _)))
          go_wp2_with fail
          refine bodyPost_ret (v := .tuple #[.slice (some ⟨wr.heap.size, 0, none⟩) 0 0, .bool false]) (by simp [results, Try.results58, go_sem]; try rfl) rfl ?_
          exact ⟨_, _, _, by rw [HNO.out], fun h => absurd h (of_decide_eq_false HNO.out), (belowDrewN HB.out nq).alloc HB.out.size _⟩
      · have hne : ((lk.length : Int) != (bs.length : Int)) = true := by simp; omega
        have HNO : Hid (decide (wAll bs lk) = false) := HBAD.out (fun q => hlen q.1)
        clear hlen
        go_wp2_with fail
        go_quiet ((go_at_call 38; exact quietL (l1In_any _ _ _ _)))
        go_wp2_with fail
        refine bodyPost_ret (v := .tuple #[.slice (some ⟨wr.heap.size, 0, none⟩) 0 0, .bool false]) (by simp [results, Try.results58, go_sem]; try rfl) rfl ?_
        exact ⟨_, _, _, by rw [HNO.out], fun h => absurd h (of_decide_eq_false HNO.out), (belowDrewN HB.out nq).alloc HB.out.size _⟩
    · obtain rfl : i = bs.length := by omega
      have HYES : Hid (decide (wAll bs lk) = true) := decide_eq_true (fun j hj => HG.out j hj)
      have hres := HO.out.res
      rw [wtL_leak] at hres
      have HRES := Lib.hid hres; clear hres
      obtain ⟨vA, vc, hv⟩ := HO.out.slice
      rw [wtL_len] at hv
      subst hv
      go_wp2_with fail
      refine bodyPost_ret (v := .tuple #[.slice vA bs.length vc, .bool true]) (by simp [results, Try.results58, go_sem]; try rfl) rfl ?_
      exact ⟨_, _, _, by rw [HYES.out], fun _ => HRES.out, HB.out⟩
end Go.Proofs.Ytdfgdeccejcpfaa
