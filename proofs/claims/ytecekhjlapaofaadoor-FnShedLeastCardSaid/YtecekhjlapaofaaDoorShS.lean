/- The law FnShedSum: plain law, draw and walk. -/
import Derived.Test.YtecekhjlapaofaaDoorShP
import Derived.Test.YtecekhjlapaofaaDoorSrtP
import Derived.Test.YtecekhjlapaofaaDoorDrBlk
import Derived.Test.YtecekhjlapaofaaDoorAlive
namespace Go.Proofs.YtecekhjlapaofaaDoor
open Go.RowKit Go.Deep
set_option linter.unusedSimpArgs false
set_option linter.unusedVariables false
def tailP (xs : List R2) (p : Nat → Bool) : Nat → Nat → Int
  | _, 0 => 0
  | k, m + 1 => (if p k = true then sizeAt xs k else 0) + tailP xs p (k + 1) m
theorem sh_pred (xs : List R2) (p : Nat → Bool) : ∀ (m k : Nat) (q t : Int), k + m = xs.length → q < (k : Int) →
    shSum xs q t (((List.range' k m).filter p).map fun (k : Nat) => (k : Int)) = some (t + tailP xs p k m) := by
  intro m
  induction m with
  | zero => intro k q t _ _; simp [shSum, tailP]
  | succ m ih =>
    intro k q t hk hq
    rw [List.range'_succ, List.filter_cons]
    by_cases hb : p k = true
    · rw [if_pos hb, List.map_cons]
      simp only [shSum, tailP]
      rw [if_pos ⟨hq, by omega⟩, if_pos hb, ih (k + 1) _ _ (by omega) (by omega), Int.toNat_natCast]
      congr 1
      unfold sizeAt
      omega
    · rw [if_neg hb, ih (k + 1) q t (by omega) (by omega)]
      simp only [tailP]
      rw [if_neg hb]
      congr 1
      omega
theorem tailP_add (xs : List R2) (p : Nat → Bool) : ∀ (m k : Nat), tailP xs p k m + tailP xs (fun k => !p k) k m = tailP xs (fun _ => true) k m
  | 0, k => by simp [tailP]
  | m + 1, k => by
    have := tailP_add xs p m (k + 1)
    simp only [tailP]
    by_cases hp : p k = true <;> simp [hp] <;> omega
theorem tailP_bd {xs : List R2} (h : BlksP xs) (p : Nat → Bool) : ∀ (m k : Nat), k + m ≤ xs.length → 0 ≤ tailP xs p k m ∧ tailP xs p k m ≤ 999 * m
  | 0, k, _ => by simp [tailP]
  | m + 1, k, hk => by
    have := tailP_bd h p m (k + 1) (by omega)
    have := sizeAt_bd h (k := k) (by omega)
    simp only [tailP]
    split <;> omega
theorem shSum_asc {xs : List R2} : ∀ {l : List Int} {p t v : Int}, shSum xs p t l = some v → l.Pairwise (· < ·) ∧ ∀ y ∈ l, p < y ∧ y < xs.length
  | [], p, t, v, _ => ⟨List.Pairwise.nil, by simp⟩
  | i :: l, p, t, v, h => by
    simp only [shSum] at h
    split at h
    · rename_i hi
      obtain ⟨h1, h2⟩ := shSum_asc h
      refine ⟨List.pairwise_cons.2 ⟨fun y hy => (h2 y hy).1, h1⟩, fun y hy => ?_⟩
      rcases List.mem_cons.1 hy with rfl | hy
      · exact hi
      · have := h2 y hy; omega
    · cases h
theorem asc_eq {ys : List Int} {n : Nat} (h1 : ys.Pairwise (· < ·)) (h2 : ∀ y ∈ ys, -1 < y ∧ y < n) : ys = ((List.range' 0 n).filter (fun (k : Nat) => decide ((k : Int) ∈ ys))).map fun (k : Nat) => (k : Int) := by
  refine sorted_unique (R := fun (a b : Int) => a < b) (fun a b h1 h2 => by omega) ?_ h1 ?_
  · refine (List.perm_ext_iff_of_nodup (h1.imp (fun h => by omega)) ?_).2 fun y => ?_
    · refine List.Pairwise.map _ (fun a b hab => ?_) (List.filter_sublist.nodup List.nodup_range')
      intro e; exact hab (by omega)
    · simp only [List.mem_map, List.mem_filter, decide_eq_true_eq, List.mem_range'_1]
      constructor
      · intro hy
        have := h2 y hy
        exact ⟨y.toNat, ⟨by omega, by rwa [Int.toNat_of_nonneg (by omega)]⟩, by omega⟩
      · rintro ⟨k, ⟨_, hk⟩, rfl⟩; exact hk
  · refine List.Pairwise.map _ (fun a b hab => ?_) (List.Pairwise.filter _ List.pairwise_lt_range')
    omega
def restL (ys : List Int) (n : Nat) : List Int := ((List.range n).filter (fun (k : Nat) => !decide ((k : Int) ∈ ys))).map fun (k : Nat) => (k : Int)
def allL (n : Nat) : List Int := (List.range n).map fun (k : Nat) => (k : Int)
theorem restL_succ (ys : List Int) (n : Nat) : restL ys (n + 1) = restL ys n ++ (if (n : Int) ∈ ys then [] else [(n : Int)]) := by
  unfold restL
  rw [List.range_succ, List.filter_append, List.map_append]
  by_cases h : (n : Int) ∈ ys <;> simp [h]
theorem allL_succ (n : Nat) : allL (n + 1) = allL n ++ [(n : Int)] := by unfold allL; rw [List.range_succ, List.map_append]; rfl
theorem shed_law {xs : List R2} {ys : List Int} (h : 0 ≤ shedSum xs ys) : 0 ≤ shedSum xs ys ∧ shedSum xs ys ≤ 8000 ∧ 0 ≤ shedSum xs (restL ys xs.length) ∧ shedSum xs (restL ys xs.length) ≤ 8000 ∧ shedSum xs ys + shedSum xs (restL ys xs.length) = shedSum xs (allL xs.length) := by
  have hB : BlksP xs := by
    rcases Classical.em (BlksP xs) with hB | hB
    · exact hB
    · unfold shedSum at h; rw [if_neg hB] at h; omega
  have e : ∀ zs, shedSum xs zs = (shSum xs (-1) 0 zs).getD (-1) := fun zs => by unfold shedSum; rw [if_pos hB]
  have h8 := hB.1
  rw [e] at h
  cases hv : shSum xs (-1) 0 ys with
  | none => rw [hv] at h; simp at h
  | some v =>
    obtain ⟨h1, h2⟩ := shSum_asc hv
    have hy := asc_eq h1 h2
    have k1 := sh_pred xs (fun (k : Nat) => decide ((k : Int) ∈ ys)) xs.length 0 (-1) 0 (by omega) (by omega)
    rw [← hy] at k1
    have k2 := sh_pred xs (fun (k : Nat) => !decide ((k : Int) ∈ ys)) xs.length 0 (-1) 0 (by omega) (by omega)
    have k3 := sh_pred xs (fun _ => true) xs.length 0 (-1) 0 (by omega) (by omega)
    have e2 : restL ys xs.length = ((List.range' 0 xs.length).filter (fun (k : Nat) => !decide ((k : Int) ∈ ys))).map fun (k : Nat) => (k : Int) := by unfold restL; rw [List.range_eq_range']
    have e3 : allL xs.length = ((List.range' 0 xs.length).filter (fun _ => true)).map fun (k : Nat) => (k : Int) := by unfold allL; rw [List.range_eq_range', List.filter_eq_self.2 (by simp)]
    rw [e, e, e, k1, e2, k2, e3, k3]
    simp only [Option.getD_some]
    have b1 := tailP_bd hB (fun (k : Nat) => decide ((k : Int) ∈ ys)) xs.length 0 (by omega)
    have b2 := tailP_bd hB (fun (k : Nat) => !decide ((k : Int) ∈ ys)) xs.length 0 (by omega)
    have b3 := tailP_add xs (fun (k : Nat) => decide ((k : Int) ∈ ys)) xs.length 0
    omega
theorem hasInt_any (A : Option Addr) (n cp : Nat) (ys : List Int) (k : Int) (w : World) (hn : ys.length = n) (hR : Reads 1 intC w w.heap.size A ys) (hl : n ≤ 1048576) :
    Calls Tryd.prog 13 #[.slice A n cp, .int .i64 k] w fun e w' => e = .returned (.bool (decide (k ∈ ys))) ∧ w = w' := by
  have HN := Lib.hid hn; clear hn
  have HR := Lib.hid hR; clear hR
  generalize hV : decide (k ∈ ys) = V
  have HV := Lib.hid hV; clear hV
  go_enter Tryd.func13, Tryd.ntmps13
  go_wp2_with fail
  go_loopw [5] (fun t wr => ∃ i : Nat, t = .int .i64 i ∧ i ≤ n ∧ Hid (∀ j (hj : j < ys.length), j < i → ¬ ys[j] = k) ∧ w = wr) (fun t _ => n - (intOf t).toNat)
  case atStart => exact ⟨0, rfl, Nat.zero_le _, fun j _ hj => by omega, rfl⟩
  case round =>
    obtain ⟨i, rfl, hi, HA, rfl⟩ := hrel
    by_cases hlt : i < n
    · have hx : i < ys.length := by rw [HN.out]; exact hlt
      obtain ⟨b, off, rfl, hb, hc⟩ := HR.out.at1 hx
      have hc1 : w.cell? ⟨b, off + i, none⟩ = some (.int .i64 ys[i]) := hc
      clear hc
      generalize hyy : ys[i] = y at hc1
      have HY := Lib.hid hyy; clear hyy
      by_cases he : y = k
      · have e1 : (y == k) = true := by simp [he]
        have hm : Hid (k ∈ ys) := by unfold Hid; rw [← he, ← HY.out]; exact List.getElem_mem hx
        clear he
        go_wp2_with fail
        go_ret
        refine ⟨?_, rfl⟩
        rw [← HV.out, decide_eq_true hm.out]; rfl
      · have e1 : (y == k) = false := by simp [he]
        have hm : Hid (∀ j (hj : j < ys.length), j < i + 1 → ¬ ys[j] = k) := by
          intro j hj hji
          by_cases e : j = i
          · subst e; rw [HY.out]; exact he
          · exact HA.out j hj (by omega)
        clear he
        go_wp2_with fail
        exact ⟨⟨i + 1, by go_num, by omega, hm, by first | rfl | trivial⟩, by simp [intOf]; omega⟩
    · go_wp2_with fail
      go_ret
      refine ⟨?_, rfl⟩
      have : ¬ k ∈ ys := fun hk => by
        obtain ⟨j, hj, rfl⟩ := List.mem_iff_getElem.1 hk
        exact HA.out j hj (by have := HN.out; omega) rfl
      rw [← HV.out, decide_eq_false this]; rfl
def DrawnSS (w : World) (e : Ending) (w' : World) : Prop := ∃ (v u : Value) (xs : List R2) (ys : List Int), e = .returned (.tuple #[v, u]) ∧ xs.length ≤ 9 ∧ ys.length ≤ 10 ∧ (∀ y ∈ ys, -1 ≤ y ∧ y ≤ 10) ∧ DrS 2 r2C w' w.heap.size v xs ∧ DrS 1 intC w' w.heap.size u ys ∧ Below w.heap.size w w'
set_option maxRecDepth 100000 in
set_option maxHeartbeats 4000000 in
theorem drawShedSum_any (A : Option Addr) (c : Nat) (bs : List Int) (w : World) (hR : Reads 1 byteC w w.heap.size A bs) (hb : ∀ x ∈ bs, U8 x) (hl : bs.length ≤ 1048576) (hc : bs.length ≤ c) (hcm : c ≤ 9223372036854775807) :
    Calls Tryd.prog 29 #[.slice A bs.length c] w (DrawnSS w) := by
  have HR := Lib.hid hR; clear hR
  have HB := Lib.hid hb; clear hb
  go_enter Tryd.func29, Tryd.ntmps29
  go_wp2_with fail; ((with_reducible refine (l20Open_any A c bs _ HR.out HB.out hl hc hcm).mono ?_); rintro e w1 ⟨g, rfl, hg, hr1, hb_1⟩); have hz_1 := hb_1.size; (try simp only [World.size_alloc, World.size_setCell, World.size_drew] at hz_1)
  have hgz := hr1.lt
  have HR1 := Lib.hid hr1; have HB1 := Lib.hid hb_1; clear hr1 hb_1
  go_wp2_with fail
  refine (l20Blocks_any g 0 9 _ HR1.out (by omega) (by omega) (by omega)).mono ?_
  rintro e w2 ⟨v, xs, rfl, h9, hs, hd, hr2, hc2⟩
  have HD := Lib.hid hd
  obtain ⟨A1, cp1, rfl, hcap1, hcap2, _⟩ := hd
  generalize hnx : xs.length = n at h9 hcap1
  have HN := Lib.hid hnx; clear hnx
  have HD' : Hid (DrS 2 r2C w2 w1.heap.size (.slice A1 n cp1) xs) := by have h := HD.out; rw [HN.out] at h; exact h
  clear HD
  have HR2 := Lib.hid hr2
  have HB2 : Hid (Below w.heap.size w w2) := HB1.out.trans ((hc2.below (Nat.le_of_lt hgz)).mono hg)
  have hz1 := HB1.out.size
  have hz2 := hc2.size
  clear hs hc2 hr2 HB1
  have hgz2 : g < w2.heap.size := by omega
  have HO : Hid (Own 1 intC 3 (w2.alloc (.cells #[] 3)) w2.heap.size (.slice (some ⟨w2.heap.size, 0, none⟩) 0 0) []) := by
    unfold Hid
    exact Own.lit (k := 1) (c := intC) (B := w2.heap.size) w2 3 #[] 0 [] (Nat.le_refl _) rfl (by omega) rfl
  have HC0 := Lib.hid ((Chg.refl g w2).alloc (.cells #[] 3))
  have HR0 := Lib.hid (HR2.out.alloc (.cells #[] 3))
  go_wp2_with fail
  go_loopw [6, 7] (fun t u wr => ∃ (i : Nat) (ys : List Int), u = .int .i64 i ∧ i ≤ n ∧ Hid (ys.length ≤ i ∧ ∀ y ∈ ys, -1 ≤ y ∧ y ≤ 10) ∧ Hid (RdOk 71 wr g (50 + i)) ∧ Hid (Chg g w2 wr) ∧ Hid (Own 1 intC 3 wr w2.heap.size t ys)) (fun _ u _ => n - (intOf u).toNat)
  case atStart => exact ⟨0, [], rfl, Nat.zero_le _, ⟨by simp, by simp⟩, HR0.out.more (by omega), HC0, HO⟩
  case round =>
    obtain ⟨i, ys, rfl, hi, HY, HRr, HC, HV⟩ := hrel
    clear HO HC0 HR0
    have hzw := HC.out.size
    have hgz : g < wr.heap.size := by omega
    obtain ⟨vA, vc, hvv⟩ := HV.out.slice
    have HYL := Lib.hid HY.out.1
    generalize hll : ys.length = ll at hvv HYL
    have HLL := Lib.hid hll; clear hll
    have hyl : ys.length ≤ 9 := by have := HLL.out; have := HYL.out; omega
    subst hvv
    by_cases hlt : i < n
    · go_wp2_with fail; ((with_reducible refine (pick_any g (50 + i) 2 _ (HRr.out) (by omega) (by omega)).mono ?_); rintro e wa ⟨v1, rfl, h0v1, h1v1, hr_wa, hc_wa⟩); have hz_wa := hc_wa.size; (try simp only [World.size_alloc, World.size_setCell, World.size_drew] at hz_wa); have HR_wa := Lib.hid hr_wa; have HC_wa := Lib.hid hc_wa; clear hr_wa hc_wa
      have HV1 := Lib.hid (HV.out.chg HC_wa.out (by omega))
      have HCW : Hid (Chg g w2 wa) := HC.out.trans HC_wa.out
      have hzw1 := HCW.out.size
      clear HC_wa
      by_cases hv1 : v1 = 0
      · have e1 : (v1 == 0) = true := by simp [hv1]
        clear hv1
        have HL_7 := Lib.hid (Own.lit (k := 1) (c := intC) (B := w2.heap.size) wa 3 #[.int .i64 i] 1 [(i : Int)] (by first | exact Nat.le_refl _ | omega) rfl (by omega) rfl); have HQ_7 := Lib.hid (HL_7.out.reads rfl).1; have HV_7 := Lib.hid (Own.alloc (HV1.out) (.cells #[.int .i64 i] 3)); have HK_7 := Lib.hid (Own.blk (HV1.out)); go_wp2_with (first | (at_builtin; refine wpList_app_g (k := 1) (c := intC) _ (by rfl) _ _ _ rfl 3 (.int .i64 0) 8 Tryd.underlying26 (by kernel_rfl) rfl (by decide) (by decide) intC_one _ _ _ rfl HV_7.out _ _ _ _ rfl HQ_7.out ?hm ?hlen ?hB ?_; (case hm => (first | rfl | (simp; done) | omega)); (case hlen => (simp only [List.length_cons, List.length_nil]; omega)); (case hB => ((try simp only [World.size_alloc, World.size_drew]); omega)); intro v_7 w_7 hown_7 hg_7 hat_7; have HW_7 : Hid (Below (w2.heap.size) (wa) w_7) := (Below.alloc (Below.refl _ _) (by first | exact Nat.le_refl _ | omega) _).grown hg_7 (by (try simp only [World.size_alloc]); omega) (fun q hq => (HK_7.out q hq).1); have HG_7 := Lib.hid hg_7; have HAT_7 := Lib.hid hat_7; have HO_7 := Lib.hid hown_7; obtain ⟨A_7, c_7, hv_7⟩ := hown_7.slice; simp only [List.length_append, List.length_cons, List.length_nil, Nat.zero_add] at hv_7; subst hv_7; have hz_7 := HG_7.out.size; (try simp only [World.size_alloc] at hz_7); clear hown_7 hg_7 hat_7 HL_7 HQ_7 HV_7))
        have HC5 := Lib.hid ((HCW.out.alloc _).grown HG_7.out (fun q hq => (HK_7.out q hq).1))
        have HR5 := Lib.hid ((HR_wa.out.alloc (.cells #[.int .i64 i] 3)).grown HG_7.out (fun q hq => by have := (HK_7.out q hq).1; omega))
        refine ⟨⟨i + 1, _, by go_num, by omega, ⟨?_, fun y hy => ?_⟩, HR5.out.more (by omega), HC5, HO_7⟩, by simp [intOf]; omega⟩
        · have := HLL.out; have := HYL.out; simp; omega
        · rcases List.mem_append.1 hy with hy | hy
          · exact HY.out.2 y hy
          · simp at hy; subst hy; omega
      · have e1 : (v1 == 0) = false := by simp [hv1]
        clear hv1
        go_wp2_with fail
        exact ⟨⟨i + 1, ys, by go_num, by omega, ⟨by have := HLL.out; have := HYL.out; omega, HY.out.2⟩, HR_wa.out.more (by omega), HCW, HV1⟩, by simp [intOf]; omega⟩
    · have hodd := odd_any g (50 + i) 6 wr HRr.out (by omega) (by omega) (by omega)
      go_wp2_with fail
      refine hodd.mono ?_
      clear hodd
      rintro e w3 ⟨bo, rfl, hr3, hc3⟩
      have HR3 := Lib.hid hr3
      have HV1 := Lib.hid (HV.out.chg hc3 (by omega))
      have HCW : Hid (Chg g w2 w3) := HC.out.trans hc3
      have hzw1 := HCW.out.size
      clear hr3 hc3
      cases bo with
      | false =>
        go_wp2_with fail
        refine bodyPost_ret (by simp [results, Tryd.results29, go_sem]; try rfl) rfl ?_
        refine ⟨_, _, xs, ys, rfl, by rw [HN.out]; exact h9, by omega, HY.out.2, (HD'.out.chg HCW.out (by omega)).mono hz1, ?_, HB2.out.trans ((HCW.out.below (by omega)).mono (by omega))⟩
        exact HV1.out.drs.mono (by omega)
      | true =>
        have hgz3 : g < w3.heap.size := by omega
        go_wp2_with fail; ((with_reducible refine (pick_any g (50 + i + 1) 4 _ (HR3.out) (by omega) (by omega)).mono ?_); rintro e wa ⟨v1, rfl, h0v1, h1v1, hr_wa, hc_wa⟩); have hz_wa := hc_wa.size; (try simp only [World.size_alloc, World.size_setCell, World.size_drew] at hz_wa); have HR_wa := Lib.hid hr_wa; have HC_wa := Lib.hid hc_wa; clear hr_wa hc_wa
        have HV2 := Lib.hid (HV1.out.chg HC_wa.out (by omega))
        have HCX : Hid (Chg g w2 wa) := HCW.out.trans HC_wa.out
        have hzw2 := HCX.out.size
        clear HC_wa
        have HL_8 := Lib.hid (Own.lit (k := 1) (c := intC) (B := w2.heap.size) wa 3 #[.int .i64 (v1 - 1)] 1 [(v1 - 1)] (by first | exact Nat.le_refl _ | omega) rfl (by omega) rfl); have HQ_8 := Lib.hid (HL_8.out.reads rfl).1; have HV_8 := Lib.hid (Own.alloc (HV2.out) (.cells #[.int .i64 (v1 - 1)] 3)); have HK_8 := Lib.hid (Own.blk (HV2.out)); go_wp2_with (first | (at_builtin; refine wpList_app_g (k := 1) (c := intC) _ (by rfl) _ _ _ rfl 3 (.int .i64 0) 8 Tryd.underlying26 (by kernel_rfl) rfl (by decide) (by decide) intC_one _ _ _ rfl HV_8.out _ _ _ _ rfl HQ_8.out ?hm ?hlen ?hB ?_; (case hm => (first | rfl | (simp; done) | omega)); (case hlen => (simp only [List.length_cons, List.length_nil]; omega)); (case hB => ((try simp only [World.size_alloc, World.size_drew]); omega)); intro v_8 w_8 hown_8 hg_8 hat_8; have HW_8 : Hid (Below (w2.heap.size) (wa) w_8) := (Below.alloc (Below.refl _ _) (by first | exact Nat.le_refl _ | omega) _).grown hg_8 (by (try simp only [World.size_alloc]); omega) (fun q hq => (HK_8.out q hq).1); have HG_8 := Lib.hid hg_8; have HAT_8 := Lib.hid hat_8; have HO_8 := Lib.hid hown_8; obtain ⟨A_8, c_8, hv_8⟩ := hown_8.slice; simp only [List.length_append, List.length_cons, List.length_nil, Nat.zero_add] at hv_8; subst hv_8; have hz_8 := HG_8.out.size; (try simp only [World.size_alloc] at hz_8); clear hown_8 hg_8 hat_8 HL_8 HQ_8 HV_8))
        have HC5 := Lib.hid ((HCX.out.alloc _).grown HG_8.out (fun q hq => (HK_8.out q hq).1))
        refine bodyPost_ret (by simp [results, Tryd.results29, go_sem]; try rfl) rfl ?_
        refine ⟨_, _, xs, ys ++ [v1 - 1], rfl, by rw [HN.out]; exact h9, ?_, fun y hy => ?_, (HD'.out.chg HC5.out (by omega)).mono hz1, ?_, HB2.out.trans ((HC5.out.below (by omega)).mono (by omega))⟩
        rotate_left 2
        · have hd8 := HO_8.out.drs.mono (B' := w.heap.size) (by omega)
          exact hd8
        · simp; omega
        · rcases List.mem_append.1 hy with hy | hy
          · exact HY.out.2 y hy
          · simp at hy; subst hy; omega
end Go.Proofs.YtecekhjlapaofaaDoor
