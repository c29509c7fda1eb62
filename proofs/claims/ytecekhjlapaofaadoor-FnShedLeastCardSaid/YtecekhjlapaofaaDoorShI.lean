/- impl.indicesOf, over the library's table of trailing zeros. -/
import Derived.Test.YtecekhjlapaofaaDoorShL
import Derived.Lib.LaidTab
namespace Go.Proofs.YtecekhjlapaofaaDoor
open Go.RowKit Go.Deep
set_option linter.unusedSimpArgs false
set_option linter.unusedVariables false
def tabL : List Nat := [0, 1, 56, 2, 57, 49, 28, 3, 61, 58, 42, 50, 38, 29, 17, 4, 62, 47, 59, 36, 45, 43, 51, 22, 53, 39, 33, 30, 24, 18, 12, 5,
  63, 55, 48, 27, 60, 41, 37, 16, 46, 35, 44, 21, 52, 32, 23, 11, 54, 26, 40, 15, 34, 20, 31, 10, 25, 14, 19, 9, 13, 8, 7, 6]
/-- The table's block holds the table. -/
def TabOk (w : World) : Prop := 1 < w.heap.size ∧ ∀ i, i < 64 → w.cell? ⟨1, i, none⟩ = some (.int .u8 ((tabL.getD i 0 : Nat) : Int))
theorem TabOk.below {w w' : World} {B : Nat} (h : TabOk w) (hb : Below B w w') (hB : 1 < B) : TabOk w' :=
  ⟨Nat.lt_of_lt_of_le h.1 hb.size, fun i hi => (hb.cell (p := ⟨1, i, none⟩) hB).trans (h.2 i hi)⟩
theorem TabOk.keep {w w' : World} (h : TabOk w) (hb : Below w.heap.size w w') : TabOk w' := h.below hb h.1
def tzN (r : Nat) : Nat := (setN r).headD 0
def tzI (r : Nat) : Nat := (r &&& (18446744073709551616 - r)) * 285870213051353865 % 18446744073709551616 / 288230376151711744
theorem tz_tab : ∀ r, r < 256 → r = 0 ∨ (tzI r < 64 ∧ tabL.getD (tzI r) 0 = tzN r) := by decide +kernel
theorem set_step : ∀ r, r < 256 → r = 0 ∨ (r &&& (r - 1) < r ∧ setN r = tzN r :: setN (r &&& (r - 1))) := by decide +kernel
theorem setN_zero : setN 0 = [] := by decide +kernel
theorem wrapU (n : Int) : IntKind.u64.wrap n = n % 18446744073709551616 := by simp [IntKind.wrap, IntKind.bits, IntKind.signed]
theorem u64_andN (a b : Nat) (ha : a < 18446744073709551616) (hb : b < 18446744073709551616) : bits .and .u64 (a : Int) (b : Int) = ((a &&& b : Nat) : Int) := by
  show IntKind.u64.wrap ((BitVec.ofInt 64 (a : Int) &&& BitVec.ofInt 64 (b : Int)).toNat : Int) = _
  have f1 : (BitVec.ofInt 64 (a : Int)).toNat = a := by rw [BitVec.ofInt_natCast, BitVec.toNat_ofNat]; exact Nat.mod_eq_of_lt (by omega)
  have f2 : (BitVec.ofInt 64 (b : Int)).toNat = b := by rw [BitVec.ofInt_natCast, BitVec.toNat_ofNat]; exact Nat.mod_eq_of_lt (by omega)
  rw [BitVec.toNat_and, f1, f2, wrapU]
  have : a &&& b ≤ a := Nat.and_le_left
  omega
theorem tz_expr (r : Nat) (h0 : 0 < r) (hr : r < 256) : IntKind.u64.wrap (bits BinOp.and IntKind.u64 ((r : Nat) : Int) (IntKind.u64.wrap (-((r : Nat) : Int))) * 285870213051353865) / 288230376151711744 = ((tzI r : Nat) : Int) := by
  have e1 : IntKind.u64.wrap (-((r : Nat) : Int)) = ((18446744073709551616 - r : Nat) : Int) := by rw [wrapU]; omega
  rw [e1, u64_andN r _ (by omega) (by omega), wrapU]
  unfold tzI
  generalize r &&& (18446744073709551616 - r) = a
  omega
set_option maxRecDepth 100000 in
theorem tz64_any (r : Nat) (hr : r < 256) (h0 : 0 < r) (w : World) (hT : TabOk w) :
    Calls Tryd.prog 77 #[.int .u64 r] w fun e w' => e = .returned (.int .i64 (tzN r)) ∧ w = w' := by
  obtain ⟨hi, ht⟩ := (tz_tab r hr).resolve_left (by omega)
  have hc := hT.2 _ hi
  rw [ht] at hc
  have hne : ((r : Int) == 0) = false := by rw [beq_eq_false_iff_ne]; omega
  have he := tz_expr r h0 hr
  have hi1 : ((tzI r : Nat) : Int) < 64 := by omega
  have hz : tzN r < 9 := by
    clear hc ht hi hi1 he hne hT
    have : ∀ r, r < 256 → tzN r < 9 := by decide +kernel
    exact this r hr
  clear hT ht
  have hc2 : w.cell? ⟨1, (IntKind.u64.wrap (bits BinOp.and IntKind.u64 (r : Int) (IntKind.u64.wrap (-(r : Int))) * 285870213051353865) / 288230376151711744).toNat, none⟩ = some (.int .u8 ((tzN r : Nat) : Int)) := by rw [he, Int.toNat_natCast]; exact hc
  have hi2 : 0 ≤ IntKind.u64.wrap (bits BinOp.and IntKind.u64 (r : Int) (IntKind.u64.wrap (-(r : Int))) * 285870213051353865) / 288230376151711744 ∧ IntKind.u64.wrap (bits BinOp.and IntKind.u64 (r : Int) (IntKind.u64.wrap (-(r : Int))) * 285870213051353865) / 288230376151711744 < 64 := by rw [he]; omega
  clear he hc hi1 hi
  generalize tzN r = z at *
  go_enter Tryd.func77, Tryd.ntmps77
  go_wp2_with fail
  go_ret
  exact ⟨rfl, rfl⟩
theorem tz_any (r : Nat) (hr : r < 256) (h0 : 0 < r) (w : World) (hT : TabOk w) :
    Calls Tryd.prog 59 #[.int .u64 r] w fun e w' => e = .returned (.int .i64 (tzN r)) ∧ w = w' := by
  have H := Lib.hid (tz64_any r hr h0 w hT); clear hT
  go_enter Tryd.func59, Tryd.ntmps59
  go_wp2_with (go_at_call 77; refine H.out.mono ?_; rintro e w' ⟨rfl, rfl⟩)
  go_ret
  exact ⟨rfl, rfl⟩
theorem i64_and (a b : Nat) (ha : a < 9223372036854775808) (hb : b < 9223372036854775808) : bits .and .i64 (a : Int) (b : Int) = ((a &&& b : Nat) : Int) := by
  show IntKind.i64.wrap ((BitVec.ofInt 64 (a : Int) &&& BitVec.ofInt 64 (b : Int)).toNat : Int) = _
  have f1 : (BitVec.ofInt 64 (a : Int)).toNat = a := by rw [BitVec.ofInt_natCast, BitVec.toNat_ofNat]; exact Nat.mod_eq_of_lt (by omega)
  have f2 : (BitVec.ofInt 64 (b : Int)).toNat = b := by rw [BitVec.ofInt_natCast, BitVec.toNat_ofNat]; exact Nat.mod_eq_of_lt (by omega)
  rw [BitVec.toNat_and, f1, f2]
  have : a &&& b ≤ a := Nat.and_le_left
  exact IntWalk.i64_in _ (by omega)
set_option maxRecDepth 100000 in
set_option maxHeartbeats 2000000 in
theorem indicesOf_any (s : Nat) (hs : s < 256) (w : World) (hT : TabOk w) : Calls Tryd.prog 43 #[.int .i64 s] w (RetS 1 intC 3 w (setIdx s)) := by
  have HT := Lib.hid hT; clear hT
  have hg : 1 < w.heap.size := HT.out.1
  go_enter Tryd.func43, Tryd.ntmps43
  go_wp2_with fail
  go_loopw [0, 3] (fun t0 t3 wr => ∃ (r : Nat) (L : List Int), t0 = .int .i64 r ∧ r < 256 ∧ Hid (L ++ setIdx r = setIdx s) ∧ Hid (Own 1 intC 3 wr w.heap.size t3 L) ∧ Hid (Below w.heap.size w wr)) (fun t0 _ _ => (intOf t0).toNat)
  case atStart => exact ⟨s, [], rfl, hs, rfl, Own.nil, Below.refl _ _⟩
  case round =>
    obtain ⟨r, L, rfl, hr, HE, HV, HBr⟩ := hrel
    have hzw := HBr.out.size
    by_cases h0 : r = 0
    · subst h0
      have he := HE.out
      rw [show setIdx 0 = [] from by unfold setIdx; rw [setN_zero]; rfl, List.append_nil] at he
      go_wp2_with fail
      go_ret
      exact ⟨_, rfl, by rw [← he]; exact HV.out.res, HBr.out⟩
    · obtain ⟨hlt, hst⟩ := (set_step r hr).resolve_left h0
      have hne : ((r : Int) != 0) = true := by rw [bne_iff_ne]; omega
      have hE2 : Hid ((L ++ [((tzN r : Nat) : Int)]) ++ setIdx (r &&& (r - 1)) = setIdx s) := by
        unfold Hid
        rw [← HE.out]; unfold setIdx; rw [hst]; simp
      have hll : L.length ≤ 8 := by
        have := congrArg List.length HE.out
        have := setIdx_len s
        simp at *; omega
      have hTr : TabOk wr := HT.out.below HBr.out hg
      have htz := tz_any r hr (by omega) wr hTr
      have HTZ := Lib.hid htz
      have hw1 : IntKind.i64.wrap ((r : Int) - 1) = ((r - 1 : Nat) : Int) := by rw [IntWalk.i64_in _ (by omega)]; omega
      have ha := i64_and r (r - 1) (by omega) (by omega)
      have hcv : IntKind.u64.wrap (r : Int) = (r : Int) := by
        have : ∀ r, r < 256 → IntKind.u64.wrap ((r : Nat) : Int) = ((r : Nat) : Int) := by decide +kernel
        exact this r hr
      clear htz hTr hst
      obtain ⟨vA, vc, hvv⟩ := HV.out.slice
      generalize hlll : L.length = ll at hvv hll
      have HLL := Lib.hid hlll; clear hlll
      have hxl : L.length ≤ 8 := by rw [HLL.out]; exact hll
      subst hvv
      generalize r &&& (r - 1) = r2 at *
      generalize tzN r = z at *
      have hzr := HV.out.blk
      go_wp2_with fail
      refine HTZ.out.mono ?_
      rintro e w2 ⟨rfl, rfl⟩
      have HL_7 := Lib.hid (Own.lit (k := 1) (c := intC) (B := w.heap.size) wr 3 #[.int .i64 z] 1 [((z : Nat) : Int)] (by first | exact Nat.le_refl _ | omega) rfl (by omega) rfl); have HQ_7 := Lib.hid (HL_7.out.reads rfl).1; have HV_7 := Lib.hid (Own.alloc (HV.out) (.cells #[.int .i64 z] 3)); have HK_7 := Lib.hid (Own.blk (HV.out)); go_wp2_with (first | (at_builtin; refine wpList_app_g (k := 1) (c := intC) _ (by rfl) _ _ _ rfl 3 (.int .i64 0) 8 Tryd.underlying26 (by kernel_rfl) rfl (by decide) (by decide) intC_one _ _ _ rfl HV_7.out _ _ _ _ rfl HQ_7.out ?hm ?hlen ?hB ?_; (case hm => (first | rfl | (simp; done) | omega)); (case hlen => (simp only [List.length_cons, List.length_nil]; omega)); (case hB => ((try simp only [World.size_alloc, World.size_drew]); omega)); intro v_7 w_7 hown_7 hg_7 hat_7; have HW_7 : Hid (Below (w.heap.size) (wr) w_7) := (Below.alloc (Below.refl _ _) (by first | exact Nat.le_refl _ | omega) _).grown hg_7 (by (try simp only [World.size_alloc]); omega) (fun q hq => (HK_7.out q hq).1); have HG_7 := Lib.hid hg_7; have HAT_7 := Lib.hid hat_7; have HO_7 := Lib.hid hown_7; obtain ⟨A_7, c_7, hv_7⟩ := hown_7.slice; simp only [List.length_append, List.length_cons, List.length_nil, Nat.zero_add] at hv_7; subst hv_7; have hz_7 := HG_7.out.size; (try simp only [World.size_alloc] at hz_7); clear hown_7 hg_7 hat_7 HL_7 HQ_7 HV_7))
      exact ⟨⟨r2, L ++ [((z : Nat) : Int)], rfl, by omega, hE2, HO_7, HBr.out.trans HW_7.out⟩, by simp [intOf]; omega⟩
end Go.Proofs.YtecekhjlapaofaaDoor
