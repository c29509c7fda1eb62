/- Drawing hours of loads. -/
import Derived.Test.YtcpopbkcphpdfaaDoorDrN
import Derived.Test.YtcpopbkcphpdfaaDoorRmpF
namespace Go.Proofs.YtcpopbkcphpdfaaDoor
open Go.RowKit Go.Deep
set_option linter.unusedSimpArgs false
set_option linter.unusedVariables false

/-- A slice of numbers that reads as zs and lies neither in the block g nor in v's own. -/
def NowOk (w : World) (g : Nat) (v : Value) (A : Option Addr) (zs : List Int) : Prop :=
  zs = [] ∨ ∃ b off, A = some ⟨b, off, none⟩ ∧ b < w.heap.size ∧ b ≠ g ∧ v.ownBlock ≠ some b ∧ ∀ (i : Nat) (x : Int), zs[i]? = some x → ∀ j, j < 1 → w.cell? ⟨b, off + (i * 1 + j), none⟩ = some (intC x j)
theorem NowOk.reads {w : World} {g : Nat} {v : Value} {A : Option Addr} {zs : List Int} (h : NowOk w g v A zs) : Reads 1 intC w w.heap.size A zs := by
  rcases h with h | ⟨b, off, hA, hz, _, _, hc⟩
  · exact .inl h
  · exact .inr ⟨b, off, hA, hz, hc⟩
theorem NowOk.step {w w' : World} {g : Nat} {v v' : Value} {A : Option Addr} {zs : List Int} (h : NowOk w g v A zs) (hz : w.heap.size ≤ w'.heap.size) (hb : ∀ b, b < w.heap.size → b ≠ g → v.ownBlock ≠ some b → w'.heap[b]? = w.heap[b]?) (hv : ∀ b, b < w.heap.size → v.ownBlock ≠ some b → v'.ownBlock ≠ some b) : NowOk w' g v' A zs := by
  rcases h with h | ⟨b, off, hA, hlt, hg, hne, hc⟩
  · exact .inl h
  · exact .inr ⟨b, off, hA, by omega, hg, hv b hlt hne, fun i x hx j hj => (World.cell?_of_block (a := ⟨b, _, none⟩) (hb b hlt hg hne)).trans (hc i x hx j hj)⟩
theorem NowOk.below {w w' : World} {g : Nat} {v : Value} {A : Option Addr} {zs : List Int} (h : NowOk w g v A zs) (hb : Below w.heap.size w w') : NowOk w' g v A zs := h.step hb.size (fun b hlt _ _ => hb.block b hlt) (fun _ _ h => h)
theorem NowOk.chg {w w' : World} {g : Nat} {v : Value} {A : Option Addr} {zs : List Int} (h : NowOk w g v A zs) (hb : Chg g w w') : NowOk w' g v A zs := h.step hb.size (fun b hlt hg _ => hb.block b hlt (fun e => hg (by injection e))) (fun _ _ h => h)
theorem NowOk.push {w w' : World} {g : Nat} {v v' : Value} {A : Option Addr} {zs : List Int} {o : Obj} (h : NowOk w g v A zs) (hg : (w.alloc o).grownBy w' v.ownBlock) (hat : v'.ownBlock = v.ownBlock ∨ v'.ownBlock = some (w.alloc o).heap.size) : NowOk w' g v' A zs := by
  have hz := hg.size
  rw [World.size_alloc] at hz
  refine h.step (by omega) (fun b hlt _ hne => (hg.block b (by rw [World.size_alloc]; omega) (fun e => hne e.symm)).trans (Below.heap_alloc w o b hlt)) (fun b hlt hne => ?_)
  rcases hat with e | e
  · rw [e]; exact hne
  · rw [e, World.size_alloc]; intro e'; injection e' with e'; omega
theorem NowOk.of_res {w : World} {B g : Nat} {v : Value} {T : TypeId} {A : Option Addr} {n cp : Nat} {zs : List Int} (h : Res 1 intC T w B (.slice A n cp) zs) (hg : g < B) (hv : ∀ q, v.ownBlock = some q → q < B) : NowOk w g v A zs := by
  obtain ⟨A', c', e, h⟩ := h
  injection e with e1 e2 e3
  subst e1
  rcases h with h | ⟨b, m, f, hA, hB, hr, hm, hf⟩
  · exact .inl h
  · refine .inr ⟨b, 0, hA, hr.lt, by omega, fun e => by have := hv b e; omega, fun i x hx j hj => ?_⟩
    have hi : i < zs.length := (List.getElem?_eq_some_iff.1 hx).1
    rw [Nat.zero_add, hr.cell (Nat.lt_of_lt_of_le (idx_lt hi hj) hm), hf i x hx j hj]
theorem NowOk.of_drs {w : World} {B g : Nat} {v : Value} {A : Option Addr} {n cp : Nat} {zs : List Int} (h : DrS 1 intC w B (.slice A n cp) zs) (hg : g < B) (hv : ∀ q, v.ownBlock = some q → w.heap.size ≤ q) : NowOk w g v A zs := by
  obtain ⟨A', c', e, _, _, h⟩ := h
  injection e with e1 e2 e3
  subst e1
  rcases h with h | ⟨b, off, hA, hB, hz, hc⟩
  · exact .inl h
  · exact .inr ⟨b, off, hA, hz, by omega, fun e => by have := hv b e; omega, hc⟩

/-- Units, ramps, outputs and loads. -/
def DrawnMH (w : World) (e : Ending) (w' : World) : Prop :=
  ∃ (A1 A2 A3 A4 : Option Addr) (c1 c2 c3 c4 : Nat) (us : List R4) (rs ys ls : List Int), e = .returned (.tuple #[.slice A1 us.length c1, .slice A2 rs.length c2, .slice A3 ys.length c3, .slice A4 ls.length c4]) ∧ 1 ≤ us.length ∧ us.length ≤ 7 ∧ rs.length = us.length ∧ ys.length ≤ 7 ∧ (∀ y ∈ ys, -10 ≤ y ∧ y ≤ 200) ∧ ls.length ≤ 13 ∧ (∀ y ∈ ls, -100 ≤ y ∧ y ≤ 20000) ∧
    DrS 4 r4C w' w.heap.size (.slice A1 us.length c1) us ∧ DrS 1 intC w' w.heap.size (.slice A2 rs.length c2) rs ∧ DrS 1 intC w' w.heap.size (.slice A3 ys.length c3) ys ∧ DrS 1 intC w' w.heap.size (.slice A4 ls.length c4) ls ∧ Below w.heap.size w w'
set_option maxRecDepth 100000 in
set_option maxHeartbeats 8000000 in
theorem drawRampRun_any (A : Option Addr) (c : Nat) (bs : List Int) (w : World) (hR : Reads 1 byteC w w.heap.size A bs) (hb : ∀ x ∈ bs, U8 x) (hl : bs.length ≤ 1048576) (hc : bs.length ≤ c) (hcm : c ≤ 9223372036854775807) :
    Calls Tryd.prog 49 #[.slice A bs.length c] w (DrawnMH w) := by
  have HR := Lib.hid hR; clear hR
  have HB := Lib.hid hb; clear hb
  go_enter Tryd.func49, Tryd.ntmps49
  go_wp2_with fail; ((with_reducible refine (l20Open_any A c bs _ HR.out HB.out hl hc hcm).mono ?_); rintro e w1 ⟨g, rfl, hg, hr1, hb_1⟩); have hz_1 := hb_1.size; (try simp only [World.size_alloc, World.size_setCell, World.size_drew] at hz_1)
  have hgz := hr1.lt
  have HR1 := Lib.hid hr1; have HB1 := Lib.hid hb_1; clear hr1 hb_1
  have hz1 := HB1.out.size
  go_wp2_with fail
  refine (l20Ramped_any g 0 9 _ HR1.out (by omega) (by omega) (by omega)).mono ?_
  rintro e w2 ⟨A1, A2, A3, c1, c2, c3, us, rs, ys, rfl, hu1, hu7, hus, hrl, hrs, hy7, hys, hd1, hd2, hd3, hr2, hc2⟩
  have HP := Lib.hid (And.intro hrl hys); have HD := Lib.hid (And.intro hd1 (And.intro hd2 hd3)); have HC := Lib.hid hc2; have HR2 := Lib.hid hr2
  have hz2 := hc2.size
  clear hus hrl hrs hys hd1 hd2 hd3 hr2 hc2
  have hul : us.length ≤ 1048576 := by omega
  have hrl1 : rs.length ≤ 1048576 := by rw [HP.out.1]; exact hul
  have hgz2 : g < w2.heap.size := by omega
  go_wp2_with fail; ((with_reducible refine (pick_any g (0 + 100) 8 _ (HR2.out.alloc _) (by omega) (by omega)).mono ?_); rintro e w3 ⟨k0, rfl, h0k0, h1k0, hr_w3, hc_w3⟩); have hz_w3 := hc_w3.size; (try simp only [World.size_alloc, World.size_setCell, World.size_drew] at hz_w3); have HR_w3 := Lib.hid hr_w3; have HC_w3 := Lib.hid hc_w3; clear hr_w3 hc_w3
  have HOW : Hid (Own 1 intC 3 w3 w2.heap.size (.slice (some ⟨w2.heap.size, 0, none⟩) 0 0) []) := (Own.lit (k := 1) (c := intC) (B := w2.heap.size) w2 3 #[] 0 [] (Nat.le_refl _) rfl (by omega) rfl).chg HC_w3.out hgz2
  have HC0 : Hid (Chg g w2 w3) := ((Chg.refl g w2).alloc _).trans HC_w3.out
  have HNW : Hid (NowOk w3 g (.slice (some ⟨w2.heap.size, 0, none⟩) 0 0) A3 ys) := ((NowOk.of_drs (v := .slice (some ⟨w2.heap.size, 0, none⟩) 0 0) HD.out.2.2 hgz (fun q hq => by injection hq with hq; subst hq; exact Nat.le_refl _)).below (Below.alloc (Below.refl _ _) (Nat.le_refl _) _)).chg HC_w3.out
  go_wp2_with fail
  go_loopw [10, 11, 12] (fun t u k wr => ∃ (q : Int) (ls zs : List Int) (vA nA : Option Addr) (vc nc : Nat), k = .int .i64 q ∧ 0 ≤ q ∧ q ≤ 7 ∧ t = .slice vA ls.length vc ∧ u = .slice nA zs.length nc ∧ zs.length ≤ 7 ∧ (ls.length : Int) + q ≤ 7 ∧ Hid (∀ y ∈ ls, -100 ≤ y ∧ y ≤ 20000) ∧ Hid (NowOk wr g (.slice vA ls.length vc) nA zs) ∧ Hid (RdOk 94 wr g (150 - 2 * q)) ∧ Hid (Chg g w2 wr) ∧ Hid (Own 1 intC 3 wr w2.heap.size (.slice vA ls.length vc) ls)) (fun _ _ k _ => (intOf k).toNat)
  case atStart => exact ⟨k0, [], ys, _, _, _, _, rfl, h0k0, by omega, rfl, rfl, hy7, by simp; omega, (by unfold Hid; simp), HNW, HR_w3.out.more (by omega), HC0, HOW⟩
  case round =>
    obtain ⟨q, ls, zs, vA, nA, vc, nc, rfl, hq0, hq1, rfl, rfl, hz7, hlq, HLS, HNW2, HRr, HCr, HOr⟩ := hrel
    clear HNW HC0 HOW HR_w3
    have hzw := HCr.out.size
    have hgzr : g < wr.heap.size := by omega
    by_cases hk : 0 < q
    · have HD1 := Lib.hid (HD.out.1.chg HCr.out hgz); have HD2 := Lib.hid (HD.out.2.1.chg HCr.out hgz)
      have hzl : zs.length ≤ 1048576 := by omega
      go_wp2_with fail
      with_reducible refine (specRampRange_any A1 A2 nA c1 c2 nc us rs zs wr HD1.out.reads.1 HD2.out.reads.1 HNW2.out.reads hul hrl1 hzl).mono ?_
      rintro e w4 ⟨rfl, hb4⟩
      have HB4 := Lib.hid hb4
      have hz4 := hb4.size
      clear hb4
      have hgz4 : g < w4.heap.size := by omega
      have hbd := rng_bd us rs zs
      generalize rngLo (rampOut us rs zs) = lo at hbd ⊢
      generalize rngHi (rampOut us rs zs) = hi at hbd ⊢
      obtain ⟨l0, l1, h0, h1⟩ := hbd
      obtain ⟨mx, hite⟩ : ∃ mx, (if hi - lo < 0 then 0 else hi - lo) = mx := ⟨_, rfl⟩
      have hmx0 : 0 ≤ mx := by rw [← hite]; split <;> omega
      have hmx1 : mx ≤ 6000 := by rw [← hite]; split <;> omega
      have HPK : Hid (Calls Tryd.prog 74 #[.pointer (some ⟨g, 0, none⟩), .int .i64 (mx + 1)] w4 (PickP 94 g (150 - 2 * q) (mx + 1) w4)) := pick_any g (150 - 2 * q) (mx + 1) w4 (HRr.out.below HB4.out) (by omega) (by omega)
      have hcase : (hi - lo < 0 ∧ mx = 0) ∨ (¬ (hi - lo < 0) ∧ mx = hi - lo) := by
        rw [← hite]; by_cases h : hi - lo < 0
        · exact .inl ⟨h, by rw [if_pos h]⟩
        · exact .inr ⟨h, by rw [if_neg h]⟩
      rcases hcase with ⟨hq2, hm⟩ | ⟨hq2, hm⟩
      all_goals
        have hmx2 : mx + 1 ≤ 6001 := by omega
        first | rw [show mx + 1 = 1 from by omega] at HPK hmx2 | rw [show mx + 1 = hi - lo + 1 from by omega] at HPK hmx2
        clear hite
        go_wp2_with fail
        with_reducible refine HPK.out.mono ?_
        rintro e w5 ⟨v1, rfl, h10, h11, hr5, hc5⟩
        have HR5 := Lib.hid hr5; have HC5 := Lib.hid hc5
        have hz5 := hc5.size
        clear hr5 hc5
        have hv1 : v1 ≤ 6001 := by omega
        have hLI : I64 (lo + v1) := by unfold I64; omega
        have HC45 : Hid (Chg g wr w5) := (Chg.of_below HB4.out).trans HC5.out
        have HD1' := Lib.hid (HD1.out.chg HC45.out hgz); have HD2' := Lib.hid (HD2.out.chg HC45.out hgz)
        have HNW3 := Lib.hid (HNW2.out.chg HC45.out)
        have HO5 := Lib.hid (HOr.out.chg HC45.out hgz2)
        have HNX := Lib.hid (specRampNext_any A1 A2 nA c1 c2 nc us rs zs (lo + v1) hLI w5 HD1'.out.reads.1 HD2'.out.reads.1 HNW3.out.reads hul hrl1 hzl)
        have hnl := rampN_len us rs zs (lo + v1)
        clear hm hq2
        go_wp2_with fail
        with_reducible refine HNX.out.mono ?_
        rintro e w6 ⟨v6, rfl, hr6, hb6⟩
        have HS6 := Lib.hid hr6
        obtain ⟨A6, c6, rfl, _⟩ := hr6
        generalize (rampN us rs zs (lo + v1)).getD [] = qs at HS6 hnl ⊢
        generalize (rampN us rs zs (lo + v1)).isSome = ok
        have HB6 := Lib.hid hb6
        have hz6 := hb6.size
        clear hb6 HNX
        have hgz6 : g < w6.heap.size := by omega
        have HO6 := Lib.hid (HO5.out.keep HB6.out)
        have HR6 := Lib.hid (HR5.out.below HB6.out)
        have HC6 : Hid (Chg g w2 w6) := (HCr.out.trans HC45.out).trans (Chg.of_below HB6.out)
        have hblk := HO5.out.blk
        have HNA : Hid (NowOk w6 g (.slice vA ls.length vc) A6 qs) := NowOk.of_res HS6.out (by omega) (fun q hq => (hblk q hq).2)
        have HNB : Hid (NowOk w6 g (.slice vA ls.length vc) nA zs) := HNW3.out.below HB6.out
        clear hblk HS6
        cases ok with
        | true =>
          go_wp2_with fail; ((with_reducible refine (pick_any g (150 - 2 * q + 1) 9 _ (HR6.out) (by omega) (by omega)).mono ?_); rintro e w7 ⟨v2, rfl, h0v2, h1v2, hr_w7, hc_w7⟩); have hz_w7 := hc_w7.size; (try simp only [World.size_alloc, World.size_setCell, World.size_drew] at hz_w7); have HR_w7 := Lib.hid hr_w7; have HC_w7 := Lib.hid hc_w7; clear hr_w7 hc_w7
          have hv2 : v2.tdiv 8 = 0 ∨ v2.tdiv 8 = 1 := by rw [Int.tdiv_eq_ediv_of_nonneg h0v2]; omega
          obtain ⟨q2, hq2e⟩ : ∃ q2, v2.tdiv 8 = q2 := ⟨_, rfl⟩
          rw [hq2e] at hv2
          have HO7 := Lib.hid (HO6.out.chg HC_w7.out hgz2)
          have HC7 : Hid (Chg g w2 w7) := HC6.out.trans HC_w7.out
          have hzz7 := HC7.out.size
          have HN7 := Lib.hid (HNA.out.chg HC_w7.out)
          have HL_8 := Lib.hid (Own.lit (k := 1) (c := intC) (B := w2.heap.size) w7 3 #[.int .i64 (lo + v1 + q2 * 5)] 1 [lo + v1 + q2 * 5] (by first | exact Nat.le_refl _ | omega) rfl (by omega) rfl); have HQ_8 := Lib.hid (HL_8.out.reads rfl).1; have HV_8 := Lib.hid (Own.alloc (HO7.out) (.cells #[.int .i64 (lo + v1 + q2 * 5)] 3)); have HK_8 := Lib.hid (Own.blk (HO7.out)); go_wp2_with (first | (at_builtin; refine wpList_app_g (k := 1) (c := intC) _ (by rfl) _ _ _ rfl 3 (.int .i64 0) 8 Tryd.underlying30 (by kernel_rfl) rfl (by decide) (by decide) intC_one _ _ _ rfl HV_8.out _ _ _ _ rfl HQ_8.out ?hm ?hlen ?hB ?_; (case hm => (first | rfl | (simp; done) | omega)); (case hlen => (simp only [List.length_cons, List.length_nil]; omega)); (case hB => ((try simp only [World.size_alloc, World.size_drew]); omega)); intro v_8 w_8 hown_8 hg_8 hat_8; have HW_8 : Hid (Below (w2.heap.size) (w7) w_8) := (Below.alloc (Below.refl _ _) (by first | exact Nat.le_refl _ | omega) _).grown hg_8 (by (try simp only [World.size_alloc]); omega) (fun q hq => (HK_8.out q hq).1); have HG_8 := Lib.hid hg_8; have HAT_8 := Lib.hid hat_8; have HO_8 := Lib.hid hown_8; obtain ⟨A_8, c_8, hv_8⟩ := hown_8.slice; simp only [List.length_append, List.length_cons, List.length_nil, Nat.zero_add] at hv_8; subst hv_8; have hz_8 := HG_8.out.size; (try simp only [World.size_alloc] at hz_8); clear hown_8 hg_8 hat_8 HL_8 HQ_8 HV_8))
          refine ⟨⟨q - 1, ls ++ [lo + v1 + q2 * 5], qs, A_8, A6, c_8, c6, by go_num, by omega, by omega, by simp, rfl, by omega, by simp; omega, ?_, ?_, ?_, ?_, ?_⟩, by simp [intOf]; omega⟩
          · intro y hy
            rcases List.mem_append.1 hy with hy | hy
            · exact HLS.out y hy
            · simp at hy; subst hy; omega
          · have := HN7.out.push HG_8.out HAT_8.out
            unfold Hid; rw [List.length_append]; exact this
          · exact ((HR_w7.out.alloc (.cells #[.int .i64 (lo + v1 + q2 * 5)] 3)).grown HG_8.out (fun q hq => by have := (HK_8.out q hq).1; omega)).more (by omega)
          · exact (HC7.out.alloc _).grown HG_8.out (fun q hq => (HK_8.out q hq).1)
          · have := HO_8.out
            unfold Hid; rw [List.length_append]; exact this
        | false =>
          go_wp2_with fail; ((with_reducible refine (pick_any g (150 - 2 * q + 1) 9 _ (HR6.out) (by omega) (by omega)).mono ?_); rintro e w7 ⟨v2, rfl, h0v2, h1v2, hr_w7, hc_w7⟩); have hz_w7 := hc_w7.size; (try simp only [World.size_alloc, World.size_setCell, World.size_drew] at hz_w7); have HR_w7 := Lib.hid hr_w7; have HC_w7 := Lib.hid hc_w7; clear hr_w7 hc_w7
          have hv2 : v2.tdiv 8 = 0 ∨ v2.tdiv 8 = 1 := by rw [Int.tdiv_eq_ediv_of_nonneg h0v2]; omega
          obtain ⟨q2, hq2e⟩ : ∃ q2, v2.tdiv 8 = q2 := ⟨_, rfl⟩
          rw [hq2e] at hv2
          have HO7 := Lib.hid (HO6.out.chg HC_w7.out hgz2)
          have HC7 : Hid (Chg g w2 w7) := HC6.out.trans HC_w7.out
          have hzz7 := HC7.out.size
          have HN7 := Lib.hid (HNB.out.chg HC_w7.out)
          have HL_8 := Lib.hid (Own.lit (k := 1) (c := intC) (B := w2.heap.size) w7 3 #[.int .i64 (lo + v1 + q2 * 5)] 1 [lo + v1 + q2 * 5] (by first | exact Nat.le_refl _ | omega) rfl (by omega) rfl); have HQ_8 := Lib.hid (HL_8.out.reads rfl).1; have HV_8 := Lib.hid (Own.alloc (HO7.out) (.cells #[.int .i64 (lo + v1 + q2 * 5)] 3)); have HK_8 := Lib.hid (Own.blk (HO7.out)); go_wp2_with (first | (at_builtin; refine wpList_app_g (k := 1) (c := intC) _ (by rfl) _ _ _ rfl 3 (.int .i64 0) 8 Tryd.underlying30 (by kernel_rfl) rfl (by decide) (by decide) intC_one _ _ _ rfl HV_8.out _ _ _ _ rfl HQ_8.out ?hm ?hlen ?hB ?_; (case hm => (first | rfl | (simp; done) | omega)); (case hlen => (simp only [List.length_cons, List.length_nil]; omega)); (case hB => ((try simp only [World.size_alloc, World.size_drew]); omega)); intro v_8 w_8 hown_8 hg_8 hat_8; have HW_8 : Hid (Below (w2.heap.size) (w7) w_8) := (Below.alloc (Below.refl _ _) (by first | exact Nat.le_refl _ | omega) _).grown hg_8 (by (try simp only [World.size_alloc]); omega) (fun q hq => (HK_8.out q hq).1); have HG_8 := Lib.hid hg_8; have HAT_8 := Lib.hid hat_8; have HO_8 := Lib.hid hown_8; obtain ⟨A_8, c_8, hv_8⟩ := hown_8.slice; simp only [List.length_append, List.length_cons, List.length_nil, Nat.zero_add] at hv_8; subst hv_8; have hz_8 := HG_8.out.size; (try simp only [World.size_alloc] at hz_8); clear hown_8 hg_8 hat_8 HL_8 HQ_8 HV_8))
          refine ⟨⟨q - 1, ls ++ [lo + v1 + q2 * 5], zs, A_8, nA, c_8, nc, by go_num, by omega, by omega, by simp, rfl, by omega, by simp; omega, ?_, ?_, ?_, ?_, ?_⟩, by simp [intOf]; omega⟩
          · intro y hy
            rcases List.mem_append.1 hy with hy | hy
            · exact HLS.out y hy
            · simp at hy; subst hy; omega
          · have := HN7.out.push HG_8.out HAT_8.out
            unfold Hid; rw [List.length_append]; exact this
          · exact ((HR_w7.out.alloc (.cells #[.int .i64 (lo + v1 + q2 * 5)] 3)).grown HG_8.out (fun q hq => by have := (HK_8.out q hq).1; omega)).more (by omega)
          · exact (HC7.out.alloc _).grown HG_8.out (fun q hq => (HK_8.out q hq).1)
          · have := HO_8.out
            unfold Hid; rw [List.length_append]; exact this
    · have hodd := odd_any g (150 - 2 * q) 20 wr HRr.out (by omega) (by omega) (by omega)
      have hmk := fun W => run_mk (P := Tryd.prog) 30 3 (.int .i64 0) 1 8 13 Tryd.underlying30 (by kernel_rfl) (by omega) (by omega) W
      have HMK := Lib.hid hmk; clear hmk
      go_wp2_with fail
      refine hodd.mono ?_
      clear hodd
      rintro e w4 ⟨bo, rfl, hr4, hc4⟩
      have HV1 := Lib.hid (HOr.out.chg hc4 hgz2)
      have HCW : Hid (Chg g w2 w4) := HCr.out.trans hc4
      have hzw4 := HCW.out.size
      clear hr4 hc4
      cases bo with
      | false =>
        go_wp2_with fail
        refine bodyPost_ret (by simp [results, Tryd.results49, go_sem]; try rfl) rfl ?_
        exact ⟨_, _, _, _, _, _, _, _, us, rs, ys, ls, rfl, hu1, hu7, HP.out.1, hy7, HP.out.2, by omega, HLS.out, (HD.out.1.chg HCW.out hgz).mono hz1, (HD.out.2.1.chg HCW.out hgz).mono hz1, (HD.out.2.2.chg HCW.out hgz).mono hz1, HV1.out.drs.mono (by omega), HB1.out.trans (((HC.out.trans HCW.out).below (Nat.le_of_lt hgz)).mono hg)⟩
      | true =>
        have hmk := HMK.out
        have HRow := Lib.hid (World.rowIs_made w4 (.int .i64 0) 13 3)
        simp only [Nat.mul_one] at hmk
        have hmk2 : ∃ mc, (∀ W : World, (Instr.makeSlice 30 (.int .i64 13) (.int .i64 13)).run Tryd.prog W = .ok (.slice (some ⟨W.heap.size, 0, none⟩) 13 13) (W.alloc (.cells mc 3))) ∧ Hid (World.rowIs (w4.alloc (.cells mc 3)) w4.heap.size 3 13 (fun _ => .int .i64 0)) := ⟨_, hmk, HRow⟩
        obtain ⟨mc, hmk3, HRow2⟩ := hmk2
        clear hmk HRow HMK
        go_wp2_with fail
        refine bodyPost_ret (by simp [results, Tryd.results49, go_sem]; try rfl) rfl ?_
        have hcx := HCW.out.alloc (.cells mc 3)
        refine ⟨_, _, _, _, _, _, _, 13, us, rs, ys, List.replicate 13 0, by rw [List.length_replicate], hu1, hu7, HP.out.1, hy7, HP.out.2, by simp, fun y hy => by have := (List.mem_replicate.1 hy).2; omega, (HD.out.1.chg hcx hgz).mono hz1, (HD.out.2.1.chg hcx hgz).mono hz1, (HD.out.2.2.chg hcx hgz).mono hz1, ?_, HB1.out.trans (((HC.out.trans hcx).below (Nat.le_of_lt hgz)).mono hg)⟩
        refine ⟨some ⟨w4.heap.size, 0, none⟩, 13, rfl, by simp, by omega, .inr ⟨w4.heap.size, 0, rfl, by omega, by simp, fun i x hx j hj => ?_⟩⟩
        have hxx := (List.mem_replicate.1 (List.mem_of_getElem? hx)).2
        have hi : i < 13 := by have := (List.getElem?_eq_some_iff.1 hx).1; simpa using this
        subst hxx
        obtain rfl : j = 0 := by omega
        rw [Nat.mul_one, Nat.zero_add, Nat.add_zero]
        exact HRow2.out.cell hi
end Go.Proofs.YtcpopbkcphpdfaaDoor
