/- The law FnZoneLoad: plain law and walk. -/
import Derived.Test.YtdfgdeccejcpfaaDoorDrZl
import Derived.Test.YtdfgdeccejcpfaaDoorSpG
import Derived.Test.YtdfgdeccejcpfaaDoorZl
import Derived.Test.YtdfgdeccejcpfaaDoorZdP
import Derived.Test.YtdfgdeccejcpfaaDoorAlive
import Derived.Test.YtdfgdeccejcpfaaDoorHas
import Derived.Deep.RegionHeld3
namespace Go.Proofs.YtdfgdeccejcpfaaDoor
open Go.RowKit Go.Deep
set_option linter.unusedSimpArgs false
set_option linter.unusedVariables false

/-- The buses that a zone does not hold; and all. -/
def restZ (zs : List Int) (n : Nat) : List Int := idxL (fun k => !decide ((k : Int) ∈ zs)) n
def allZ (n : Nat) : List Int := idxL (fun _ => true) n
theorem restZ_succ (zs : List Int) (n : Nat) : restZ zs (n + 1) = restZ zs n ++ (if (n : Int) ∈ zs then [] else [(n : Int)]) := by
  show idxL _ n ++ (if (!decide ((n : Int) ∈ zs)) = true then [(n : Int)] else []) = _
  by_cases h : (n : Int) ∈ zs <;> simp [h, restZ]
theorem allZ_succ (n : Nat) : allZ (n + 1) = allZ n ++ [(n : Int)] := by
  show idxL _ n ++ (if true = true then [(n : Int)] else []) = _
  simp [allZ]
theorem restZ_len (zs : List Int) (n : Nat) : (restZ zs n).length ≤ n := idxL_len _ _
@[simp] theorem allZ_len (n : Nat) : (allZ n).length = n := by
  induction n with
  | zero => rfl
  | succ n ih => rw [allZ_succ, List.length_append, ih]; rfl
theorem zl_law {nb : Nat} {ls : List R3} {on : List Bool} {bs : List R2} {zs : List Int} (h : ¬ zlV (nb : Int) ls on bs zs < 0) :
    (0 ≤ zlV (nb : Int) ls on bs zs ∧ zlV (nb : Int) ls on bs zs ≤ 7992) ∧ (0 ≤ zlV (nb : Int) ls on bs (restZ zs nb) ∧ zlV (nb : Int) ls on bs (restZ zs nb) ≤ 7992) ∧ zlV (nb : Int) ls on bs zs + zlV (nb : Int) ls on bs (restZ zs nb) = zlV (nb : Int) ls on bs (allZ nb) := by
  have hr : RadP (nb : Int) ls on bs ∧ ZoneP (nb : Int) zs := Classical.byContradiction fun q => h (by rw [zlV_f q]; omega)
  have hlen : bs.length = nb := by have := hr.1.1.2.1; omega
  have e1 := zlV_t hr
  have e2 := zlV_t (zs := restZ zs nb) ⟨hr.1, idxL_zone _ _⟩
  have e3 := zlV_t (zs := allZ nb) ⟨hr.1, idxL_zone _ _⟩
  have b1 := zsum_nonneg hr.1.1 (fun i => (i : Int) ∈ zs)
  have b2 := zsum_nonneg hr.1.1 (fun i => (i : Int) ∈ restZ zs nb)
  rw [← e1] at b1
  rw [← e2] at b2
  refine ⟨b1, b2, ?_⟩
  rw [e1, e2, e3]
  unfold zsum
  rw [← sumN_add]
  refine sumN_congr fun i hi => ?_
  have hrest : (i : Int) ∈ restZ zs nb ↔ ¬ (i : Int) ∈ zs := by
    unfold restZ
    rw [idxL_mem]
    constructor
    · rintro ⟨k, h1, h2, h3⟩
      have : i = k := by omega
      subst this
      simpa using h3
    · intro hh; exact ⟨i, rfl, by omega, by simpa using hh⟩
  have hall : (i : Int) ∈ allZ nb := idxL_mem.2 ⟨i, rfl, by omega, rfl⟩
  show loadAt bs i * f01 ((i : Int) ∈ zs ∧ aliveP ls on bs i) + loadAt bs i * f01 ((i : Int) ∈ restZ zs nb ∧ aliveP ls on bs i) = loadAt bs i * f01 ((i : Int) ∈ allZ nb ∧ aliveP ls on bs i)
  by_cases ha : aliveP ls on bs i
  · by_cases hz : (i : Int) ∈ zs
    · rw [f01_t ⟨hz, ha⟩, f01_f (fun q => (hrest.1 q.1) hz), f01_t ⟨hall, ha⟩]; omega
    · rw [f01_f (fun q => hz q.1), f01_t ⟨hrest.2 hz, ha⟩, f01_t ⟨hall, ha⟩]; omega
  · rw [f01_f (fun q => ha q.2), f01_f (fun q => ha q.2), f01_f (fun q => ha q.2)]; omega

set_option maxRecDepth 100000 in
set_option maxHeartbeats 8000000 in
theorem fnZoneLoad_any (A : Option Addr) (n c : Nat) (bs : List Int) (w : World) (hn : bs.length = n) (hb : ∀ x ∈ bs, U8 x) (hc : n ≤ c) (hcm : c ≤ maxLen) (hR : Reads 1 byteC w w.heap.size A bs) :
    Calls Tryd.prog 5 #[.slice A n c] w fun e w' => e = .returned (.bool true) ∧ Below w.heap.size w w' := by
  unfold maxLen at hcm
  subst hn
  have HR := Lib.hid hR; clear hR
  have HB := Lib.hid hb; clear hb
  have HB_w : Hid (Below w.heap.size w w) := Below.refl _ _
  have hbb : ∀ x : Bool, (x != x) = false := fun x => by simp
  have hnn : ∀ x : Int, (x != x) = false := fun x => by simp
  by_cases hl : ¬ bs.length ≤ 1048576
  · have hl' : (1048576 : Int) < bs.length := by omega
    go_enter Tryd.func5, Tryd.ntmps5
    go_wp2_with fail
    go_ret
    exact ⟨rfl, Below.refl _ _⟩
  have hl : bs.length ≤ 1048576 := by omega
  have hl' : ¬ (1048576 : Int) < bs.length := by omega
  go_enter Tryd.func5, Tryd.ntmps5
  go_wp2_with fail
  with_reducible refine (drawZoneLoad_any A c bs w HR.out HB.out hl hc hcm).mono ?_
  rintro e w1 ⟨nb, A1, A2, A3, A4, c1, c2, c3, c4, ls, on, bs2, zs, rfl, hn7, hl1, hl2, hl3, hz5, hd1, hd2, hd3, hd4, hb1⟩
  have HN_wa : Hid (NetAt (w1.alloc (.cells #[.int .i64 (nb : Int), .slice A1 ls.length c1] 25)) w1.heap.size (nb : Int) (.slice A1 ls.length c1)) := Bk.new _ _ _
  have HB_wa : Hid (Below w.heap.size w (w1.alloc (.cells #[.int .i64 (nb : Int), .slice A1 ls.length c1] 25))) := hb1.alloc hb1.size _
  have HD_wa := Lib.hid (hd1.allocZ (.cells #[.int .i64 (nb : Int), .slice A1 ls.length c1] 25))
  have HE_wa := Lib.hid (hd2.allocZ (.cells #[.int .i64 (nb : Int), .slice A1 ls.length c1] 25))
  have HF_wa := Lib.hid (hd3.allocZ (.cells #[.int .i64 (nb : Int), .slice A1 ls.length c1] 25))
  have HG_wa := Lib.hid (hd4.allocZ (.cells #[.int .i64 (nb : Int), .slice A1 ls.length c1] 25))
  clear hd1 hd2 hd3 hd4 hb1 HR HB
  go_upto_region 4 with fail
  generalize w1.alloc (.cells #[.int .i64 (nb : Int), .slice A1 ls.length c1] 25) = wa at HN_wa HB_wa HD_wa HE_wa HF_wa HG_wa ⊢
  generalize w1.heap.size = g3 at HN_wa ⊢
  have hm1 : ls.length ≤ 1048576 := by omega
  have hm2 : on.length ≤ 1048576 := by omega
  have hm3 : bs2.length ≤ 1048576 := by omega
  have hm4 : zs.length ≤ 1048576 := by omega
  have s0 := HN_wa.out.c0
  have s1 := HN_wa.out.c1
  go_wp2_with fail; ((with_reducible refine (implZoneLoad_any (nb : Int) A1 A2 A3 A4 c1 c2 c3 c4 ls on bs2 zs wa HD_wa.out.reads.1 HE_wa.out.reads.1 HF_wa.out.reads.1 HG_wa.out.reads.1 hm1 hm2 hm3 hm4).mono ?_); rintro e w2 ⟨rfl, hb_w2⟩); have HB_w2 : Hid (Below w.heap.size w w2) := HB_wa.out.trans (hb_w2.mono HB_wa.out.size); have HN_w2 := Lib.hid (HN_wa.out.below hb_w2); have HD_w2 := Lib.hid (HD_wa.out.below hb_w2); have HE_w2 := Lib.hid (HE_wa.out.below hb_w2); have HF_w2 := Lib.hid (HF_wa.out.below hb_w2); have HG_w2 := Lib.hid (HG_wa.out.below hb_w2); clear hb_w2
  clear s0 s1
  have s0 := HN_w2.out.c0
  have s1 := HN_w2.out.c1
  go_wp2_with fail; ((with_reducible refine (specZoneLoad_any (nb : Int) A1 A2 A3 A4 c1 c2 c3 c4 ls on bs2 zs w2 HD_w2.out.reads.1 HE_w2.out.reads.1 HF_w2.out.reads.1 HG_w2.out.reads.1 hm1 hm2 hm3 hm4).mono ?_); rintro e w3 ⟨rfl, hb_w3⟩); have HB_w3 : Hid (Below w.heap.size w w3) := HB_w2.out.trans (hb_w3.mono HB_w2.out.size); have HN_w3 := Lib.hid (HN_w2.out.below hb_w3); have HD_w3 := Lib.hid (HD_w2.out.below hb_w3); have HE_w3 := Lib.hid (HE_w2.out.below hb_w3); have HF_w3 := Lib.hid (HF_w2.out.below hb_w3); have HG_w3 := Lib.hid (HG_w2.out.below hb_w3); clear hb_w3
  clear s0 s1
  by_cases hneg : zlV (nb : Int) ls on bs2 zs < 0
  · have e : zlV (nb : Int) ls on bs2 zs = -1 := by have := (zlV_bd (nb : Int) ls on bs2 zs).1; omega
    rw [e]
    clear hneg e
    go_wp2_with fail; ((with_reducible refine (alive_any w3).mono ?_); rintro e w4 ⟨rfl, hb_w4⟩); have HB_w4 : Hid (Below w.heap.size w w4) := HB_w3.out.trans (hb_w4.mono HB_w3.out.size); clear hb_w4
    go_wp2_with fail
    go_ret
    exact ⟨rfl, HB_w4.out⟩
  · obtain ⟨⟨hZ0, hZ1⟩, ⟨hR0, hR1⟩, hsum⟩ := zl_law hneg
    have HCL : Hid (∀ (W : World) (A4 : Option Addr) (c4 n4 : Nat) (zs : List Int) (v : Int), zlV (nb : Int) ls on bs2 zs = v → zs.length = n4 → n4 ≤ 100 → Reads 3 r3C W W.heap.size A1 ls → Reads 1 boolC W W.heap.size A2 on → Reads 2 r2C W W.heap.size A3 bs2 → Reads 1 intC W W.heap.size A4 zs → Calls Tryd.prog 20 #[.agg #[.int .i64 (nb : Int), .slice A1 ls.length c1], .slice A2 on.length c2, .slice A3 bs2.length c3, .slice A4 n4 c4] W fun e w' => e = .returned (.int .i64 v) ∧ Below W.heap.size W w') := by
      intro W A4 c4 n4 zs v h1 h2 h3 h4 h5 h6 h7
      subst h1 h2
      exact implZoneLoad_any (nb : Int) A1 A2 A3 A4 c1 c2 c3 c4 ls on bs2 zs W h4 h5 h6 h7 hm1 hm2 hm3 (by omega)
    clear hneg
    generalize zlV (nb : Int) ls on bs2 zs = Z at *
    obtain ⟨R, hRR⟩ : ∃ R, zlV (nb : Int) ls on bs2 (restZ zs nb) = R := ⟨_, rfl⟩
    obtain ⟨T, hTT⟩ : ∃ T, zlV (nb : Int) ls on bs2 (allZ nb) = T := ⟨_, rfl⟩
    rw [hRR] at hR0 hR1 hsum
    rw [hTT] at hsum
    have HRT := Lib.hid (And.intro hRR hTT); clear hRR hTT
    have HSUM := Lib.hid hsum; clear hsum
    have HZN : Hid (zs.length ≤ 30) := hz5
    have HO1 : Hid (Own 1 intC 3 ((w3.alloc (.cells #[] 3)).alloc (.cells #[] 3)) w3.heap.size (.slice (some ⟨w3.heap.size, 0, none⟩) 0 0) (allZ 0)) := by
      unfold Hid
      exact (Own.lit (k := 1) (c := intC) (B := w3.heap.size) w3 3 #[] 0 [] (Nat.le_refl _) rfl (by omega) rfl).alloc _
    have HO2 : Hid (Own 1 intC 3 ((w3.alloc (.cells #[] 3)).alloc (.cells #[] 3)) w3.heap.size (.slice (some ⟨w3.heap.size + 1, 0, none⟩) 0 0) (restZ zs 0)) := by
      unfold Hid
      have h := Own.lit (k := 1) (c := intC) (B := w3.heap.size) (w3.alloc (.cells #[] 3)) 3 #[] 0 [] (by simp) rfl (by omega) rfl
      show Own 1 intC 3 _ _ _ []
      simpa using h
    have HB0 : Hid (Below w3.heap.size w3 ((w3.alloc (.cells #[] 3)).alloc (.cells #[] 3))) := by unfold Hid; (repeat' (first | (with_reducible exact Below.refl _ _) | (with_reducible refine Below.alloc ?_ ?_ _) | (with_reducible refine Below.setCell ?_ ?_ _) | (with_reducible refine Below.drew ?_) | (refine Below.trans ?_ (Below.mono (by with_reducible assumption) ?_)) | go_size))
    have HNE : Hid (Apart (.slice (some ⟨w3.heap.size, 0, none⟩) 0 0) (.slice (some ⟨w3.heap.size + 1, 0, none⟩) 0 0)) := by
      intro b h1 h2
      injection h1 with h1; injection h2 with h2
      simp at h1 h2
      omega
    go_wp2_with fail
    go_loopw [8, 9, 10] (fun t8 t9 t10 wr => ∃ i : Nat, t10 = .int .i64 i ∧ i ≤ nb ∧ Hid (Own 1 intC 3 wr w3.heap.size t8 (allZ i)) ∧ Hid (Own 1 intC 3 wr w3.heap.size t9 (restZ zs i)) ∧ Hid (Apart t8 t9) ∧ Hid (Below w3.heap.size w3 wr)) (fun _ _ t10 _ => nb - (intOf t10).toNat)
    case atStart => exact ⟨0, rfl, Nat.zero_le _, HO1, HO2, HNE, HB0⟩
    case round =>
      obtain ⟨i, rfl, hi, HA, HRs, HNE2, HBr⟩ := hrel
      clear HO1 HO2 HNE HB0
      have hzr := HBr.out.size
      have HNr := Lib.hid (HN_w3.out.below HBr.out)
      have s0 := HNr.out.c0
      have s1 := HNr.out.c1
      obtain ⟨aA, ac, hav⟩ := HA.out.slice
      obtain ⟨rA, rc, hrv⟩ := HRs.out.slice
      have HRL := Lib.hid (restZ_len zs i)
      generalize hq1 : (restZ zs i).length = lr at hrv
      have HLR := Lib.hid hq1; clear hq1
      rw [allZ_len] at hav
      subst hrv hav
      by_cases hlt : i < nb
      · have hi1 : (i : Int) < (nb : Int) := by omega
        have hal : (allZ i).length ≤ 9 := by rw [allZ_len]; omega
        have HL_7 := Lib.hid (Own.lit (k := 1) (c := intC) (B := w3.heap.size) wr 3 #[.int .i64 i] 1 [(i : Int)] (by first | exact Nat.le_refl _ | omega) rfl (by omega) rfl); have HQ_7 := Lib.hid (HL_7.out.reads rfl).1; have HV_7 := Lib.hid (Own.alloc (HA.out) (.cells #[.int .i64 i] 3)); have HK_7 := Lib.hid (Own.blk (HA.out)); go_wp2_with (first | (at_builtin; refine wpList_app_g (k := 1) (c := intC) _ (by rfl) _ _ _ rfl 3 (.int .i64 0) 8 Tryd.underlying28 (by kernel_rfl) rfl (by decide) (by decide) intC_one _ _ _ rfl HV_7.out _ _ _ _ rfl HQ_7.out ?hm ?hlen ?hB ?_; (case hm => (first | rfl | (simp; done) | omega)); (case hlen => (simp only [List.length_cons, List.length_nil]; omega)); (case hB => ((try simp only [World.size_alloc, World.size_drew]); omega)); intro v_7 w_7 hown_7 hg_7 hat_7; have HW_7 : Hid (Below (w3.heap.size) (wr) w_7) := (Below.alloc (Below.refl _ _) (by first | exact Nat.le_refl _ | omega) _).grown hg_7 (by (try simp only [World.size_alloc]); omega) (fun q hq => (HK_7.out q hq).1); have HG_7 := Lib.hid hg_7; have HAT_7 := Lib.hid hat_7; have HO_7 := Lib.hid hown_7; obtain ⟨A_7, c_7, hv_7⟩ := hown_7.slice; simp only [List.length_append, List.length_cons, List.length_nil, Nat.zero_add] at hv_7; subst hv_7; have hz_7 := HG_7.out.size; (try simp only [World.size_alloc] at hz_7); clear hown_7 hg_7 hat_7 HL_7 HQ_7 HV_7))
        have HBx : Hid (Below w3.heap.size w3 w_7) := HBr.out.trans HW_7.out
        have HRx : Hid (Own 1 intC 3 w_7 w3.heap.size (.slice rA lr rc) (restZ zs i)) := HRs.out.apart HNE2.out HG_7.out
        have HNx0 : Hid (Apart (.slice A_7 ((allZ i).length + 1) c_7) (.slice rA lr rc)) := Apart.grown HRs.out HNE2.out HAT_7.out
        have HAx : Hid (Own 1 intC 3 w_7 w3.heap.size (.slice A_7 ((allZ i).length + 1) c_7) (allZ (i + 1))) := by
          unfold Hid; rw [allZ_succ]; exact HO_7.out
        rw [allZ_len] at HAx HNx0
        have HEx := Lib.hid ((HG_w3.out.below HBx.out).reads.1)
        have hz7 := HBx.out.size
        clear s0 s1
        with_reducible refine (hasIntZ_any A4 zs.length c4 zs i w_7 rfl HEx.out hm4).mono ?_
        rintro e w4 ⟨rfl, rfl⟩
        by_cases hin : (i : Int) ∈ zs
        · have hdc : decide ((i : Int) ∈ zs) = true := decide_eq_true hin
          have HRy : Hid (Own 1 intC 3 w_7 w3.heap.size (.slice rA lr rc) (restZ zs (i + 1))) := by
            unfold Hid; rw [restZ_succ, if_pos hin, List.append_nil]; exact HRx.out
          rw [hdc]
          clear hin hdc
          go_wp2_with fail
          exact ⟨⟨i + 1, by go_num, by omega, HAx, HRy, HNx0, HBx⟩, by simp [intOf]; omega⟩
        · have hdc : decide ((i : Int) ∈ zs) = false := decide_eq_false hin
          rw [hdc]
          have hrl2 : (restZ zs i).length ≤ 9 := by have := HRL.out; omega
          have HIN := Lib.hid hin
          clear hin hdc
          have HL_8 := Lib.hid (Own.lit (k := 1) (c := intC) (B := w3.heap.size) w_7 3 #[.int .i64 i] 1 [(i : Int)] (by first | exact Nat.le_refl _ | omega) rfl (by omega) rfl); have HQ_8 := Lib.hid (HL_8.out.reads rfl).1; have HV_8 := Lib.hid (Own.alloc (HRx.out) (.cells #[.int .i64 i] 3)); have HK_8 := Lib.hid (Own.blk (HRx.out)); go_wp2_with (first | (at_builtin; refine wpList_app_g (k := 1) (c := intC) _ (by rfl) _ _ _ rfl 3 (.int .i64 0) 8 Tryd.underlying28 (by kernel_rfl) rfl (by decide) (by decide) intC_one _ _ _ rfl HV_8.out _ _ _ _ rfl HQ_8.out ?hm ?hlen ?hB ?_; (case hm => (first | rfl | (simp; done) | omega)); (case hlen => (simp only [List.length_cons, List.length_nil]; omega)); (case hB => ((try simp only [World.size_alloc, World.size_drew]); omega)); intro v_8 w_8 hown_8 hg_8 hat_8; have HW_8 : Hid (Below (w3.heap.size) (w_7) w_8) := (Below.alloc (Below.refl _ _) (by first | exact Nat.le_refl _ | omega) _).grown hg_8 (by (try simp only [World.size_alloc]); omega) (fun q hq => (HK_8.out q hq).1); have HG_8 := Lib.hid hg_8; have HAT_8 := Lib.hid hat_8; have HO_8 := Lib.hid hown_8; obtain ⟨A_8, c_8, hv_8⟩ := hown_8.slice; simp only [List.length_append, List.length_cons, List.length_nil, Nat.zero_add] at hv_8; subst hv_8; have hz_8 := HG_8.out.size; (try simp only [World.size_alloc] at hz_8); clear hown_8 hg_8 hat_8 HL_8 HQ_8 HV_8))
          have HBy : Hid (Below w3.heap.size w3 w_8) := HBx.out.trans HW_8.out
          have HRy : Hid (Own 1 intC 3 w_8 w3.heap.size (.slice A_8 ((restZ zs i).length + 1) c_8) (restZ zs (i + 1))) := by
            unfold Hid; rw [restZ_succ, if_neg HIN.out]; exact HO_8.out
          have HAy : Hid (Own 1 intC 3 w_8 w3.heap.size (.slice A_7 (i + 1) c_7) (allZ (i + 1))) := HAx.out.apart HNx0.out.symm HG_8.out
          have HNy : Hid (Apart (.slice A_7 (i + 1) c_7) (.slice A_8 ((restZ zs i).length + 1) c_8)) := (Apart.grown HAx.out HNx0.out.symm HAT_8.out).symm
          exact ⟨⟨i + 1, by go_num, by omega, HAy, HRy, HNy, HBy⟩, by simp [intOf]; omega⟩
      · obtain rfl : i = nb := by omega
        have hlr : lr ≤ 100 := by have := HRL.out; have := HLR.out; omega
        have H1d : Hid (DrS 3 r3C wr.drew w.heap.size (.slice A1 ls.length c1) ls) := HD_w3.out.below HBr.out.drew
        have H2d : Hid (DrS 1 boolC wr.drew w.heap.size (.slice A2 on.length c2) on) := HE_w3.out.below HBr.out.drew
        have H3d : Hid (DrS 2 r2C wr.drew w.heap.size (.slice A3 bs2.length c3) bs2) := HF_w3.out.below HBr.out.drew
        have HRd : Hid (Own 1 intC 3 wr.drew w3.heap.size (.slice rA lr rc) (restZ zs i)) := HRs.out.drew
        have HAd : Hid (Own 1 intC 3 wr.drew w3.heap.size (.slice aA i ac) (allZ i)) := HA.out.drew
        have HNd : Hid (NetAt wr.drew g3 (i : Int) (.slice A1 ls.length c1)) := HNr.out
        have HBd : Hid (Below w3.heap.size w3 wr.drew) := HBr.out.drew
        have zN := HNr.out.lt
        have hsum := HSUM.out
        have hw : IntKind.i64.wrap (Z + R) = T := by rw [IntWalk.i64_in _ (by omega)]; exact hsum
        have hTT : (T == T) = true := by simp
        clear hsum
        go_wp2_with fail
        go_region_held3 (fun w' => w'.cell? ⟨g3, 0, none⟩ = some (.int .i64 (i : Int)) ∧ w'.cell? ⟨g3, 1, none⟩ = some (.slice A1 ls.length c1)) (simp [go_sem, *])
          (first | (go_at_call 20; (with_reducible refine (HCL.out _ rA rc lr (restZ zs i) R HRT.out.1 HLR.out hlr (by with_reducible exact H1d.out.reads.1) (by with_reducible exact H2d.out.reads.1) (by with_reducible exact H3d.out.reads.1) (by with_reducible exact (HRd.out.reads rfl).1)).mono ?_); rintro e w5 ⟨rfl, hb5⟩; have H15 := Lib.hid (H1d.out.below hb5); have H25 := Lib.hid (H2d.out.below hb5); have H35 := Lib.hid (H3d.out.below hb5); have HA5 := Lib.hid (HAd.out.keep hb5); have HN5 := Lib.hid (HNd.out.below hb5); have HB5 : Hid (Below w3.heap.size w3 w5) := HBd.out.trans (hb5.mono HBd.out.size); have q0 := HN5.out.c0; have q1 := HN5.out.c1; clear hb5)
                 | (go_at_call 20; (with_reducible refine (HCL.out _ aA ac i (allZ i) T HRT.out.2 (allZ_len i) (by omega) (by with_reducible exact H15.out.reads.1) (by with_reducible exact H25.out.reads.1) (by with_reducible exact H35.out.reads.1) (by with_reducible exact (HA5.out.reads rfl).1)).mono ?_); rintro e w6 ⟨rfl, hb6⟩; have HN6 := Lib.hid (HN5.out.below hb6); have HB6 : Hid (Below w3.heap.size w3 w6) := HB5.out.trans (hb6.mono HB5.out.size); have r0 := HN6.out.c0; have r1 := HN6.out.c1; clear hb6))
        go_wp2_with fail
        go_ret
        exact ⟨rfl, HB_w3.out.trans (HB6.out.mono HB_w3.out.size)⟩
end Go.Proofs.YtdfgdeccejcpfaaDoor
