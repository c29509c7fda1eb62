/- The law FnCommit: its walk. -/
import Derived.Test.YtcpopbkcphpdfaaDoorDrR
import Derived.Test.YtcpopbkcphpdfaaDoorCmtI
import Derived.Test.YtcpopbkcphpdfaaDoorCmtS
import Derived.Test.YtcpopbkcphpdfaaDoorLwS
import Derived.Test.YtcpopbkcphpdfaaDoorAlive
namespace Go.Proofs.YtcpopbkcphpdfaaDoor
open Go.RowKit Go.Deep
set_option linter.unusedSimpArgs false
set_option linter.unusedVariables false

/-- Nothing that meets the load with enough to spare is better. -/
theorem bestF_min (xs : List R4) (L sp : Int) : ∀ s t, t < s → 0 ≤ comS xs L t → sp ≤ sprS xs L t → ∃ b : Nat, bestF xs L sp s = (b : Int) ∧ ¬ comS xs L t < comS xs L b ∧ ¬ (comS xs L t = comS xs L b ∧ popN t < popN b) := by
  intro s
  induction s with
  | zero => intro t h; omega
  | succ s ih =>
    intro t ht h1 h2
    rcases bestF_bd xs L sp s with hm | ⟨b, hb, hbl, hb1, hb2⟩
    · by_cases e : t = s
      · subst e
        exact ⟨t, bestF_first ⟨h1, h2⟩ hm, by omega, by omega⟩
      · obtain ⟨b, hb, _⟩ := ih t (by omega) h1 h2
        rw [hm] at hb; omega
    · by_cases hf : 0 ≤ comS xs L s ∧ sp ≤ sprS xs L s
      · by_cases hn : comS xs L s < comS xs L b ∨ (comS xs L s = comS xs L b ∧ popN s < popN b)
        · refine ⟨s, bestF_new hf hb hn, ?_⟩
          by_cases e : t = s
          · subst e; omega
          · obtain ⟨b', hb', h3, h4⟩ := ih t (by omega) h1 h2
            rw [hb] at hb'
            obtain rfl : b = b' := by omega
            omega
        · refine ⟨b, bestF_old hb hn, ?_⟩
          by_cases e : t = s
          · subst e; exact ⟨fun h => hn (.inl h), fun h => hn (.inr h)⟩
          · obtain ⟨b', hb', h3, h4⟩ := ih t (by omega) h1 h2
            rw [hb] at hb'
            obtain rfl : b = b' := by omega
            exact ⟨h3, h4⟩
      · have e : t ≠ s := fun e => hf (e ▸ ⟨h1, h2⟩)
        obtain ⟨b', hb', h3, h4⟩ := ih t (by omega) h1 h2
        rw [hb] at hb'
        obtain rfl : b = b' := by omega
        exact ⟨b, by rw [bestF_off hf]; exact hb, h3, h4⟩

theorem implStateOf_any (s n : Nat) (hn : n ≤ 6) (hs : s < 2 ^ n) (w : World) :
    Calls Tryd.prog 56 #[.int .i64 s, .int .i64 n] w (RetP 1 boolC 4 w (bitsL s n) true) := by
  have hpw := pow_bd hn
  generalize hNN : 2 ^ n = NN at hpw hs
  have hNI : (2 : Int) ^ n = (NN : Int) := by rw [← hNN]; push_cast; rfl
  obtain ⟨hp1, hp2⟩ := hpw
  have h1 : ¬ ((n : Int) < 0) := by omega
  have h2 : ¬ ((10 : Int) < n) := by omega
  have h3 : ¬ ((s : Int) < 0) := by omega
  have h4 : ¬ ((NN : Int) ≤ (s : Int)) := by omega
  have HS := Lib.hid (stateOf_any s n (by omega) (by omega) w)
  go_enter Tryd.func56, Tryd.ntmps56
  go_wp2_with fail
  refine HS.out.mono ?_
  rintro e w' ⟨g, c, rfl, hr, hb⟩
  have HR := Lib.hid hr; have HB := Lib.hid hb; clear hr hb
  go_wp2_with fail
  refine bodyPost_ret (by simp [results, Tryd.results56, go_sem]; try rfl) rfl ?_
  exact ⟨_, rfl, HR.out, HB.out⟩

set_option maxRecDepth 100000 in
set_option maxHeartbeats 8000000 in
theorem fnCommit_any (A : Option Addr) (n c : Nat) (bs : List Int) (w : World) (hn : bs.length = n) (hb : ∀ x ∈ bs, U8 x) (hc : n ≤ c) (hcm : c ≤ maxLen) (hR : Reads 1 byteC w w.heap.size A bs) :
    Calls Tryd.prog 14 #[.slice A n c] w fun e w' => e = .returned (.bool true) ∧ Below w.heap.size w w' := by
  unfold maxLen at hcm
  subst hn
  have HR := Lib.hid hR; clear hR
  have HB := Lib.hid hb; clear hb
  have HB_w : Hid (Below w.heap.size w w) := Below.refl _ _
  have hbb : ∀ x : Bool, (x != x) = false := fun x => by simp
  have hnn : ∀ x : Int, (x != x) = false := fun x => by simp
  by_cases hl : ¬ bs.length ≤ 1048576
  · have hl' : (1048576 : Int) < bs.length := by omega
    go_enter Tryd.func14, Tryd.ntmps14
    go_wp2_with fail
    go_ret
    exact ⟨rfl, Below.refl _ _⟩
  have hl : bs.length ≤ 1048576 := by omega
  have hl' : ¬ (1048576 : Int) < bs.length := by omega
  go_enter Tryd.func14, Tryd.ntmps14
  go_wp2_with fail; ((with_reducible refine (drawCommit_any A c bs w HR.out HB.out hl hc hcm).mono ?_); rintro e w1 ⟨A1, c1, xs, L, sp, rfl, h7, hs, hL0, hL1, hs0, hs1, hd, hb_w1⟩); have HB_w1 : Hid (Below w.heap.size w w1) := HB_w.out.trans (hb_w1.mono HB_w.out.size); clear hb_w1
  have HD_w1 := Lib.hid hd; clear hd hs
  have hxl : xs.length ≤ 1048576 := by omega
  have hI : I64 L := by unfold I64; omega
  go_wp2_with fail; ((with_reducible refine (implCommit_any A1 c1 xs L sp hI w1 HD_w1.out.reads.1 hxl).mono ?_); rintro e w2 ⟨v2, rfl, hr2, hb_w2⟩); have HB_w2 : Hid (Below w.heap.size w w2) := HB_w1.out.trans (hb_w2.mono HB_w1.out.size); have HD_w2 := Lib.hid (HD_w1.out.below hb_w2); clear hb_w2
  have HE_w2 := Lib.hid hr2
  obtain ⟨A2, c2, rfl, _⟩ := hr2
  go_wp2_with fail; ((with_reducible refine (specCommit_any A1 c1 xs L sp hI w2 HD_w2.out.reads.1 hxl).mono ?_); rintro e w3 ⟨v3, rfl, hr3, hb_w3⟩); have HB_w3 : Hid (Below w.heap.size w w3) := HB_w2.out.trans (hb_w3.mono HB_w2.out.size); have HD_w3 := Lib.hid (HD_w2.out.below hb_w3); have HE_w3 := Lib.hid (HE_w2.out.below hb_w3); clear hb_w3
  have HF_w3 := Lib.hid hr3
  obtain ⟨A3, c3, rfl, _⟩ := hr3
  have hyl := cmtO_len xs L sp
  generalize hys : (cmtO xs L sp).getD [] = ys at HE_w3 HF_w3 hyl ⊢
  generalize hok : (cmtO xs L sp).isSome = ok
  have HYS := Lib.hid (And.intro hys hok); clear hys hok
  have hyl' : ys.length ≤ 1048576 := by omega
  go_wp2_with fail; ((with_reducible refine (sameBools_any A2 A3 c2 c3 ys w3 HE_w3.out.reads.1 HF_w3.out.reads.1 hyl').mono ?_); rintro e w4 ⟨rfl, hb_w4⟩); have HB_w4 : Hid (Below w.heap.size w w4) := HB_w3.out.trans (hb_w4.mono HB_w3.out.size); have HD_w4 := Lib.hid (HD_w3.out.below hb_w4); have HE_w4 := Lib.hid (HE_w3.out.below hb_w4); clear hb_w4
  by_cases hv : unisV xs = true
  · by_cases hsp : 0 ≤ sp
    · have hsp' : ¬ sp < 0 := by omega
      have h6 := (unisV_t.1 hv).1
      have hpw := pow_bd h6
      have HMIN := Lib.hid (bestF_min xs L sp (2 ^ xs.length))
      have HBD := Lib.hid (bestF_bd xs L sp (2 ^ xs.length))
      have HST : Hid (∀ (s : Nat) (W : World), s < 2 ^ xs.length → Calls Tryd.prog 56 #[.int .i64 s, .int .i64 xs.length] W (RetP 1 boolC 4 W (bitsL s xs.length) true)) := fun s W h => implStateOf_any s xs.length h6 h W
      have HCM : Hid (∀ (s : Nat) (W : World) (Aa : Option Addr) (cc : Nat), Reads 4 r4C W W.heap.size A1 xs → Reads 1 boolC W W.heap.size Aa (bitsL s xs.length) → Calls Tryd.prog 42 #[.slice A1 xs.length c1, .slice Aa xs.length cc, .int .i64 L] W fun e w' => e = .returned (.int .i64 (comS xs L s)) ∧ Below W.heap.size W w') := by
        intro s W Aa cc h1 h2
        have := implCommitCost_any A1 Aa c1 cc xs (bitsL s xs.length) L hI W h1 h2 hxl (by rw [bitsL_len]; exact hxl)
        rw [bitsL_len] at this
        exact this
      have HSP : Hid (∀ (s : Nat) (W : World) (Aa : Option Addr) (cc : Nat), Reads 4 r4C W W.heap.size A1 xs → Reads 1 boolC W W.heap.size Aa (bitsL s xs.length) → Calls Tryd.prog 45 #[.slice A1 xs.length c1, .slice Aa xs.length cc, .int .i64 L] W fun e w' => e = .returned (.int .i64 (sprS xs L s)) ∧ Below W.heap.size W w') := by
        intro s W Aa cc h1 h2
        have := implSpareOf_any A1 Aa c1 cc xs (bitsL s xs.length) L hI W h1 h2 hxl (by rw [bitsL_len]; exact hxl)
        rw [bitsL_len] at this
        exact this
      have HCT : Hid (∀ (s : Nat) (W : World) (Aa : Option Addr) (cc : Nat), s < 2 ^ xs.length → Reads 1 boolC W W.heap.size Aa (bitsL s xs.length) → Calls Tryd.prog 57 #[.slice Aa xs.length cc] W fun e w' => e = .returned (.int .i64 (popN s)) ∧ Below W.heap.size W w') := by
        intro s W Aa cc hs h2
        have := count_any Aa cc (bitsL s xs.length) W h2 (by rw [bitsL_len]; exact hxl)
        rw [bits_pop xs.length (by omega) s hs, bitsL_len] at this
        exact this
      have HCC : Hid (∀ s : Nat, comS xs L s = -1 ∨ 0 ≤ comS xs L s) := fun s => by
        rcases comC_cases xs (bitsL s xs.length) L with h | ⟨_, _, _, _, h, _⟩
        · exact .inl h
        · exact .inr h
      generalize hNN : 2 ^ xs.length = NN at hpw HMIN HBD HST HCT
      have hNI : (2 : Int) ^ xs.length = (NN : Int) := by rw [← hNN]; push_cast; rfl
      obtain ⟨hp1, hp2⟩ := hpw
      have HNN := Lib.hid hNN; clear hNN
      go_wp2_with fail; ((with_reducible refine (specUnitsValid_any A1 c1 xs w4 HD_w4.out.reads.1 hxl).mono ?_); rintro e w5 ⟨rfl, hb_w5⟩); have HB_w5 : Hid (Below w.heap.size w w5) := HB_w4.out.trans (hb_w5.mono HB_w4.out.size); have HD_w5 := Lib.hid (HD_w4.out.below hb_w5); have HE_w5 := Lib.hid (HE_w4.out.below hb_w5); clear hb_w5
      rcases HBD.out with hm | ⟨b, hb, hbl, hb1, hb2⟩
      · have hno : cmtO xs L sp = none := cmtO_none (by rw [HNN.out]; exact hm)
        have hyy := HYS.out
        rw [hno] at hyy
        obtain ⟨hy1, hy2⟩ := hyy
        have hy1 : ys = [] := hy1.symm
        have hy2 : ok = false := hy2.symm
        subst hy1 hy2
        have HNO : Hid (∀ t, t < NN → 0 ≤ comS xs L t → sprS xs L t < sp) := fun t h1 h2 => by
          rcases Int.lt_or_le (sprS xs L t) sp with h | h
          · exact h
          · obtain ⟨b, hb, _⟩ := HMIN.out t h1 h2 h
            rw [hm] at hb; omega
        clear hm hno
        have HKC : Hid (Calls Tryd.prog 42 #[.slice A1 xs.length c1, .slice A2 0 c2, .int .i64 L] w5 fun e w' => e = .returned (.int .i64 (comC xs [] L)) ∧ Below w5.heap.size w5 w') := implCommitCost_any A1 A2 c1 c2 xs [] L hI w5 HD_w5.out.reads.1 HE_w5.out.reads.1 hxl (by simp)
        go_wp2_with fail; ((with_reducible refine (HKC.out).mono ?_); rintro e w6 ⟨rfl, hb_w6⟩); have HB_w6 : Hid (Below w.heap.size w w6) := HB_w5.out.trans (hb_w6.mono HB_w5.out.size); have HD_w6 := Lib.hid (HD_w5.out.below hb_w6); have HE_w6 := Lib.hid (HE_w5.out.below hb_w6); clear hb_w6
        generalize comC xs [] L = K
        go_wp2_with fail
        go_loopw [11] (fun u wr => ∃ (s : Nat), u = .int .i64 s ∧ s ≤ NN ∧ Hid (Below w.heap.size w wr) ∧ Hid (DrS 4 r4C wr w.heap.size (.slice A1 xs.length c1) xs)) (fun u _ => NN - (intOf u).toNat)
        case atStart => exact ⟨0, rfl, Nat.zero_le _, HB_w6, HD_w6⟩
        case round =>
          obtain ⟨s, rfl, hs, HB_wr, HD_wr⟩ := hrel
          by_cases hlt : s < NN
          · go_wp2_with fail; ((with_reducible refine (HST.out s wr hlt).mono ?_); rintro e w7 ⟨v7, rfl, hr7, hb_w7⟩); have HB_w7 : Hid (Below w.heap.size w w7) := HB_wr.out.trans (hb_w7.mono HB_wr.out.size); have HD_w7 := Lib.hid (HD_wr.out.below hb_w7); clear hb_w7
            have HG_w7 := Lib.hid hr7
            obtain ⟨A7, c7, rfl, _⟩ := hr7
            rw [bitsL_len]
            rw [bitsL_len] at HG_w7
            go_wp2_with fail; ((with_reducible refine (HCM.out s w7 A7 c7 HD_w7.out.reads.1 HG_w7.out.reads.1).mono ?_); rintro e w8 ⟨rfl, hb_w8⟩); have HB_w8 : Hid (Below w.heap.size w w8) := HB_w7.out.trans (hb_w8.mono HB_w7.out.size); have HD_w8 := Lib.hid (HD_w7.out.below hb_w8); have HG_w8 := Lib.hid (HG_w7.out.below hb_w8); clear hb_w8
            rcases HCC.out s with hco | hco
            · rw [hco]
              go_wp2_with fail
              exact ⟨⟨s + 1, by go_num, by omega, HB_w8, HD_w8⟩, by simp [intOf]; omega⟩
            · have hnn := HNO.out s hlt hco
              have HSS := Lib.hid (HSP.out s w8 A7 c7 HD_w8.out.reads.1 HG_w8.out.reads.1)
              generalize comS xs L s = K2 at hco ⊢
              generalize sprS xs L s = K3 at hnn HSS
              go_wp2_with fail; ((with_reducible refine (HSS.out).mono ?_); rintro e w9 ⟨rfl, hb_w9⟩); have HB_w9 : Hid (Below w.heap.size w w9) := HB_w8.out.trans (hb_w9.mono HB_w8.out.size); have HD_w9 := Lib.hid (HD_w8.out.below hb_w9); clear hb_w9
              go_wp2_with fail
              exact ⟨⟨s + 1, by go_num, by omega, HB_w9, HD_w9⟩, by simp [intOf]; omega⟩
          · go_wp2_with fail
            go_ret
            exact ⟨rfl, HB_wr.out⟩
      · have hso : cmtO xs L sp = some (bitsL b xs.length) := cmtO_some ⟨hv, hsp⟩ (by rw [HNN.out]; exact hb)
        have hyy := HYS.out
        rw [hso] at hyy
        obtain ⟨hy1, hy2⟩ := hyy
        have hy1 : ys = bitsL b xs.length := hy1.symm
        have hy2 : ok = true := hy2.symm
        subst hy1 hy2
        have HNO : Hid (∀ t, t < NN → 0 ≤ comS xs L t → sp ≤ sprS xs L t → ¬ comS xs L t < comS xs L b ∧ ¬ (comS xs L t = comS xs L b ∧ popN t < popN b)) := fun t h1 h2 h3 => by
          obtain ⟨b', hb', h4⟩ := HMIN.out t h1 h2 h3
          rw [hb] at hb'
          obtain rfl : b = b' := by omega
          exact ⟨by have := h4.1; omega, h4.2⟩
        clear hb hso
        rw [bitsL_len] at HE_w5
        rw [bitsL_len]
        have hpb := pop_le b
        go_wp2_with fail; ((with_reducible refine (HCM.out b w5 A2 c2 HD_w5.out.reads.1 HE_w5.out.reads.1).mono ?_); rintro e w6 ⟨rfl, hb_w6⟩); have HB_w6 : Hid (Below w.heap.size w w6) := HB_w5.out.trans (hb_w6.mono HB_w5.out.size); have HD_w6 := Lib.hid (HD_w5.out.below hb_w6); have HE_w6 := Lib.hid (HE_w5.out.below hb_w6); clear hb_w6
        have HSB : Hid (∀ W, Reads 4 r4C W W.heap.size A1 xs → Reads 1 boolC W W.heap.size A2 (bitsL b xs.length) → Calls Tryd.prog 45 #[.slice A1 xs.length c1, .slice A2 xs.length c2, .int .i64 L] W fun e w' => e = .returned (.int .i64 (sprS xs L b)) ∧ Below W.heap.size W w') := fun W h1 h2 => HSP.out b W A2 c2 h1 h2
        generalize comS xs L b = K at hb1 HNO ⊢
        generalize sprS xs L b = KS at hb2 HSB
        go_wp2_with fail
        go_loopw [11] (fun u wr => ∃ (s : Nat), u = .int .i64 s ∧ s ≤ NN ∧ Hid (Below w.heap.size w wr) ∧ Hid (DrS 4 r4C wr w.heap.size (.slice A1 xs.length c1) xs) ∧ Hid (Res 1 boolC 4 wr w1.heap.size (.slice A2 xs.length c2) (bitsL b xs.length))) (fun u _ => NN - (intOf u).toNat)
        case atStart => exact ⟨0, rfl, Nat.zero_le _, HB_w6, HD_w6, HE_w6⟩
        case round =>
          obtain ⟨s, rfl, hs, HB_wr, HD_wr, HE_wr⟩ := hrel
          by_cases hlt : s < NN
          · go_wp2_with fail; ((with_reducible refine (HST.out s wr hlt).mono ?_); rintro e w7 ⟨v7, rfl, hr7, hb_w7⟩); have HB_w7 : Hid (Below w.heap.size w w7) := HB_wr.out.trans (hb_w7.mono HB_wr.out.size); have HD_w7 := Lib.hid (HD_wr.out.below hb_w7); have HE_w7 := Lib.hid (HE_wr.out.below hb_w7); clear hb_w7
            have HG_w7 := Lib.hid hr7
            obtain ⟨A7, c7, rfl, _⟩ := hr7
            rw [bitsL_len]
            rw [bitsL_len] at HG_w7
            go_wp2_with fail; ((with_reducible refine (HCM.out s w7 A7 c7 HD_w7.out.reads.1 HG_w7.out.reads.1).mono ?_); rintro e w8 ⟨rfl, hb_w8⟩); have HB_w8 : Hid (Below w.heap.size w w8) := HB_w7.out.trans (hb_w8.mono HB_w7.out.size); have HD_w8 := Lib.hid (HD_w7.out.below hb_w8); have HE_w8 := Lib.hid (HE_w7.out.below hb_w8); have HG_w8 := Lib.hid (HG_w7.out.below hb_w8); clear hb_w8
            rcases HCC.out s with hco | hco
            · rw [hco]
              go_wp2_with fail
              exact ⟨⟨s + 1, by go_num, by omega, HB_w8, HD_w8, HE_w8⟩, by simp [intOf]; omega⟩
            · have HNS := Lib.hid (HNO.out s hlt hco)
              have HSS := Lib.hid (HSP.out s w8 A7 c7 HD_w8.out.reads.1 HG_w8.out.reads.1)
              generalize comS xs L s = K2 at hco HNS ⊢
              generalize sprS xs L s = K3 at HNS HSS
              by_cases h3 : sp ≤ K3
              · have hmin := HNS.out h3
                obtain ⟨hm1, hm2⟩ := hmin
                by_cases he : K2 = K
                · have hq : (K2 == K) = true := by simp [he]
                  have hpp : ¬ popN s < popN b := fun h => hm2 ⟨he, h⟩
                  have hps := pop_le s
                  clear he hm2
                  have HC1 : Hid (∀ W, Reads 1 boolC W W.heap.size A7 (bitsL s xs.length) → Calls Tryd.prog 57 #[.slice A7 xs.length c7] W fun e w' => e = .returned (.int .i64 (popN s)) ∧ Below W.heap.size W w') := fun W h => HCT.out s W A7 c7 hlt h
                  have HC2 : Hid (∀ W, Reads 1 boolC W W.heap.size A2 (bitsL b xs.length) → Calls Tryd.prog 57 #[.slice A2 xs.length c2] W fun e w' => e = .returned (.int .i64 (popN b)) ∧ Below W.heap.size W w') := fun W h => HCT.out b W A2 c2 hbl h
                  generalize popN s = p1 at hpp hps HC1
                  generalize popN b = p2 at hpp hpb HC2
                  have hpp' : ¬ ((p1 : Int) < (p2 : Int)) := by omega
                  go_wp2_with fail; ((with_reducible refine (HSS.out).mono ?_); rintro e w9 ⟨rfl, hb_w9⟩); have HB_w9 : Hid (Below w.heap.size w w9) := HB_w8.out.trans (hb_w9.mono HB_w8.out.size); have HD_w9 := Lib.hid (HD_w8.out.below hb_w9); have HE_w9 := Lib.hid (HE_w8.out.below hb_w9); have HG_w9 := Lib.hid (HG_w8.out.below hb_w9); clear hb_w9
                  go_wp2_with fail; ((with_reducible refine (HC1.out w9 HG_w9.out.reads.1).mono ?_); rintro e w10 ⟨rfl, hb_w10⟩); have HB_w10 : Hid (Below w.heap.size w w10) := HB_w9.out.trans (hb_w10.mono HB_w9.out.size); have HD_w10 := Lib.hid (HD_w9.out.below hb_w10); have HE_w10 := Lib.hid (HE_w9.out.below hb_w10); clear hb_w10
                  go_wp2_with fail; ((with_reducible refine (HC2.out w10 HE_w10.out.reads.1).mono ?_); rintro e w11 ⟨rfl, hb_w11⟩); have HB_w11 : Hid (Below w.heap.size w w11) := HB_w10.out.trans (hb_w11.mono HB_w10.out.size); have HD_w11 := Lib.hid (HD_w10.out.below hb_w11); have HE_w11 := Lib.hid (HE_w10.out.below hb_w11); clear hb_w11
                  go_wp2_with fail
                  exact ⟨⟨s + 1, by go_num, by omega, HB_w11, HD_w11, HE_w11⟩, by simp [intOf]; omega⟩
                · have hq : (K2 == K) = false := by simp [he]
                  clear he hm2
                  go_wp2_with fail; ((with_reducible refine (HSS.out).mono ?_); rintro e w9 ⟨rfl, hb_w9⟩); have HB_w9 : Hid (Below w.heap.size w w9) := HB_w8.out.trans (hb_w9.mono HB_w8.out.size); have HD_w9 := Lib.hid (HD_w8.out.below hb_w9); have HE_w9 := Lib.hid (HE_w8.out.below hb_w9); clear hb_w9
                  go_wp2_with fail
                  exact ⟨⟨s + 1, by go_num, by omega, HB_w9, HD_w9, HE_w9⟩, by simp [intOf]; omega⟩
              · have h3' : K3 < sp := by omega
                go_wp2_with fail; ((with_reducible refine (HSS.out).mono ?_); rintro e w9 ⟨rfl, hb_w9⟩); have HB_w9 : Hid (Below w.heap.size w w9) := HB_w8.out.trans (hb_w9.mono HB_w8.out.size); have HD_w9 := Lib.hid (HD_w8.out.below hb_w9); have HE_w9 := Lib.hid (HE_w8.out.below hb_w9); clear hb_w9
                go_wp2_with fail
                exact ⟨⟨s + 1, by go_num, by omega, HB_w9, HD_w9, HE_w9⟩, by simp [intOf]; omega⟩
          · have HSS := Lib.hid (HSB.out wr HD_wr.out.reads.1 HE_wr.out.reads.1)
            go_wp2_with fail; ((with_reducible refine (HSS.out).mono ?_); rintro e w7 ⟨rfl, hb_w7⟩); have HB_w7 : Hid (Below w.heap.size w w7) := HB_wr.out.trans (hb_w7.mono HB_wr.out.size); clear hb_w7
            go_wp2_with fail
            go_ret
            exact ⟨rfl, HB_w7.out⟩
    · have hsp' : sp < 0 := by omega
      have hno : cmtO xs L sp = none := cmtO_off (fun h => hsp h.2)
      have hyy := HYS.out
      rw [hno] at hyy
      obtain ⟨hy1, hy2⟩ := hyy
      have hy1 : ys = [] := hy1.symm
      have hy2 : ok = false := hy2.symm
      subst hy1 hy2
      clear hno
      go_wp2_with fail; ((with_reducible refine (specUnitsValid_any A1 c1 xs w4 HD_w4.out.reads.1 hxl).mono ?_); rintro e w5 ⟨rfl, hb_w5⟩); have HB_w5 : Hid (Below w.heap.size w w5) := HB_w4.out.trans (hb_w5.mono HB_w4.out.size); clear hb_w5
      go_wp2_with fail; ((with_reducible refine (alive_any w5).mono ?_); rintro e w6 ⟨rfl, hb_w6⟩); have HB_w6 : Hid (Below w.heap.size w w6) := HB_w5.out.trans (hb_w6.mono HB_w5.out.size); clear hb_w6
      go_wp2_with fail
      go_ret
      exact ⟨rfl, HB_w6.out⟩
  · have hv' : unisV xs = false := by simpa using hv
    have hno : cmtO xs L sp = none := cmtO_off (fun h => hv h.1)
    have hyy := HYS.out
    rw [hno] at hyy
    obtain ⟨hy1, hy2⟩ := hyy
    have hy1 : ys = [] := hy1.symm
    have hy2 : ok = false := hy2.symm
    subst hy1 hy2
    clear hno hv
    go_wp2_with fail; ((with_reducible refine (specUnitsValid_any A1 c1 xs w4 HD_w4.out.reads.1 hxl).mono ?_); rintro e w5 ⟨rfl, hb_w5⟩); have HB_w5 : Hid (Below w.heap.size w w5) := HB_w4.out.trans (hb_w5.mono HB_w4.out.size); clear hb_w5
    go_wp2_with fail; ((with_reducible refine (alive_any w5).mono ?_); rintro e w6 ⟨rfl, hb_w6⟩); have HB_w6 : Hid (Below w.heap.size w w6) := HB_w5.out.trans (hb_w6.mono HB_w5.out.size); clear hb_w6
    go_wp2_with fail
    go_ret
    exact ⟨rfl, HB_w6.out⟩
end Go.Proofs.YtcpopbkcphpdfaaDoor
