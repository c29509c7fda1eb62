/- The law FnShedFirst: its walk. -/
import Derived.Test.YtecekhjlapaofaaDoorSfL
import Derived.Test.YtecekhjlapaofaaDoorSfD
import Derived.Test.YtecekhjlapaofaaDoorSfI
import Derived.Test.YtecekhjlapaofaaDoorSfS
import Derived.Test.YtecekhjlapaofaaDoorLwS
import Derived.Test.YtecekhjlapaofaaDoorShT
namespace Go.Proofs.YtecekhjlapaofaaDoor
open Go.RowKit Go.Deep
set_option linter.unusedSimpArgs false
set_option linter.unusedVariables false
theorem rankAt_get {xs : List R2} {k : Nat} (h : k < xs.length) : rankAt xs k = xs[k].b := by unfold rankAt; rw [List.getD_eq_getElem?_getD, List.getElem?_eq_getElem h]; rfl
theorem sizeAt_get {xs : List R2} {k : Nat} (h : k < xs.length) : sizeAt xs k = xs[k].a := by unfold sizeAt; rw [List.getD_eq_getElem?_getD, List.getElem?_eq_getElem h]; rfl
theorem lastF_out {xs : List R2} {x : List Int} {k : Nat} (h : (k : Int) ∉ x) : lastF xs x (k + 1) = lastF xs x k := by simp only [lastF]; rw [if_neg (fun q => h q.1)]
theorem lastF_take {xs : List R2} {x : List Int} {k : Nat} (h : (k : Int) ∈ x) (h2 : lastF xs x k < 0 ∨ rankAt xs (lastF xs x k).toNat ≤ rankAt xs k) : lastF xs x (k + 1) = (k : Int) := by simp only [lastF]; rw [if_pos ⟨h, h2⟩]
theorem lastF_keep {xs : List R2} {x : List Int} {k : Nat} (h2 : ¬ (lastF xs x k < 0 ∨ rankAt xs (lastF xs x k).toNat ≤ rankAt xs k)) : lastF xs x (k + 1) = lastF xs x k := by simp only [lastF]; rw [if_neg (fun q => h2 q.2)]
theorem lastF_cases (xs : List R2) (x : List Int) (n : Nat) : lastF xs x n = -1 ∨ ∃ l : Nat, lastF xs x n = l ∧ l < n := by
  rcases lastF_inv xs x n with ⟨h, _⟩ | ⟨l, h1, h2, _⟩
  · exact .inl h
  · exact .inr ⟨l, h1, h2⟩

set_option maxRecDepth 100000 in
set_option maxHeartbeats 8000000 in
theorem fnShedFirst_any (A : Option Addr) (n c : Nat) (bs : List Int) (w : World) (hn : bs.length = n) (hb : ∀ x ∈ bs, U8 x) (hc : n ≤ c) (hcm : c ≤ maxLen) (hR : Reads 1 byteC w w.heap.size A bs) :
    Calls Tryd.prog 3 #[.slice A n c] w fun e w' => e = .returned (.bool true) ∧ Below w.heap.size w w' := by
  unfold maxLen at hcm
  subst hn
  have HR := Lib.hid hR; clear hR
  have HB := Lib.hid hb; clear hb
  have HB_w : Hid (Below w.heap.size w w) := Below.refl _ _
  have hbb : ∀ x : Bool, (x != x) = false := fun x => by simp
  have hnn : ∀ x : Int, (x != x) = false := fun x => by simp
  by_cases hl : ¬ bs.length ≤ 1048576
  · have hl' : (1048576 : Int) < bs.length := by omega
    go_enter Tryd.func3, Tryd.ntmps3
    go_wp2_with fail
    go_ret
    exact ⟨rfl, Below.refl _ _⟩
  have hl : bs.length ≤ 1048576 := by omega
  have hl' : ¬ (1048576 : Int) < bs.length := by omega
  go_enter Tryd.func3, Tryd.ntmps3
  go_wp2_with fail; ((with_reducible refine (drawShedFirst_any A c bs w HR.out HB.out hl hc hcm).mono ?_); rintro e w1 ⟨A1, c1, xs, L, rfl, hx9, hL0, hL1, hd, hb_w1⟩); have HB_w1 : Hid (Below w.heap.size w w1) := HB_w.out.trans (hb_w1.mono HB_w.out.size); clear hb_w1
  have HD_w1 := Lib.hid hd
  clear hd
  have hxl : xs.length ≤ 1048576 := by omega
  have hLI : Hid (I64 L) := by unfold Hid I64; omega
  go_wp2_with fail; ((with_reducible refine (implShedFirst_any A1 c1 xs L hLI.out w1 HD_w1.out.reads.1 hxl).mono ?_); rintro e w2 ⟨v2, rfl, hr2, hb_w2⟩); have HB_w2 : Hid (Below w.heap.size w w2) := HB_w1.out.trans (hb_w2.mono HB_w1.out.size); have HD_w2 := Lib.hid (HD_w1.out.below hb_w2); clear hb_w2
  have HX_w2 := Lib.hid hr2
  obtain ⟨A2, c2, rfl, _⟩ := hr2
  go_wp2_with fail; ((with_reducible refine (specShedFirst_any A1 c1 xs L w2 HD_w2.out.reads.1 hxl).mono ?_); rintro e w3 ⟨v3, rfl, hr3, hb_w3⟩); have HB_w3 : Hid (Below w.heap.size w w3) := HB_w2.out.trans (hb_w3.mono HB_w2.out.size); have HD_w3 := Lib.hid (HD_w2.out.below hb_w3); have HX_w3 := Lib.hid (HX_w2.out.below hb_w3); clear hb_w3
  have HZ_w3 := Lib.hid hr3
  obtain ⟨A3, c3, rfl, _⟩ := hr3
  have hxo := sfO_len xs L
  have HLAW : Hid (∀ x, sfO xs L = some x → BlksP xs ∧ SfLaw xs L x) := fun x h => sf_law h
  generalize sfO xs L = O at *
  cases O with
  | none =>
    simp only [Option.getD_none, Option.isSome_none] at *
    clear HLAW
    have HSN : Hid (∀ W, Calls Tryd.prog 11 #[.slice A2 0 c2, .slice A3 0 c3] W fun e w' => e = .returned (.bool true) ∧ Below W.heap.size W w') := fun W => sameInts_any A2 A3 c2 c3 [] W (.inl rfl) (.inl rfl) (by simp)
    go_wp2_with fail; ((with_reducible refine (HSN.out w3).mono ?_); rintro e w4 ⟨rfl, hb_w4⟩); have HB_w4 : Hid (Below w.heap.size w w4) := HB_w3.out.trans (hb_w4.mono HB_w3.out.size); clear hb_w4
    go_wp2_with fail; ((with_reducible refine (alive_any w4).mono ?_); rintro e w5 ⟨rfl, hb_w5⟩); have HB_w5 : Hid (Below w.heap.size w w5) := HB_w4.out.trans (hb_w5.mono HB_w4.out.size); clear hb_w5
    go_wp2_with fail
    go_ret
    exact ⟨rfl, HB_w5.out⟩
  | some x =>
    simp only [Option.getD_some, Option.isSome_some] at *
    obtain ⟨hB, ⟨HLOW, HLEFT, hsum, HLAST, HASC⟩⟩ := HLAW.out x rfl
    have HBL := Lib.hid hB; clear hB
    have HLOW := Lib.hid HLOW; have HLEFT := Lib.hid HLEFT; have HLAST := Lib.hid HLAST; have HASC := Lib.hid HASC; have HSUM := Lib.hid hsum
    clear hsum HLAW
    have hx8 : x.length ≤ 1048576 := by omega
    have HXI : Hid (∀ y ∈ x, I64 y) := fun y hy => by have := HLOW.out y hy; unfold I64; omega
    go_wp2_with fail; ((with_reducible refine (sameInts_any A2 A3 c2 c3 x w3 HX_w3.out.reads.1 HZ_w3.out.reads.1 hx8).mono ?_); rintro e w4 ⟨rfl, hb_w4⟩); have HB_w4 : Hid (Below w.heap.size w w4) := HB_w3.out.trans (hb_w4.mono HB_w3.out.size); have HD_w4 := Lib.hid (HD_w3.out.below hb_w4); have HX_w4 := Lib.hid (HX_w3.out.below hb_w4); clear hb_w4
    have HXR : Hid (∀ W, (∃ m, W = w4.drewN m) → Reads 1 intC W W.heap.size A2 x ∧ Reads 2 r2C W W.heap.size A1 xs) := by
      rintro W ⟨m, rfl⟩
      exact ⟨HX_w4.out.reads.1, HD_w4.out.reads.1⟩
    have HH : Hid (∀ (k : Nat) W (n : Nat), (∃ m, W = w4.drewN m) → Calls Tryd.prog 13 #[.slice A2 x.length c2, .int .i64 k] (W.drewN n) fun e w' => e = .returned (.bool (decide ((k : Int) ∈ x))) ∧ ∃ m, w' = W.drewN m) := fun k W n hW => quietL (hasInt_any A2 x.length c2 x k (W.drewN n) rfl (HXR.out W hW).1 hx8)
    have HDN : Hid (∀ W n, (∃ m, W = w4.drewN m) → ∃ m, W.drewN n = w4.drewN m) := by
      rintro W n ⟨m, rfl⟩
      first | exact ⟨m + n, by rw [World.drewN_drewN]⟩ | exact ⟨n + m, by rw [World.drewN_drewN]⟩ | exact ⟨m + n, rfl⟩
    have hxn : (xs.length : Int) ≤ 9 := by omega
    go_wp2_with fail
    go_loopw [9, 10] (fun t u wr => ∃ k : Nat, u = .int .i64 k ∧ k ≤ xs.length ∧ t = .int .i64 (lastF xs x k) ∧ Hid (∃ m, wr = w4.drewN m)) (fun _ u _ => xs.length - (intOf u).toNat)
    case atStart => exact ⟨0, rfl, Nat.zero_le _, rfl, ⟨0, rfl⟩⟩
    case round =>
      obtain ⟨k, rfl, hk, rfl, HW⟩ := hrel
      by_cases hlt : k < xs.length
      · have hk1 : (k : Int) < (xs.length : Int) := by omega
        have hk0 : (0 : Int) ≤ (k : Int) := by omega
        generalize hT : lastF xs x k = T
        have HT := Lib.hid hT; clear hT
        go_wp2_with fail
        go_loopw [11] (fun u wr => ∃ j : Nat, u = .int .i64 j ∧ j ≤ x.length ∧ Hid (∃ m, wr = w4.drewN m)) (fun u _ => x.length - (intOf u).toNat)
        case atStart => exact ⟨0, rfl, Nat.zero_le _, HW⟩
        case round =>
          clear HW
          obtain ⟨j, rfl, hj, HW⟩ := hrel
          have HHk : Hid (∀ n, Calls Tryd.prog 13 #[.slice A2 x.length c2, .int .i64 k] (wr.drewN n) fun e w' => e = .returned (.bool (decide ((k : Int) ∈ x))) ∧ ∃ m, w' = wr.drewN m) := fun n => HH.out k wr n HW.out
          obtain ⟨b1, o1, hA1, _, ka, kb⟩ := (HXR.out _ HW.out).2.at2 hlt
          subst hA1
          rw [← rankAt_get hlt] at kb
          clear ka
          by_cases hjt : j < x.length
          · have hj1 : (j : Int) < (x.length : Int) := by omega
            have hj0 : (0 : Int) ≤ (j : Int) := by omega
            by_cases hin : (k : Int) ∈ x
            · have hdc : decide ((k : Int) ∈ x) = true := decide_eq_true hin
              rw [hdc] at HHk
              clear hin hdc kb
              go_wp2_with fail
              go_quiet ((go_at_call 13; exact HHk.out _))
              go_wp2_with fail
              exact ⟨⟨j + 1, by go_num, by omega, HDN.out _ _ HW.out⟩, by simp [intOf]; omega⟩
            · have hdc : decide ((k : Int) ∈ x) = false := decide_eq_false hin
              have hlow := HLOW.out x[j] (List.getElem_mem hjt)
              have hlf := HLEFT.out k hlt x[j] (List.getElem_mem hjt) hin
              obtain ⟨b2, o2, hA2, _, kx⟩ := (HXR.out _ HW.out).1.at1 hjt
              subst hA2
              have kx' : wr.cell? ⟨b2, o2 + j, none⟩ = some (.int .i64 x[j]) := kx
              clear kx
              obtain ⟨q, hq⟩ : ∃ q : Nat, x[j] = (q : Int) := ⟨x[j].toNat, by omega⟩
              rw [hq] at hlow hlf kx'
              clear hq
              rw [Int.toNat_natCast] at hlf
              have hqn : q < xs.length := by omega
              obtain ⟨b3, o3, hbb, _, ja, jb⟩ := (HXR.out _ HW.out).2.at2 hqn
              injection hbb with hbb; injection hbb with e1 e2
              subst e1 e2
              rw [← rankAt_get hqn] at jb
              clear ja
              generalize rankAt xs q = r2 at hlf jb
              generalize rankAt xs k = r1 at hlf kb
              have hq1 : (q : Int) < (xs.length : Int) := by omega
              have hq0 : (0 : Int) ≤ (q : Int) := by omega
              rw [hdc] at HHk
              clear hin hdc
              go_wp2_with fail
              go_quiet ((go_at_call 13; exact HHk.out _))
              go_wp2_with fail
              exact ⟨⟨j + 1, by go_num, by omega, HDN.out _ _ HW.out⟩, by simp [intOf]; omega⟩
          · by_cases hin : (k : Int) ∈ x
            · have hdc : decide ((k : Int) ∈ x) = true := decide_eq_true hin
              rw [hdc] at HHk
              have hcs := lastF_cases xs x k
              rw [HT.out] at hcs
              rcases hcs with rfl | ⟨l, rfl, hl2⟩
              · have HN : Hid (lastF xs x (k + 1) = (k : Int)) := lastF_take hin (.inl (by rw [HT.out]; omega))
                clear hin hdc kb
                go_wp2_with fail
                go_quiet ((go_at_call 13; exact HHk.out _))
                go_wp2_with fail
                exact ⟨⟨k + 1, by go_num, by omega, by rw [HN.out], HDN.out _ _ HW.out⟩, by simp [intOf]; omega⟩
              · have hln : l < xs.length := by omega
                obtain ⟨b3, o3, hbb, _, ja, jb⟩ := (HXR.out _ HW.out).2.at2 hln
                injection hbb with hbb; injection hbb with e1 e2
                subst e1 e2
                rw [← rankAt_get hln] at jb
                clear ja
                have hl1 : (l : Int) < (xs.length : Int) := by omega
                have hl0 : (0 : Int) ≤ (l : Int) := by omega
                have hl00 : ¬ (l : Int) < 0 := by omega
                by_cases hr : rankAt xs l ≤ rankAt xs k
                · have HN : Hid (lastF xs x (k + 1) = (k : Int)) := lastF_take hin (.inr (by rw [HT.out, Int.toNat_natCast]; exact hr))
                  generalize rankAt xs l = r2 at hr jb
                  generalize rankAt xs k = r1 at hr kb
                  clear hin hdc
                  go_wp2_with fail
                  go_quiet ((go_at_call 13; exact HHk.out _))
                  go_wp2_with fail
                  exact ⟨⟨k + 1, by go_num, by omega, by rw [HN.out], HDN.out _ _ HW.out⟩, by simp [intOf]; omega⟩
                · have HN : Hid (lastF xs x (k + 1) = (l : Int)) := by
                    unfold Hid
                    rw [lastF_keep (by rw [HT.out, Int.toNat_natCast]; omega), HT.out]
                  generalize rankAt xs l = r2 at hr jb
                  generalize rankAt xs k = r1 at hr kb
                  clear hin hdc
                  go_wp2_with fail
                  go_quiet ((go_at_call 13; exact HHk.out _))
                  go_wp2_with fail
                  exact ⟨⟨k + 1, by go_num, by omega, by rw [HN.out], HDN.out _ _ HW.out⟩, by simp [intOf]; omega⟩
            · have hdc : decide ((k : Int) ∈ x) = false := decide_eq_false hin
              have HN : Hid (lastF xs x (k + 1) = T) := by
                unfold Hid
                rw [lastF_out hin, HT.out]
              rw [hdc] at HHk
              clear hin hdc kb
              go_wp2_with fail
              go_quiet ((go_at_call 13; exact HHk.out _))
              go_wp2_with fail
              exact ⟨⟨k + 1, by go_num, by omega, by rw [HN.out], HDN.out _ _ HW.out⟩, by simp [intOf]; omega⟩
      · obtain rfl : k = xs.length := by omega
        obtain ⟨m, rfl⟩ := HW.out
        clear HW
        have HB_w5 : Hid (Below w.heap.size w (w4.drewN m)) := below_drewN' HB_w4.out m
        have HD_w5 : Hid (DrS 2 r2C (w4.drewN m) w.heap.size (.slice A1 xs.length c1) xs) := HD_w4
        have HX_w5 : Hid (Res 1 intC 3 (w4.drewN m) w1.heap.size (.slice A2 x.length c2) x) := HX_w4
        clear HD_w4 HX_w4 HXR HH HB_w4 HDN
        generalize w4.drewN m = w5 at *
        go_wp2_with fail; ((with_reducible refine (implShedSum_n A1 A2 xs.length x.length c1 c2 xs x w5 rfl rfl HD_w5.out.reads.1 HX_w5.out.reads.1 HXI.out hxl hx8).mono ?_); rintro e w6 ⟨rfl, hb_w6⟩); have HB_w6 : Hid (Below w.heap.size w w6) := HB_w5.out.trans (hb_w6.mono HB_w5.out.size); have HD_w6 := Lib.hid (HD_w5.out.below hb_w6); have HX_w6 := Lib.hid (HX_w5.out.below hb_w6); clear hb_w6
        obtain ⟨hs1, hs2, hs3⟩ := HSUM.out
        have hlast := HLAST.out
        clear HLAST HSUM
        generalize shedSum xs x = S at hs1 hs2 hs3 hlast ⊢
        have hd1 : decide (L ≤ S) = true := decide_eq_true hs1
        generalize lastF xs x xs.length = T at hlast ⊢
        have HAS := Lib.hid (fun W (h : Reads 1 intC W W.heap.size A2 x) => ascend_any A2 x.length c2 x W rfl h hx8 HASC.out)
        rcases hlast with rfl | ⟨l, rfl, hl2, hl3⟩
        · go_wp2_with fail
          all_goals try (exfalso; omega; done)
          with_reducible refine (HAS.out w6 HX_w6.out.reads.1).mono ?_
          rintro e w7 ⟨rfl, hb7⟩
          have HB_w7 : Hid (Below w.heap.size w w7) := HB_w6.out.trans (hb7.mono HB_w6.out.size)
          clear hb7
          go_wp2_with fail
          go_ret
          exact ⟨rfl, HB_w7.out⟩
        · obtain ⟨b3, o3, rfl, _, ja, jb⟩ := HD_w6.out.reads.1.at2 hl2
          rw [← sizeAt_get hl2] at ja
          have hl1 : (l : Int) < (xs.length : Int) := by omega
          have hl0 : (0 : Int) ≤ (l : Int) := by omega
          have hl00 : ¬ (l : Int) < 0 := by omega
          have hsz := sizeAt_bd HBL.out hl2
          generalize sizeAt xs l = z at ja hsz hl3
          have hd2 : decide (S - z < L) = true := decide_eq_true hl3
          have hwz : wrap64 (S - z) = S - z := by rw [← IntWalk.i64_left]; exact IntWalk.i64_in _ (by omega)
          go_wp2_with fail
          all_goals try (exfalso; omega; done)
          with_reducible refine (HAS.out w6 HX_w6.out.reads.1).mono ?_
          rintro e w7 ⟨rfl, hb7⟩
          have HB_w7 : Hid (Below w.heap.size w w7) := HB_w6.out.trans (hb7.mono HB_w6.out.size)
          clear hb7
          go_wp2_with fail
          go_ret
          exact ⟨rfl, HB_w7.out⟩
end Go.Proofs.YtecekhjlapaofaaDoor
