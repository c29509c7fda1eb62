/- Drawing units and outputs for the laws; drawing a load. -/
import Derived.Test.YtcpopbkcphpdfaaDoorDrO
import Derived.Test.YtcpopbkcphpdfaaDoorDspQ
namespace Go.Proofs.YtcpopbkcphpdfaaDoor
open Go.RowKit Go.Deep
set_option linter.unusedSimpArgs false
set_option linter.unusedVariables false

/-- Units and outputs were drawn, and nothing old has turned. -/
def DrawnUI (w : World) (e : Ending) (w' : World) : Prop :=
  ∃ (A A' : Option Addr) (c c' : Nat) (xs : List R4) (ys : List Int), e = .returned (.tuple #[.slice A xs.length c, .slice A' ys.length c']) ∧ xs.length ≤ 7 ∧ (∀ x ∈ xs, SmU x) ∧ ys.length ≤ 7 ∧ (∀ y ∈ ys, -10 ≤ y ∧ y ≤ 200) ∧
    DrS 4 r4C w' w.heap.size (.slice A xs.length c) xs ∧ DrS 1 intC w' w.heap.size (.slice A' ys.length c') ys ∧ Below w.heap.size w w'
theorem drawOutputsValid_any (A : Option Addr) (c : Nat) (bs : List Int) (w : World) (hR : Reads 1 byteC w w.heap.size A bs) (hb : ∀ x ∈ bs, U8 x) (hl : bs.length ≤ 1048576) (hc : bs.length ≤ c) (hcm : c ≤ 9223372036854775807) :
    Calls Tryd.prog 19 #[.slice A bs.length c] w (DrawnUI w) := by
  have HR := Lib.hid hR; clear hR
  have HB := Lib.hid hb; clear hb
  go_enter Tryd.func19, Tryd.ntmps19
  go_wp2_with fail; ((with_reducible refine (l20Open_any A c bs _ HR.out HB.out hl hc hcm).mono ?_); rintro e w1 ⟨g, rfl, hg, hr1, hb_1⟩); have hz_1 := hb_1.size; (try simp only [World.size_alloc, World.size_setCell, World.size_drew] at hz_1)
  have hgz := hr1.lt
  have HR1 := Lib.hid hr1; have HB1 := Lib.hid hb_1; clear hr1 hb_1
  go_wp2_with fail
  refine (l20Units_any g 0 9 _ HR1.out (by omega) (by omega) (by omega)).mono ?_
  rintro e w2 ⟨v, xs, rfl, h7, hs, hd, hr2, hc2⟩
  have HD := Lib.hid hd
  obtain ⟨A1, c1, rfl, _⟩ := hd
  have HR2 := Lib.hid hr2; have HS := Lib.hid hs; have HC2 := Lib.hid hc2
  clear hs hc2 hr2
  have hz1 := HB1.out.size
  go_wp2_with fail
  refine (l20Outputs_any g _ 3 A1 c1 xs w1.heap.size w2 HR2.out HD.out hgz h7 HS.out (by omega) (by omega) (by omega)).mono ?_
  rintro e w3 ⟨v3, ys, rfl, h73, hy3, hd3, hr3, hc3⟩
  have HD3 := Lib.hid hd3; have HY := Lib.hid hy3; have HC3 := Lib.hid hc3
  obtain ⟨A3, c3, rfl, _⟩ := hd3
  clear hr3 hy3 hc3
  have hz2 := HC2.out.size
  go_wp2_with fail
  refine bodyPost_ret (by simp [results, Tryd.results19, go_sem]; try rfl) rfl ?_
  refine ⟨_, _, _, _, _, _, rfl, h7, HS.out, h73, HY.out, (HD.out.chg HC3.out hgz).mono hz1, HD3.out.mono (by omega), ?_⟩
  exact HB1.out.trans ((((HC2.out.trans HC3.out).below (Nat.le_of_lt hgz))).mono hg)
theorem drawOutputCost_any (A : Option Addr) (c : Nat) (bs : List Int) (w : World) (hR : Reads 1 byteC w w.heap.size A bs) (hb : ∀ x ∈ bs, U8 x) (hl : bs.length ≤ 1048576) (hc : bs.length ≤ c) (hcm : c ≤ 9223372036854775807) :
    Calls Tryd.prog 22 #[.slice A bs.length c] w (DrawnUI w) := by
  have HR := Lib.hid hR; clear hR
  have HB := Lib.hid hb; clear hb
  go_enter Tryd.func22, Tryd.ntmps22
  go_wp2_with fail; ((with_reducible refine (l20Open_any A c bs _ HR.out HB.out hl hc hcm).mono ?_); rintro e w1 ⟨g, rfl, hg, hr1, hb_1⟩); have hz_1 := hb_1.size; (try simp only [World.size_alloc, World.size_setCell, World.size_drew] at hz_1)
  have hgz := hr1.lt
  have HR1 := Lib.hid hr1; have HB1 := Lib.hid hb_1; clear hr1 hb_1
  go_wp2_with fail
  refine (l20Units_any g 0 9 _ HR1.out (by omega) (by omega) (by omega)).mono ?_
  rintro e w2 ⟨v, xs, rfl, h7, hs, hd, hr2, hc2⟩
  have HD := Lib.hid hd
  obtain ⟨A1, c1, rfl, _⟩ := hd
  have HR2 := Lib.hid hr2; have HS := Lib.hid hs; have HC2 := Lib.hid hc2
  clear hs hc2 hr2
  have hz1 := HB1.out.size
  go_wp2_with fail
  refine (l20Outputs_any g _ 6 A1 c1 xs w1.heap.size w2 HR2.out HD.out hgz h7 HS.out (by omega) (by omega) (by omega)).mono ?_
  rintro e w3 ⟨v3, ys, rfl, h73, hy3, hd3, hr3, hc3⟩
  have HD3 := Lib.hid hd3; have HY := Lib.hid hy3; have HC3 := Lib.hid hc3
  obtain ⟨A3, c3, rfl, _⟩ := hd3
  clear hr3 hy3 hc3
  have hz2 := HC2.out.size
  go_wp2_with fail
  refine bodyPost_ret (by simp [results, Tryd.results22, go_sem]; try rfl) rfl ?_
  refine ⟨_, _, _, _, _, _, rfl, h7, HS.out, h73, HY.out, (HD.out.chg HC3.out hgz).mono hz1, HD3.out.mono (by omega), ?_⟩
  exact HB1.out.trans ((((HC2.out.trans HC3.out).below (Nat.le_of_lt hgz))).mono hg)
theorem smU_sums {xs : List R4} (hs : ∀ x ∈ xs, SmU x) (i : Nat) (h7 : xs.length ≤ 7) : -7 ≤ sumI ((leasts xs).take i) ∧ sumI ((leasts xs).take i) ≤ 280 ∧ -7 ≤ sumI ((mosts xs).take i) ∧ sumI ((mosts xs).take i) ≤ 280 := by
  have key : ∀ {n : Nat}, n ≤ xs.length → -(n : Int) ≤ sumI ((leasts xs).take n) ∧ sumI ((leasts xs).take n) ≤ 40 * n ∧ -(n : Int) ≤ sumI ((mosts xs).take n) ∧ sumI ((mosts xs).take n) ≤ 40 * n := by
    intro n
    induction n with
    | zero => intro _; simp [sumI]
    | succ n ih =>
      intro hn
      have i := ih (by omega)
      have hx := hs xs[n] (List.getElem_mem (by omega)); unfold SmU at hx
      rw [sumI_take_succ (by simp; omega), sumI_take_succ (by simp; omega), gI_leasts (by omega), gI_mosts (by omega), uAt_get (by omega)]
      omega
  rcases Nat.le_total i xs.length with h | h
  · have := key h; omega
  · have := key (Nat.le_refl xs.length)
    rw [List.take_of_length_le (by simp), List.take_of_length_le (by simp)] at this
    rw [List.take_of_length_le (show (leasts xs).length ≤ i by simpa using h), List.take_of_length_le (show (mosts xs).length ≤ i by simpa using h)]
    omega
/-- A load was drawn. -/
def DrawnL (g : Nat) (P : Int) (w : World) (e : Ending) (w' : World) : Prop :=
  ∃ L : Int, e = .returned (.int .i64 L) ∧ -20 ≤ L ∧ L ≤ 1000 ∧ RdOk 94 w' g (P + 2) ∧ Chg g w w'
set_option maxRecDepth 100000 in
set_option maxHeartbeats 8000000 in
theorem l20Load_any (g : Nat) (P : Int) (A : Option Addr) (c : Nat) (xs : List R4) (w : World) (hr : RdOk 94 w g P) (hD : Reads 4 r4C w w.heap.size A xs) (h7 : xs.length ≤ 7) (hs : ∀ x ∈ xs, SmU x) (hP : P ≤ 900000) :
    Calls Tryd.prog 72 #[.pointer (some ⟨g, 0, none⟩), .slice A xs.length c] w (DrawnL g P w) := by
  have hgl := hr.lt
  have HR := Lib.hid hr; have HD := Lib.hid hD; have HS := Lib.hid hs; clear hr hD hs
  have HSM := Lib.hid (fun i => smU_sums HS.out i h7)
  generalize hm : xs.length = m at h7 ⊢
  have HM := Lib.hid hm; clear hm
  go_enter Tryd.func72, Tryd.ntmps72
  go_wp2_with fail
  go_loopw [5, 6, 7] (fun t u k wr => ∃ (i : Nat) (a b : Int), k = .int .i64 i ∧ i ≤ m ∧ t = .int .i64 a ∧ u = .int .i64 b ∧ -7 ≤ a ∧ a ≤ 280 ∧ -7 ≤ b ∧ b ≤ 280 ∧ Hid (a = sumI ((leasts xs).take i) ∧ b = sumI ((mosts xs).take i)) ∧ wr = w) (fun _ _ k _ => m - (intOf k).toNat)
  case atStart => exact ⟨0, 0, 0, rfl, Nat.zero_le _, rfl, rfl, by omega, by omega, by omega, by omega, ⟨by simp [sumI], by simp [sumI]⟩, rfl⟩
  case round =>
    obtain ⟨i, a, b, rfl, hi, rfl, rfl, ha0, ha1, hb0, hb1, HAB, rfl⟩ := hrel
    by_cases hlt : i < m
    · have hx : i < xs.length := by rw [HM.out]; exact hlt
      obtain ⟨bb, off, rfl, hbz, c0, c1, _, _⟩ := HD.out.at4 hx
      have hsm := HS.out xs[i] (List.getElem_mem hx)
      have hq := HSM.out (i + 1)
      have e1 := sumI_take_succ (ys := leasts xs) (n := i) (by simpa using hx)
      have e2 := sumI_take_succ (ys := mosts xs) (n := i) (by simpa using hx)
      rw [gI_leasts hx, uAt_get hx, ← HAB.out.1] at e1
      rw [gI_mosts hx, uAt_get hx, ← HAB.out.2] at e2
      rw [e1, e2] at hq
      have HE := Lib.hid (And.intro e1 e2); clear e1 e2
      generalize xs[i] = x at c0 c1 hsm hq HE
      unfold SmU at hsm
      obtain ⟨s1, s2, s3, s4, _⟩ := hsm
      obtain ⟨q1, q2, q3, q4⟩ := hq
      go_wp2_with fail
      refine ⟨⟨i + 1, a + x.a, b + x.b, by go_num, by omega, rfl, rfl, by omega, by omega, by omega, by omega, ⟨HE.out.1.symm, HE.out.2.symm⟩, by first | rfl | trivial⟩, by simp [intOf]; omega⟩
    · obtain rfl : i = m := by omega
      obtain ⟨mx, hite⟩ : ∃ mx, (if b - a < 0 then 0 else b - a) = mx := ⟨_, rfl⟩
      have hmx0 : 0 ≤ mx := by rw [← hite]; split <;> omega
      have hmx1 : mx ≤ 290 := by rw [← hite]; split <;> omega
      have HPK : Hid (Calls Tryd.prog 74 #[.pointer (some ⟨g, 0, none⟩), .int .i64 (mx + 3)] wr (PickP 94 g P (mx + 3) wr)) := pick_any g P (mx + 3) wr HR.out (by omega) (by omega)
      rcases Int.lt_or_le (b - a) 0 with hlt0 | hge0
      · have hmz : mx = 0 := by rw [← hite]; rw [if_pos hlt0]
        subst hmz
        go_wp2_with fail
        refine HPK.out.mono ?_
        rintro e w1 ⟨v1, rfl, h10, h11, hr1, hc1⟩
        have HR1 := Lib.hid hr1; have HC1 := Lib.hid hc1; clear hr1 hc1
        go_wp2_with fail; ((with_reducible refine (pick_any g (P + 1) 9 _ (HR1.out) (by omega) (by omega)).mono ?_); rintro e w2 ⟨v2, rfl, h0v2, h1v2, hr_w2, hc_w2⟩); have hz_w2 := hc_w2.size; (try simp only [World.size_alloc, World.size_setCell, World.size_drew] at hz_w2); have HR_w2 := Lib.hid hr_w2; have HC_w2 := Lib.hid hc_w2; clear hr_w2 hc_w2
        have hv2 : v2.tdiv 8 = 0 ∨ v2.tdiv 8 = 1 := by rw [Int.tdiv_eq_ediv_of_nonneg h0v2]; omega
        generalize v2.tdiv 8 = q at hv2
        go_wp2_with fail
        go_ret
        exact ⟨_, rfl, by omega, by omega, HR_w2.out.more (by omega), HC1.out.trans HC_w2.out⟩
      · have hmz : mx = b - a := by rw [← hite]; rw [if_neg (by omega)]
        rw [hmz] at HPK
        have hge0' : ¬ (b - a < 0) := by omega
        go_wp2_with fail
        refine HPK.out.mono ?_
        rintro e w1 ⟨v1, rfl, h10, h11, hr1, hc1⟩
        have HR1 := Lib.hid hr1; have HC1 := Lib.hid hc1; clear hr1 hc1
        go_wp2_with fail; ((with_reducible refine (pick_any g (P + 1) 9 _ (HR1.out) (by omega) (by omega)).mono ?_); rintro e w2 ⟨v2, rfl, h0v2, h1v2, hr_w2, hc_w2⟩); have hz_w2 := hc_w2.size; (try simp only [World.size_alloc, World.size_setCell, World.size_drew] at hz_w2); have HR_w2 := Lib.hid hr_w2; have HC_w2 := Lib.hid hc_w2; clear hr_w2 hc_w2
        have hv2 : v2.tdiv 8 = 0 ∨ v2.tdiv 8 = 1 := by rw [Int.tdiv_eq_ediv_of_nonneg h0v2]; omega
        generalize v2.tdiv 8 = q at hv2
        go_wp2_with fail
        go_ret
        exact ⟨_, rfl, by omega, by omega, HR_w2.out.more (by omega), HC1.out.trans HC_w2.out⟩
/-- Units and a load were drawn. -/
def DrawnUL (w : World) (e : Ending) (w' : World) : Prop :=
  ∃ (A : Option Addr) (c : Nat) (xs : List R4) (L : Int), e = .returned (.tuple #[.slice A xs.length c, .int .i64 L]) ∧ xs.length ≤ 7 ∧ (∀ x ∈ xs, SmU x) ∧ -20 ≤ L ∧ L ≤ 1000 ∧ DrS 4 r4C w' w.heap.size (.slice A xs.length c) xs ∧ Below w.heap.size w w'
theorem drawDispatch_any (A : Option Addr) (c : Nat) (bs : List Int) (w : World) (hR : Reads 1 byteC w w.heap.size A bs) (hb : ∀ x ∈ bs, U8 x) (hl : bs.length ≤ 1048576) (hc : bs.length ≤ c) (hcm : c ≤ 9223372036854775807) :
    Calls Tryd.prog 33 #[.slice A bs.length c] w (DrawnUL w) := by
  have HR := Lib.hid hR; clear hR
  have HB := Lib.hid hb; clear hb
  go_enter Tryd.func33, Tryd.ntmps33
  go_wp2_with fail; ((with_reducible refine (l20Open_any A c bs _ HR.out HB.out hl hc hcm).mono ?_); rintro e w1 ⟨g, rfl, hg, hr1, hb_1⟩); have hz_1 := hb_1.size; (try simp only [World.size_alloc, World.size_setCell, World.size_drew] at hz_1)
  have hgz := hr1.lt
  have HR1 := Lib.hid hr1; have HB1 := Lib.hid hb_1; clear hr1 hb_1
  go_wp2_with fail
  refine (l20Units_any g 0 9 _ HR1.out (by omega) (by omega) (by omega)).mono ?_
  rintro e w2 ⟨v, xs, rfl, h7, hs, hd, hr2, hc2⟩
  have HD := Lib.hid hd
  obtain ⟨A1, c1, rfl, _⟩ := hd
  have HR2 := Lib.hid hr2; have HS := Lib.hid hs; have HC2 := Lib.hid hc2
  clear hs hc2 hr2
  have hz1 := HB1.out.size
  go_wp2_with fail
  refine (l20Load_any g _ A1 c1 xs w2 HR2.out HD.out.reads.1 h7 HS.out (by omega)).mono ?_
  rintro e w3 ⟨L, rfl, hL0, hL1, hr3, hc3⟩
  have HC3 := Lib.hid hc3
  clear hr3 hc3
  go_wp2_with fail
  refine bodyPost_ret (by simp [results, Tryd.results33, go_sem]; try rfl) rfl ?_
  refine ⟨_, _, _, _, rfl, h7, HS.out, hL0, hL1, (HD.out.chg HC3.out hgz).mono hz1, ?_⟩
  exact HB1.out.trans ((((HC2.out.trans HC3.out).below (Nat.le_of_lt hgz))).mono hg)
theorem drawNextCost_any (A : Option Addr) (c : Nat) (bs : List Int) (w : World) (hR : Reads 1 byteC w w.heap.size A bs) (hb : ∀ x ∈ bs, U8 x) (hl : bs.length ≤ 1048576) (hc : bs.length ≤ c) (hcm : c ≤ 9223372036854775807) :
    Calls Tryd.prog 29 #[.slice A bs.length c] w (DrawnUL w) := by
  have HD := Lib.hid (drawDispatch_any A c bs w hR hb hl hc hcm); clear hR hb
  go_enter Tryd.func29, Tryd.ntmps29
  go_wp2_with fail
  refine HD.out.mono ?_
  rintro e w1 ⟨A1, c1, xs, L, rfl, h7, hs, hL0, hL1, hd, hb⟩
  have HS := Lib.hid hs; have HD1 := Lib.hid hd; have HB := Lib.hid hb; clear hs hd hb
  go_wp2_with fail
  refine bodyPost_ret (by simp [results, Tryd.results29, go_sem]; try rfl) rfl ?_
  exact ⟨_, _, _, _, rfl, h7, HS.out, hL0, hL1, HD1.out, HB.out⟩
end Go.Proofs.YtcpopbkcphpdfaaDoor
