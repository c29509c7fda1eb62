/- Slices of slices of ints: what a copy is, comparisons, sizes, marks. -/
import Derived.Test.YtdfgdeccejcpfaaSs
import Derived.Test.YtdfgdeccejcpfaaMkInt
import Derived.Deep.RegionHeld3
namespace Go.Proofs.Ytdfgdeccejcpfaa
open Go.RowKit Go.Deep
set_option linter.unusedSimpArgs false
set_option linter.unusedVariables false
/-- Only blocks from B up to E may differ; new ones may come. -/
structure MkG (B E : Nat) (w w' : World) : Prop where
  os : w'.os = w.os
  tape : w'.tape = w.tape
  output : w'.output = w.output
  size : w.heap.size ≤ w'.heap.size
  block : ∀ g, g < w.heap.size → (g < B ∨ E ≤ g) → w'.heap[g]? = w.heap[g]?
theorem Mk.g {B E : Nat} {w w' : World} (h : Mk B E w w') : MkG B E w w' := ⟨h.os, h.tape, h.output, by rw [h.size]; exact Nat.le_refl _, fun g _ hg => h.block g hg⟩
theorem MkG.below {B E C : Nat} {w w' : World} (h : MkG B E w w') (hC : C ≤ B) (hz : C ≤ w.heap.size) : Below C w w' := ⟨h.os, h.tape, h.output, h.size, fun g hg => h.block g (by omega) (.inl (by omega))⟩
theorem Res.mkg_up {α : Type} {k : Nat} {c : α → Nat → Value} {T : TypeId} {w w' : World} {B B' E : Nat} {v : Value} {xs : List α} (h : Res k c T w B' v xs) (m : MkG B E w w') (hB : E ≤ B') : Res k c T w' B' v xs :=
  h.kept fun g h1 h2 => m.block g h2 (.inr (by omega))
theorem Mk.wide {B E B' E' : Nat} {w w' : World} (h : Mk B E w w') (h1 : B' ≤ B) (h2 : E ≤ E') : Mk B' E' w w' := ⟨h.os, h.tape, h.output, h.size, fun g hg => h.block g (by omega)⟩
/-- The lengths of the first n, put together. -/
def lenS (zss : List SV) : Nat → Nat
  | 0 => 0
  | k + 1 => lenS zss k + (zAt zss k).length
theorem lenS_mono (zss : List SV) (i : Nat) : ∀ d, lenS zss i ≤ lenS zss (i + d)
  | 0 => Nat.le_refl _
  | d + 1 => Nat.le_trans (lenS_mono zss i d) (Nat.le_add_right _ _)
theorem lenS_le {zss : List SV} {k n : Nat} (h : k < n) : lenS zss k + (zAt zss k).length ≤ lenS zss n := by
  have := lenS_mono zss (k + 1) (n - (k + 1))
  rwa [show k + 1 + (n - (k + 1)) = n from by omega] at this
theorem zAt_eq {yss zss : List SV} (hl : yss.length = zss.length) (h : ∀ i, i < zss.length → zAt yss i = zAt zss i) : zAt yss = zAt zss := by
  funext k
  by_cases hk : k < zss.length
  · exact h k hk
  · unfold zAt
    rw [List.getD_eq_getElem?_getD, List.getD_eq_getElem?_getD, List.getElem?_eq_none (by omega), List.getElem?_eq_none (by omega)]
/-- v is a slice at block B whose row holds slices with zss' ints; the inner ones lie in blocks of their own above B, all below E. -/
def SSOf (w : World) (B E : Nat) (v : Value) (zss : List SV) : Prop := ∃ (yss : List SV) (hs : Nat → Nat), v = .slice (some ⟨B, 0, none⟩) zss.length zss.length ∧ yss.length = zss.length ∧ zAt yss = zAt zss ∧ hs 0 = B + 1 ∧ (∀ i, i < zss.length → InS w (hs i) (hs (i + 1)) (yss.getD i svN)) ∧ (∀ i j, i ≤ j → j ≤ zss.length → hs i ≤ hs j) ∧ hs zss.length ≤ E ∧ E ≤ w.heap.size ∧ w.rowIs B 25 zss.length (fun j => svC (yss.getD j svN) 0)
theorem SSOf.kept {w w' : World} {B E : Nat} {v : Value} {zss : List SV} (h : SSOf w B E v zss) (hz : w.heap.size ≤ w'.heap.size) (hb : ∀ g, B ≤ g → g < w.heap.size → w'.heap[g]? = w.heap[g]?) : SSOf w' B E v zss := by
  obtain ⟨yss, hs, e, h1, h2, h3, h4, h5, h6, h7, h8⟩ := h
  refine ⟨yss, hs, e, h1, h2, h3, fun i hi => (h4 i hi).kept hz fun g hg1 hg2 => hb g ?_ hg2, h5, h6, Nat.le_trans h7 hz, h8.of_block (hb B (Nat.le_refl _) h8.lt)⟩
  have := h5 0 i (Nat.zero_le _) (by omega)
  omega
theorem SSOf.below {w w' : World} {B E : Nat} {v : Value} {zss : List SV} (h : SSOf w B E v zss) (hb : Below w.heap.size w w') : SSOf w' B E v zss := h.kept hb.size fun g _ hg => hb.block g hg
theorem SSOf.mkg_up {w w' : World} {B E B' E' : Nat} {v : Value} {zss : List SV} (h : SSOf w B E v zss) (m : MkG B' E' w w') (hB : E' ≤ B) : SSOf w' B E v zss := h.kept m.size fun g h1 h2 => m.block g h2 (.inr (by omega))
theorem SSOf.form {w : World} {B E : Nat} {v : Value} {zss : List SV} (h : SSOf w B E v zss) : ∃ A c, v = .slice A zss.length c := by
  obtain ⟨yss, hs, e, -⟩ := h
  exact ⟨_, _, e⟩
theorem SSOf.reads {w : World} {B E : Nat} {A : Option Addr} {n c : Nat} {zss : List SV} (h : SSOf w B E (.slice A n c) zss) :
    n = zss.length ∧ ∃ yss : List SV, yss.length = zss.length ∧ zAt yss = zAt zss ∧ Reads 1 svC w w.heap.size A yss ∧ ∀ s ∈ yss, Reads 1 intC w w.heap.size s.A s.xs := by
  obtain ⟨yss, hs, e, h1, h2, h3, h4, h5, h6, h7, h8⟩ := h
  injection e with e1 e2 e3
  subst e1
  refine ⟨e2, yss, h1, h2, .inr ⟨B, 0, rfl, h8.lt, fun i x hx j hj => ?_⟩, fun s hs => ?_⟩
  · obtain ⟨hi, e⟩ := getElem?_of_lt hx
    obtain rfl : j = 0 := by omega
    rw [Nat.zero_add, Nat.mul_one, Nat.add_zero, h8.cell (by omega), List.getD_eq_getElem?_getD, hx]
    rfl
  · obtain ⟨i, hi, rfl⟩ := List.mem_iff_getElem.1 hs
    have q := (h4 i (by omega)).res.reads.1
    rwa [getD_lt hi] at q
theorem toIntSS_any2 (A : Option Addr) (c : Nat) (zss : List SV) (w : World) (hR : Reads 1 svC w w.heap.size A zss) (hz : ∀ s ∈ zss, s.xs.length ≤ 1048576 ∧ Reads 1 intC w w.heap.size s.A s.xs) (hl : zss.length ≤ 1048576) :
    Calls Try.prog 28 #[.slice A zss.length c] w fun e w' => ∃ v, e = .returned v ∧ SSOf w' w.heap.size w'.heap.size v zss ∧ Below w.heap.size w w' := by
  refine (toIntSS_any A c zss w hR hz hl).mono ?_
  rintro e w' ⟨yss, hs, rfl, h1, h2, h3, h4, h5, hb⟩
  have hm : ∀ i d, i + d ≤ zss.length → hs i ≤ hs (i + d) := fun i d => by
    induction d with
    | zero => exact fun _ => Nat.le_refl _
    | succ d ih => exact fun hd => Nat.le_trans (ih (by omega)) (h4 (i + d) (by omega)).le
  refine ⟨_, rfl, ⟨yss, hs, rfl, h1, zAt_eq h1 h2, h3, h4, fun i j hij hj => ?_, ?_, Nat.le_refl _, h5⟩, hb⟩
  · have := hm i (j - i) (by omega)
    rwa [show i + (j - i) = j from by omega] at this
  · rcases Nat.eq_zero_or_pos zss.length with hz | hz
    · rw [hz, h3]; exact h5.lt
    · have := (h4 (zss.length - 1) (by omega)).top
      rwa [show zss.length - 1 + 1 = zss.length from by omega] at this
theorem szIntS_any (A : Option Addr) (n c : Nat) (l : Int) (w : World) (h : n ≤ 9223372036854775807) (h0 : 0 ≤ l) (h1 : l ≤ 1048576) :
    Calls Try.prog 61 #[.slice A n c, .int .i64 l] w fun e w' => e = .returned (.int .i64 (if (n : Int) ≤ l then l - n else -1)) ∧ w = w' := by
  by_cases hn : (n : Int) ≤ l
  · rw [if_pos hn]
    have h1 : ¬ (l - (n : Int)) < 0 := by omega
    go_enter Try.func61, Try.ntmps61
    go_wp2
    go_ret
    exact ⟨rfl, rfl⟩
  · rw [if_neg hn]
    have h1 : (l - (n : Int)) < 0 := by omega
    go_enter Try.func61, Try.ntmps61
    go_wp2
    go_ret
    exact ⟨rfl, rfl⟩
set_option maxHeartbeats 1000000 in
theorem szIntSS_any (A : Option Addr) (c : Nat) (zss : List SV) (l : Int) (w : World) (hR : Reads 1 svC w w.heap.size A zss) (hz : ∀ k, (zAt zss k).length ≤ 9223372036854775807) (hl : zss.length ≤ 9223372036854775807) (h0 : 0 ≤ l) (h1 : l ≤ 1048576) :
    Calls Try.prog 26 #[.slice A zss.length c, .int .i64 l] w fun e w' => ∃ r : Int, e = .returned (.int .i64 r) ∧ -1 ≤ r ∧ r ≤ 1048576 ∧ (0 ≤ r → zss.length + lenS zss zss.length ≤ 1048576) ∧ Below w.heap.size w w' := by
  have HR := Lib.hid hR; clear hR
  have HZ := Lib.hid hz; clear hz
  have hsv : ∀ k (hk : k < zss.length), ∃ b off sA sc, A = some ⟨b, off, none⟩ ∧ w.cell? ⟨b, off + k, none⟩ = some (.slice sA (zAt zss k).length sc) := fun k hk => by
    obtain ⟨b, off, e, _, hc⟩ := svReads HR.out hk
    exact ⟨b, off, _, _, e, hc⟩
  have HSV := Lib.hid hsv; clear hsv
  generalize hn : zss.length = n at hl HSV ⊢
  clear hn
  have HM := Lib.hid (fun k (hk : k < n) => lenS_le (zss := zss) hk)
  by_cases hnl : (n : Int) ≤ l
  · have hd : ¬ (l - (n : Int)) < 0 := by omega
    go_enter Try.func26, Try.ntmps26
    go_wp2_with fail
    go_loopw [1, 5] (fun t u wr => ∃ (i : Nat), u = .int .i64 i ∧ i ≤ n ∧ t = .int .i64 (l - n - lenS zss i) ∧ (lenS zss i : Int) ≤ l - n ∧ Hid (∃ q, wr = w.drewN q)) (fun _ u _ => n - (intOf u).toNat)
    case atStart => exact ⟨0, rfl, Nat.zero_le _, by simp [lenS], by simp only [lenS]; omega, 0, rfl⟩
    case round =>
      obtain ⟨i, rfl, hi, rfl, hli, HW⟩ := hrel
      obtain ⟨q, rfl⟩ := HW.out
      clear HW
      by_cases hlt : i < n
      · obtain ⟨b, off, sA, sc, rfl, hc⟩ := HSV.out i hlt
        have hle : (lenS zss (i + 1) : Int) = lenS zss i + (zAt zss i).length := by simp only [lenS]; omega
        have hzi := HZ.out i
        generalize hm : (zAt zss i).length = m at hle hc hzi
        generalize hs : lenS zss i = s at hle hli ⊢
        generalize hs1 : lenS zss (i + 1) = s1 at hle
        have HS1 := Lib.hid hs1
        have HLE := Lib.hid hle
        clear hs hm hs1 hle
        have hi1 : (i : Int) < (n : Int) := by omega
        go_wp2_with fail
        refine (szIntS_any sA m sc (l - n - s) _ (by omega) (by omega) (by omega)).mono ?_
        rintro e w2 ⟨rfl, rfl⟩
        by_cases hml : (m : Int) ≤ l - n - s
        · rw [if_pos hml]
          have hd2 : ¬ (l - n - s - (m : Int)) < 0 := by omega
          go_wp2
          go_roundw
          case rel => exact ⟨i + 1, by go_num, by omega, by rw [HS1.out, HLE.out]; congr 1; omega, by rw [HS1.out, HLE.out]; omega, ⟨_, rfl⟩⟩
          case measure => simp [intOf]; omega
        · rw [if_neg hml]
          go_wp2
          go_ret
          exact ⟨-1, rfl, by omega, by omega, by omega, below_drewN' (Below.refl _ _) _⟩
      · obtain rfl : i = n := by omega
        go_wp2
        go_ret
        exact ⟨_, rfl, by omega, by omega, by omega, below_drewN' (Below.refl _ _) _⟩
  · have hd : (l - (n : Int)) < 0 := by omega
    go_enter Try.func26, Try.ntmps26
    go_wp2
    go_ret
    exact ⟨-1, rfl, by omega, by omega, by omega, Below.refl _ _⟩
set_option maxHeartbeats 1000000 in
theorem eqIntSS_any (v v' : Value) (zss : List SV) (w : World) (B B' E E' : Nat) (hA : SSOf w B E v zss) (hB : SSOf w B' E' v' zss) (hz : ∀ k, (zAt zss k).length ≤ 1048576) (hl : zss.length ≤ 1048576) :
    Calls Try.prog 30 #[v, v'] w fun e w' => e = .returned (.bool true) ∧ Below w.heap.size w w' := by
  obtain ⟨yss, hs, rfl, h1, h2, h3, h4, h5, h6, h7, h8⟩ := hA
  obtain ⟨xss, gs, rfl, g1, g2, g3, g4, g5, g6, g7, g8⟩ := hB
  have HZ := Lib.hid hz; clear hz
  have HC := Lib.hid (fun i (hi : i < zss.length) => h8.cell hi)
  have GC := Lib.hid (fun i (hi : i < zss.length) => g8.cell hi)
  have HI : Hid (∀ W, Below w.heap.size w W → ∀ i, i < zss.length → Reads 1 intC W W.heap.size (yss.getD i svN).A (zAt zss i)) := fun W hW i hi => by
    have q := ((h4 i hi).res.below hW).reads.1
    have e : (yss.getD i svN).xs = zAt zss i := by rw [← h2]; rfl
    rwa [e] at q
  have GI : Hid (∀ W, Below w.heap.size w W → ∀ i, i < zss.length → Reads 1 intC W W.heap.size (xss.getD i svN).A (zAt zss i)) := fun W hW i hi => by
    have q := ((g4 i hi).res.below hW).reads.1
    have e : (xss.getD i svN).xs = zAt zss i := by rw [← g2]; rfl
    rwa [e] at q
  have HX : Hid (∀ i, (yss.getD i svN).xs = zAt zss i ∧ (xss.getD i svN).xs = zAt zss i) := fun i => ⟨by rw [← h2]; rfl, by rw [← g2]; rfl⟩
  have hBl := h8.lt
  have gBl := g8.lt
  clear h1 h2 h3 h4 h5 h6 h7 h8 g1 g2 g3 g4 g5 g6 g7 g8
  generalize hn : zss.length = n at hl HC GC HI GI ⊢
  clear hn
  have hne : ((n : Int) != (n : Int)) = false := by simp
  go_enter Try.func30, Try.ntmps30
  go_wp2_with fail
  go_loopw [5] (fun t wr => ∃ i : Nat, t = .int .i64 i ∧ i ≤ n ∧ Hid (Below w.heap.size w wr)) (fun t _ => n - (intOf t).toNat)
  case atStart => exact ⟨0, rfl, Nat.zero_le _, Below.refl _ _⟩
  case round =>
    obtain ⟨i, rfl, hi, HB⟩ := hrel
    by_cases hlt : i < n
    · have hc1 := (HB.out.cell (p := ⟨B, i, none⟩) hBl).trans (HC.out i hlt)
      have hc2 := (HB.out.cell (p := ⟨B', i, none⟩) gBl).trans (GC.out i hlt)
      unfold svC at hc1 hc2
      rw [(HX.out i).1] at hc1
      rw [(HX.out i).2] at hc2
      have hbd : Below w.heap.size w wr.drew := ⟨HB.out.os, HB.out.tape, HB.out.output, HB.out.size, HB.out.block⟩
      have HR1 := Lib.hid (HI.out wr.drew hbd i hlt)
      have HR2 := Lib.hid (GI.out wr.drew hbd i hlt)
      have HBL : Hid (B < wr.drew.heap.size ∧ B' < wr.drew.heap.size) := ⟨Nat.lt_of_lt_of_le hBl hbd.size, Nat.lt_of_lt_of_le gBl hbd.size⟩
      clear hbd
      have hzi := HZ.out i
      generalize zAt zss i = xs at hc1 hc2 HR1 HR2 hzi
      generalize (yss.getD i svN).A = sA at hc1 HR1
      generalize (xss.getD i svN).A = tA at hc2 HR2
      generalize (yss.getD i svN).c = sc at hc1
      generalize (xss.getD i svN).c = tc at hc2
      have hi1 : (i : Int) < (n : Int) := by omega
      have hi0 : (0 : Int) ≤ (i : Int) := by omega
      go_upto_region 6 with fail
      go_region_held3 (fun w' => w'.cell? ⟨B, i, none⟩ = some (.slice sA xs.length sc) ∧ w'.cell? ⟨B', i, none⟩ = some (.slice tA xs.length tc)) (simp [go_sem, World.cell?_alloc_past, *])
        (first | (go_at_call 14; (with_reducible refine (eqIntS_any sA tA sc tc xs _ (by exact HR1.out) (by exact HR2.out) hzi).mono ?_); rintro e w2 ⟨rfl, hb⟩; have k1 := keepB hb (g := B) HBL.out.1; have k2 := keepB hb (g := B') HBL.out.2; have HB2 : Hid (Below w.heap.size w w2) := HB.out.trans (undrew (hb.mono HB.out.size)); clear hb))
      clear hc1 hc2 k1 k2
      go_wp2_with fail
      exact ⟨⟨i + 1, by go_num, by omega, HB2⟩, by simp [intOf]; omega⟩
    · go_wp2
      go_ret
      exact ⟨rfl, HB.out⟩
set_option maxHeartbeats 1000000 in
theorem markIntSS_any (v : Value) (k0 : Int) (zss : List SV) (w : World) (B E : Nat) (hS : SSOf w B E v zss) (hz : zss.length + lenS zss zss.length ≤ 1048576) (hk0 : 0 ≤ k0) (hk1 : k0 ≤ 900000000000) (M : Int) (hM : k0 + (lenS zss zss.length : Nat) = M) :
    Calls Try.prog 35 #[v, .int .i64 k0] w fun e w' => e = .returned (.int .i64 M) ∧ Mk B E w w' := by
  obtain ⟨yss, hs, rfl, h1, h2, h3, h4, h5, h6, h7, h8⟩ := hS
  have HX : Hid (∀ i, (yss.getD i svN).xs = zAt zss i) := fun i => by rw [← h2]; rfl
  have HLE := Lib.hid (fun k (hk : k < zss.length) => lenS_le (zss := zss) hk)
  have HI0 := Lib.hid h4
  have HRow0 := Lib.hid h8
  have HMON := Lib.hid h5
  have H3 := Lib.hid h3
  have H6 := Lib.hid h6
  clear h1 h2 h3 h4 h5 h6 h7 h8
  generalize hn : zss.length = n at hz hM HLE HI0 HRow0 HMON H6 ⊢
  clear hn
  have HRet := Lib.hid hM; clear hM
  go_enter Try.func35, Try.ntmps35
  go_wp2_with fail
  go_loopw [1, 5] (fun t u wr => ∃ (i : Nat), u = .int .i64 i ∧ i ≤ n ∧ t = .int .i64 (k0 + (lenS zss i : Nat)) ∧ Hid (wr.rowIs B 25 n (fun j => svC (yss.getD j svN) 0)) ∧ Hid (∀ k, i ≤ k → k < n → InS wr (hs k) (hs (k + 1)) (yss.getD k svN)) ∧ Hid (Mk B E w wr)) (fun _ u _ => n - (intOf u).toNat)
  case atStart => exact ⟨0, rfl, Nat.zero_le _, by simp [lenS], HRow0, fun k _ hk => HI0.out k hk, Mk.refl _ _ _⟩
  case round =>
    obtain ⟨i, rfl, hi, rfl, HRow, HI, HB⟩ := hrel
    clear HRow0 HI0
    by_cases hlt : i < n
    · have hzr := HRow.out.lt
      have hc1 := HRow.out.cell hlt
      unfold svC at hc1
      have HIi := Lib.hid (HI.out i (Nat.le_refl _) hlt)
      have hxi : (yss.getD i svN).xs.length = (zAt zss i).length := by rw [HX.out i]
      have hle := HLE.out i hlt
      have hbd := hz
      generalize hsv : yss.getD i svN = s at hc1 HIi hxi
      have HSV := Lib.hid hsv
      clear hsv
      have hs1 : lenS zss (i + 1) = lenS zss i + s.xs.length := by rw [hxi]; rfl
      have hxl : lenS zss i + s.xs.length ≤ 1048576 := by omega
      have HS1 := Lib.hid hs1
      clear hs1 hxi hle hbd
      generalize hkk : lenS zss i = q at HS1 hxl ⊢
      clear hkk
      obtain ⟨M1, hM1⟩ : ∃ M1 : Int, (k0 + (q : Nat)) + ((s.xs.length * 1 : Nat) : Int) = M1 := ⟨_, rfl⟩
      have HM1 := Lib.hid hM1
      clear hM1
      have hi1 : (i : Int) < (n : Int) := by omega
      go_wp2_with fail
      refine (markIntS_any (.slice s.A s.xs.length s.c) (k0 + (q : Nat)) s.xs wr (hs i) (hs (i + 1)) HIi.out.res HIi.out.own (by omega) (by omega) (by omega) M1 HM1.out).mono ?_
      rintro e w2 ⟨rfl, hm, -⟩
      have h0i := HMON.out 0 i (Nat.zero_le _) (by omega)
      have hin := HMON.out (i + 1) n (by omega) (Nat.le_refl _)
      have h6 := H6.out
      have h3 := H3.out
      have HMK := Lib.hid (HB.out.trans (hm.wide (B' := B) (E' := E) (by omega) (by omega)))
      have HRow2 := Lib.hid (HRow.out.of_block (hm.block B (.inl (by omega))))
      have HI2 : Hid (∀ k, i + 1 ≤ k → k < n → InS w2 (hs k) (hs (k + 1)) (yss.getD k svN)) := fun k hk1 hk2 => by
        refine (HI.out k (by omega) hk2).kept (by rw [hm.size]; exact Nat.le_refl _) fun g hg1 hg2 => hm.block g (.inr ?_)
        have := HMON.out (i + 1) k hk1 (by omega)
        omega
      clear hm h0i hin h6 h3 hc1
      go_wp2_with fail
      exact ⟨⟨i + 1, by go_num, by omega, by rw [HS1.out, ← HM1.out]; congr 1; omega, HRow2, HI2, HMK⟩, by simp [intOf]; omega⟩
    · obtain rfl : i = n := by omega
      rw [HRet.out]
      go_wp2
      go_ret
      exact ⟨rfl, HB.out⟩
end Go.Proofs.Ytdfgdeccejcpfaa
