/- Networks: validity of states, buses and zones. -/
import Derived.Test.YtdfgdeccejcpfaaZnU
import Derived.Test.YtdfgdeccejcpfaaL1
import Derived.Test.YtdfgdeccejcpfaaRow
namespace Go.Proofs.Ytdfgdeccejcpfaa
open Go.RowKit Go.Deep
set_option linter.unusedSimpArgs false
set_option linter.unusedVariables false

theorem implStateValid_any (B : Int) (A A1 : Option Addr) (c c1 : Nat) (ls : List R3) (on : List Bool) (w : World) (hR : Reads 3 r3C w w.heap.size A ls) (hl : ls.length ≤ 1048576) (hl1 : on.length ≤ 1048576) :
    Calls Try.prog 79 #[.agg #[.int .i64 B, .slice A ls.length c], .slice A1 on.length c1] w fun e w' => e = .returned (.bool (stV B ls on)) ∧ Below w.heap.size w w' := by
  have HR := Lib.hid hR
  clear hR
  by_cases hv : NetP B ls
  · have hv2 := netV_t.2 hv
    by_cases he : on.length = ls.length
    · have hs := stV_t.2 ⟨hv, he⟩
      have he2 : ((on.length : Int) == (ls.length : Int)) = true := by simp [he]
      rw [hs]
      clear hs hv he
      go_enter Try.func79, Try.ntmps79
      go_wp2_with fail; ((with_reducible refine (implNetValid_any B A c ls _ (HR.out.alloc _) hl).mono ?_); rintro e w1 ⟨rfl, hb_1⟩); have cB0_1 := keepB hb_1 (g := w.heap.size) (by go_size); have fB0_1 := keepF hb_1 (g := w.heap.size) (by go_size); have zB0_1 := keepZ hb_1 (g := w.heap.size) (by go_size); have hz_1 := hb_1.size; (try simp only [World.size_alloc, World.size_setCell, World.size_drew] at hz_1)
      go_wp2
      go_ret
      refine ⟨rfl, ?_⟩; (repeat' (first | (with_reducible exact Below.refl _ _) | (with_reducible refine Below.alloc ?_ ?_ _) | (with_reducible refine Below.setCell ?_ ?_ _) | (with_reducible refine Below.drew ?_) | (refine Below.trans ?_ (Below.mono (by with_reducible assumption) ?_)) | go_size))
    · have hs : stV B ls on = false := stV_f.2 (fun h => he h.2)
      have he2 : ((on.length : Int) == (ls.length : Int)) = false := by simp; omega
      rw [hs]
      clear hs hv he
      go_enter Try.func79, Try.ntmps79
      go_wp2_with fail; ((with_reducible refine (implNetValid_any B A c ls _ (HR.out.alloc _) hl).mono ?_); rintro e w1 ⟨rfl, hb_2⟩); have cB0_2 := keepB hb_2 (g := w.heap.size) (by go_size); have fB0_2 := keepF hb_2 (g := w.heap.size) (by go_size); have zB0_2 := keepZ hb_2 (g := w.heap.size) (by go_size); have hz_2 := hb_2.size; (try simp only [World.size_alloc, World.size_setCell, World.size_drew] at hz_2)
      go_wp2
      go_ret
      refine ⟨rfl, ?_⟩; (repeat' (first | (with_reducible exact Below.refl _ _) | (with_reducible refine Below.alloc ?_ ?_ _) | (with_reducible refine Below.setCell ?_ ?_ _) | (with_reducible refine Below.drew ?_) | (refine Below.trans ?_ (Below.mono (by with_reducible assumption) ?_)) | go_size))
  · have hv2 := netV_f.2 hv
    have hs : stV B ls on = false := stV_f.2 (fun h => hv h.1)
    rw [hs]
    clear hs hv
    go_enter Try.func79, Try.ntmps79
    go_wp2_with fail; ((with_reducible refine (implNetValid_any B A c ls _ (HR.out.alloc _) hl).mono ?_); rintro e w1 ⟨rfl, hb_3⟩); have cB0_3 := keepB hb_3 (g := w.heap.size) (by go_size); have fB0_3 := keepF hb_3 (g := w.heap.size) (by go_size); have zB0_3 := keepZ hb_3 (g := w.heap.size) (by go_size); have hz_3 := hb_3.size; (try simp only [World.size_alloc, World.size_setCell, World.size_drew] at hz_3)
    go_wp2
    go_ret
    refine ⟨rfl, ?_⟩; (repeat' (first | (with_reducible exact Below.refl _ _) | (with_reducible refine Below.alloc ?_ ?_ _) | (with_reducible refine Below.setCell ?_ ?_ _) | (with_reducible refine Below.drew ?_) | (refine Below.trans ?_ (Below.mono (by with_reducible assumption) ?_)) | go_size))
theorem powerValid_any (x : Int) (w : World) :
    Calls Try.prog 60 #[.int .i64 x] w fun e w' => e = .returned (.bool (inB x 0 999)) ∧ w = w' := by
  go_enter Try.func60, Try.ntmps60
  go_wp2
  all_goals (go_ret; refine ⟨congrArg (fun b => Ending.returned (Value.bool b)) ?_, rfl⟩)
  all_goals (simp only [inB, ← Bool.decide_and]; first | (refine (decide_eq_true ?_).symm; omega) | (refine (decide_eq_false ?_).symm; omega) | (refine decide_eq_decide.2 ?_; omega))
set_option maxHeartbeats 4000000 in
theorem implBusesValid_any (B : Int) (A A1 : Option Addr) (c c1 : Nat) (ls : List R3) (bs : List R2) (w : World) (hR : Reads 3 r3C w w.heap.size A ls) (hR1 : Reads 2 r2C w w.heap.size A1 bs) (hl : ls.length ≤ 1048576) (hl1 : bs.length ≤ 1048576) :
    Calls Try.prog 80 #[.agg #[.int .i64 B, .slice A ls.length c], .slice A1 bs.length c1] w fun e w' => e = .returned (.bool (busV B ls bs)) ∧ Below w.heap.size w w' := by
  have HR := Lib.hid hR
  have HR1 := Lib.hid hR1
  clear hR hR1
  by_cases hv : NetP B ls ∧ (bs.length : Int) = B
  · obtain ⟨hv, he⟩ := hv
    have hv2 := netV_t.2 hv
    have he2 : ((bs.length : Int) != B) = false := by simp [he]
    have h8 : (bs.length : Int) ≤ 8 := by have := hv.2.1; omega
    have HN := Lib.hid (And.intro hv he)
    clear hv he
    generalize hV : busV B ls bs = V
    have HV := Lib.hid hV; clear hV
    generalize hn : bs.length = n at hl1 he2 h8 ⊢
    have HNN := Lib.hid hn; clear hn
    go_enter Try.func80, Try.ntmps80
    go_wp2_with fail; ((with_reducible refine (implNetValid_any B A c ls _ (HR.out.alloc _) hl).mono ?_); rintro e w1 ⟨rfl, hb_1⟩); have cB0_1 := keepB hb_1 (g := w.heap.size) (by go_size); have fB0_1 := keepF hb_1 (g := w.heap.size) (by go_size); have zB0_1 := keepZ hb_1 (g := w.heap.size) (by go_size); have hz_1 := hb_1.size; (try simp only [World.size_alloc, World.size_setCell, World.size_drew] at hz_1)
    have HB1 : Hid (Below w.heap.size w w1) := by unfold Hid; (repeat' (first | (with_reducible exact Below.refl _ _) | (with_reducible refine Below.alloc ?_ ?_ _) | (with_reducible refine Below.setCell ?_ ?_ _) | (with_reducible refine Below.drew ?_) | (refine Below.trans ?_ (Below.mono (by with_reducible assumption) ?_)) | go_size))
    clear hb_1 hz_1
    go_wp2_with fail
    go_loopw [19] (fun t wr => ∃ i : Nat, t = .int .i64 i ∧ i ≤ n ∧ Hid (∀ j (hj : j < bs.length), j < i → BusOk bs[j]) ∧ Hid (Below w.heap.size w wr)) (fun t _ => n - (intOf t).toNat)
    case atStart => exact ⟨0, rfl, Nat.zero_le _, fun j _ hj => absurd hj (by omega), HB1⟩
    case round =>
      obtain ⟨i, rfl, hi, HA, HB⟩ := hrel
      clear HB1
      by_cases hlt : i < n
      · have hx : i < bs.length := by rw [HNN.out]; exact hlt
        obtain ⟨b, off, rfl, hb, hc0, hc1⟩ := HR1.out.at2 hx
        have hc0 := (HB.out.cell (p := ⟨b, off + i * 2, none⟩) hb).trans hc0
        have hc1 := (HB.out.cell (p := ⟨b, off + i * 2 + 1, none⟩) hb).trans hc1
        generalize hxx : bs[i] = x at hc0 hc1
        have HXX := Lib.hid hxx; clear hxx
        have hzw := HB.out.size
        have hi1 : (i : Int) < (n : Int) := by omega
        by_cases hok : BusOk x
        · have hok2 := hok
          unfold BusOk at hok2
          have i1 : inB x.a 0 999 = true := inB_t.2 (by omega)
          have i2 : inB x.b 0 999 = true := inB_t.2 (by omega)
          have HOK := Lib.hid hok
          clear hok2 hok
          go_wp2_with (go_at_call 60; refine (powerValid_any _ _).mono ?_; rintro e w' ⟨rfl, rfl⟩)
          refine ⟨⟨i + 1, by go_num, by omega, (fun j hj hji => ?_), by unfold Hid; have hB := HB.out; (repeat' (first | (with_reducible exact Below.refl _ _) | (with_reducible refine Below.alloc ?_ ?_ _) | (with_reducible refine Below.setCell ?_ ?_ _) | (with_reducible refine Below.drew ?_) | (refine Below.trans ?_ (Below.mono (by with_reducible assumption) ?_)) | go_size))⟩, by simp [intOf]; omega⟩
          by_cases e : j = i
          · subst e; rw [HXX.out]; exact HOK.out
          · exact HA.out j hj (by omega)
        · have HOK := Lib.hid hok; clear hok
          go_wp2_with (go_at_call 60; refine (powerValid_any _ _).mono ?_; rintro e w' ⟨rfl, rfl⟩)
          all_goals try (exfalso; apply HOK.out; unfold BusOk; simp only [Bool.not_eq_true', Bool.not_eq_false', inB_t, inB_f] at *; omega; done)
          all_goals (go_ret; have hV := HV.out; rw [busV_f.2 (fun hp => HOK.out (by rw [← HXX.out]; exact hp.2.2 _ (List.getElem_mem hx)))] at hV; refine ⟨by rw [← hV]; rfl, ?_⟩; have hB := HB.out; (repeat' (first | (with_reducible exact Below.refl _ _) | (with_reducible refine Below.alloc ?_ ?_ _) | (with_reducible refine Below.setCell ?_ ?_ _) | (with_reducible refine Below.drew ?_) | (refine Below.trans ?_ (Below.mono (by with_reducible assumption) ?_)) | go_size)))
      · go_wp2
        go_ret
        have hV := HV.out
        have hn := HNN.out
        rw [busV_t.2 ⟨HN.out.1, HN.out.2, fun x hx => by obtain ⟨j, hj, rfl⟩ := List.mem_iff_getElem.1 hx; exact HA.out j hj (by omega)⟩] at hV
        exact ⟨by rw [← hV]; rfl, HB.out⟩
  · have hs : busV B ls bs = false := busV_f.2 (fun h => hv ⟨h.1, h.2.1⟩)
    rw [hs]
    clear hs
    by_cases hv1 : NetP B ls
    · have hv2 := netV_t.2 hv1
      have he2 : ((bs.length : Int) != B) = true := by
        have : ¬ (bs.length : Int) = B := fun h => hv ⟨hv1, h⟩
        simp [this]
      clear hv hv1
      go_enter Try.func80, Try.ntmps80
      go_wp2_with fail; ((with_reducible refine (implNetValid_any B A c ls _ (HR.out.alloc _) hl).mono ?_); rintro e w1 ⟨rfl, hb_2⟩); have cB0_2 := keepB hb_2 (g := w.heap.size) (by go_size); have fB0_2 := keepF hb_2 (g := w.heap.size) (by go_size); have zB0_2 := keepZ hb_2 (g := w.heap.size) (by go_size); have hz_2 := hb_2.size; (try simp only [World.size_alloc, World.size_setCell, World.size_drew] at hz_2)
      go_wp2
      go_ret
      refine ⟨rfl, ?_⟩; (repeat' (first | (with_reducible exact Below.refl _ _) | (with_reducible refine Below.alloc ?_ ?_ _) | (with_reducible refine Below.setCell ?_ ?_ _) | (with_reducible refine Below.drew ?_) | (refine Below.trans ?_ (Below.mono (by with_reducible assumption) ?_)) | go_size))
    · have hv2 := netV_f.2 hv1
      clear hv hv1
      go_enter Try.func80, Try.ntmps80
      go_wp2_with fail; ((with_reducible refine (implNetValid_any B A c ls _ (HR.out.alloc _) hl).mono ?_); rintro e w1 ⟨rfl, hb_3⟩); have cB0_3 := keepB hb_3 (g := w.heap.size) (by go_size); have fB0_3 := keepF hb_3 (g := w.heap.size) (by go_size); have zB0_3 := keepZ hb_3 (g := w.heap.size) (by go_size); have hz_3 := hb_3.size; (try simp only [World.size_alloc, World.size_setCell, World.size_drew] at hz_3)
      go_wp2
      go_ret
      refine ⟨rfl, ?_⟩; (repeat' (first | (with_reducible exact Below.refl _ _) | (with_reducible refine Below.alloc ?_ ?_ _) | (with_reducible refine Below.setCell ?_ ?_ _) | (with_reducible refine Below.drew ?_) | (refine Below.trans ?_ (Below.mono (by with_reducible assumption) ?_)) | go_size))
theorem fedV_and (B : Int) (ls : List R3) (on : List Bool) (bs : List R2) : fedV B ls on bs = (stV B ls on && busV B ls bs) := by
  unfold fedV stV busV FedP
  by_cases h1 : NetP B ls <;> by_cases h2 : on.length = ls.length <;> by_cases h3 : BusP B bs <;> simp [h1, h2, h3]
theorem implFedValid_any (B : Int) (A A1 A2 : Option Addr) (c c1 c2 : Nat) (ls : List R3) (on : List Bool) (bs : List R2) (w : World) (hR : Reads 3 r3C w w.heap.size A ls) (hR2 : Reads 2 r2C w w.heap.size A2 bs) (hl : ls.length ≤ 1048576) (hl1 : on.length ≤ 1048576) (hl2 : bs.length ≤ 1048576) :
    Calls Try.prog 69 #[.agg #[.int .i64 B, .slice A ls.length c], .slice A1 on.length c1, .slice A2 bs.length c2] w fun e w' => e = .returned (.bool (fedV B ls on bs)) ∧ Below w.heap.size w w' := by
  have HRD : Hid (∀ W, Below w.heap.size w W → Reads 3 r3C W W.heap.size A ls ∧ Reads 2 r2C W W.heap.size A2 bs) := fun W h => ⟨(hR.below h (Nat.le_refl _)).more h.size, (hR2.below h (Nat.le_refl _)).more h.size⟩
  clear hR hR2
  rw [fedV_and]
  generalize hs : stV B ls on = s
  have HS := Lib.hid hs; clear hs
  cases s with
  | true =>
    go_enter Try.func69, Try.ntmps69
    go_wp2_with fail
    refine (implStateValid_any B A A1 c c1 ls on _ (HRD.out _ (by (repeat' (first | (with_reducible exact Below.refl _ _) | (with_reducible refine Below.alloc ?_ ?_ _) | (with_reducible refine Below.setCell ?_ ?_ _) | (with_reducible refine Below.drew ?_) | (refine Below.trans ?_ (Below.mono (by with_reducible assumption) ?_)) | go_size)))).1 hl hl1).mono ?_
    rintro e w1 ⟨rfl, hb⟩
    have cB0 := keepB hb (g := w.heap.size) (by go_size); have fB0 := keepF hb (g := w.heap.size) (by go_size); have zB0 := keepZ hb (g := w.heap.size) (by go_size)
    have HB1 : Hid (Below w.heap.size w w1) := by unfold Hid; (repeat' (first | (with_reducible exact Below.refl _ _) | (with_reducible refine Below.alloc ?_ ?_ _) | (with_reducible refine Below.setCell ?_ ?_ _) | (with_reducible refine Below.drew ?_) | (refine Below.trans ?_ (Below.mono (by with_reducible assumption) ?_)) | go_size))
    clear hb
    rw [HS.out]
    go_wp2_with fail
    refine (implBusesValid_any B A A2 c c2 ls bs _ (HRD.out _ (by have hb := HB1.out; (repeat' (first | (with_reducible exact Below.refl _ _) | (with_reducible refine Below.alloc ?_ ?_ _) | (with_reducible refine Below.setCell ?_ ?_ _) | (with_reducible refine Below.drew ?_) | (refine Below.trans ?_ (Below.mono (by with_reducible assumption) ?_)) | go_size)))).1 (HRD.out _ (by have hb := HB1.out; (repeat' (first | (with_reducible exact Below.refl _ _) | (with_reducible refine Below.alloc ?_ ?_ _) | (with_reducible refine Below.setCell ?_ ?_ _) | (with_reducible refine Below.drew ?_) | (refine Below.trans ?_ (Below.mono (by with_reducible assumption) ?_)) | go_size)))).2 hl hl2).mono ?_
    rintro e w2 ⟨rfl, hb⟩
    have hb1 := HB1.out
    go_wp2
    go_ret
    refine ⟨by simp, ?_⟩; (repeat' (first | (with_reducible exact Below.refl _ _) | (with_reducible refine Below.alloc ?_ ?_ _) | (with_reducible refine Below.setCell ?_ ?_ _) | (with_reducible refine Below.drew ?_) | (refine Below.trans ?_ (Below.mono (by with_reducible assumption) ?_)) | go_size))
  | false =>
    go_enter Try.func69, Try.ntmps69
    go_wp2_with fail
    refine (implStateValid_any B A A1 c c1 ls on _ (HRD.out _ (by (repeat' (first | (with_reducible exact Below.refl _ _) | (with_reducible refine Below.alloc ?_ ?_ _) | (with_reducible refine Below.setCell ?_ ?_ _) | (with_reducible refine Below.drew ?_) | (refine Below.trans ?_ (Below.mono (by with_reducible assumption) ?_)) | go_size)))).1 hl hl1).mono ?_
    rintro e w1 ⟨rfl, hb⟩
    rw [HS.out]
    go_wp2
    go_ret
    refine ⟨by simp, ?_⟩; (repeat' (first | (with_reducible exact Below.refl _ _) | (with_reducible refine Below.alloc ?_ ?_ _) | (with_reducible refine Below.setCell ?_ ?_ _) | (with_reducible refine Below.drew ?_) | (refine Below.trans ?_ (Below.mono (by with_reducible assumption) ?_)) | go_size))
end Go.Proofs.Ytdfgdeccejcpfaa
