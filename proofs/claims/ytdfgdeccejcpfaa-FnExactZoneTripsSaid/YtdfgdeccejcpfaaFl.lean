/- The program's flows: given, above, flows. -/
import Derived.Test.YtdfgdeccejcpfaaZl
namespace Go.Proofs.Ytdfgdeccejcpfaa
open Go.RowKit Go.Deep
set_option linter.unusedSimpArgs false
set_option linter.unusedVariables false

/-- What the tree's cells read as. -/
structure TreeC (w : World) (gF gP : Nat) (oA : Option Addr) (F P : List Int) (O : List Nat) : Prop where
  rF : RowL iV (-1) w gF 3 F
  rP : RowL iV (-1) w gP 3 P
  rO : Reads 1 intC w w.heap.size oA (natI O)
theorem TreeC.keep {w w' : World} {gF gP : Nat} {oA : Option Addr} {F P : List Int} {O : List Nat} (h : TreeC w gF gP oA F P O) (hb : Below w.heap.size w w') : TreeC w' gF gP oA F P O :=
  ⟨h.rF.keep hb, h.rP.keep hb, (h.rO.below hb (Nat.le_refl _)).more hb.size⟩
theorem TreeC.drew {w : World} {gF gP : Nat} {oA : Option Addr} {F P : List Int} {O : List Nat} (h : TreeC w gF gP oA F P O) : TreeC w.drew gF gP oA F P O := ⟨h.rF.drew, h.rP.drew, h.rO⟩
abbrev treeV (B : Int) (L : Value) (gF gP n : Nat) (oA : Option Addr) (m oc : Nat) : Value := .agg #[.int .i64 B, L, .slice (some ⟨gF, 0, none⟩) n n, .slice (some ⟨gP, 0, none⟩) n n, .slice oA m oc]
def gsum (bs : List R2) (F : List Int) (x : Nat) : Nat → Int
  | 0 => 0
  | k + 1 => gsum bs F x k + (if F.getD k (-1) = x then loadAt bs k else 0)
theorem gsum_all (bs : List R2) (F : List Int) (x n : Nat) : gsum bs F x n = sumN (fun k => if F.getD k (-1) = x then loadAt bs k else 0) n := by
  induction n with
  | zero => rfl
  | succ n ih => show gsum bs F x n + _ = sumN _ n + _; rw [ih]
theorem gsum_bd {bs : List R2} (h : ∀ x, 0 ≤ loadAt bs x ∧ loadAt bs x ≤ 999) (F : List Int) (x k : Nat) : 0 ≤ gsum bs F x k ∧ gsum bs F x k ≤ 999 * k := by
  induction k with
  | zero => simp [gsum]
  | succ k ih =>
    have := h k
    simp only [gsum]
    split <;> omega
set_option maxRecDepth 100000 in
set_option maxHeartbeats 4000000 in
theorem given_any (B : Int) (L : Value) (gF gP : Nat) (oA A2 : Option Addr) (m oc c2 : Nat) (bs : List R2) (F P : List Int) (O : List Nat) (x : Nat) (w : World) (hT : TreeC w gF gP oA F P O) (hF : F.length = bs.length) (hb8 : bs.length ≤ 8) (hld : ∀ x, 0 ≤ loadAt bs x ∧ loadAt bs x ≤ 999) (hR2 : Reads 2 r2C w w.heap.size A2 bs) :
    Calls Try.prog 56 #[treeV B L gF gP bs.length oA m oc, .slice A2 bs.length c2, .int .i64 (x : Int)] w fun e w' => e = .returned (.int .i64 (given bs F x)) ∧ Below w.heap.size w w' := by
  have HT := Lib.hid hT; have HR2 := Lib.hid hR2; have HLD := Lib.hid hld; have HFL := Lib.hid hF
  clear hT hR2 hld hF
  have hgv : given bs F x = gsum bs F x bs.length := by unfold given; rw [gsum_all]
  rw [hgv]
  clear hgv
  have HBX : Hid (∀ W, Below w.heap.size w W → RowL iV (-1) W gF 3 F ∧ Reads 2 r2C W w.heap.size A2 bs) := fun W h => ⟨HT.out.rF.keep h, HR2.out.below h (Nat.le_refl _)⟩
  generalize hn : bs.length = n at hb8 ⊢
  have HN := Lib.hid hn; clear hn
  go_enter Try.func56, Try.ntmps56
  have HB0 : Hid (Below w.heap.size w (w.alloc (.cells #[.int .i64 B, L, .slice (some ⟨gF, 0, none⟩) n n, .slice (some ⟨gP, 0, none⟩) n n, .slice oA m oc] 72))) := by unfold Hid; (repeat' (first | (with_reducible exact Below.refl _ _) | (with_reducible refine Below.alloc ?_ ?_ _) | (with_reducible refine Below.setCell ?_ ?_ _) | (with_reducible refine Below.drew ?_) | (refine Below.trans ?_ (Below.mono (by with_reducible assumption) ?_)) | go_size))
  go_wp2_with fail
  go_loopw [7, 13] (fun t7 t wr => ∃ (i : Nat) (T : Int), t = .int .i64 i ∧ t7 = .int .i64 T ∧ i ≤ n ∧ Hid (T = gsum bs F x i) ∧ Hid (Below w.heap.size w wr)) (fun _ t _ => n - (intOf t).toNat)
  case atStart => exact ⟨0, 0, rfl, rfl, Nat.zero_le _, rfl, HB0⟩
  case round =>
    obtain ⟨i, T, rfl, rfl, hi, HTT, HB⟩ := hrel
    clear HB0
    by_cases hlt : i < n
    · have hxb : i < bs.length := by rw [HN.out]; exact hlt
      have hxF : i < F.length := by rw [HFL.out, HN.out]; exact hlt
      obtain ⟨lb, lo, rfl, hlb, hc0, hc1⟩ := (HBX.out wr HB.out).2.at2 hxb
      have cF := (HBX.out wr HB.out).1.cell hxF
      unfold iV at cF
      have hla : loadAt bs i = bs[i].b := by unfold loadAt; rw [getD_lt hxb]
      have hlb2 := HLD.out i
      have hstep : gsum bs F x (i + 1) = gsum bs F x i + (if F.getD i (-1) = x then loadAt bs i else 0) := rfl
      generalize hzl : bs[i].b = zl at hc1 hla
      generalize F.getD i (-1) = y at cF hstep
      have hTb := gsum_bd HLD.out F x i
      rw [hla] at hstep hlb2
      rw [← HTT.out] at hTb hstep
      have HS := Lib.hid hstep
      have hi1 : (i : Int) < (n : Int) := by omega
      clear hla hstep hzl
      by_cases hy : y = (x : Int)
      · have hye : (y == (x : Int)) = true := by simp [hy]
        have HNX : Hid (T + zl = gsum bs F x (i + 1)) := by unfold Hid; rw [HS.out, if_pos hy]
        have hw : IntKind.i64.wrap (T + zl) = T + zl := IntWalk.i64_in _ (by omega)
        clear hy
        go_wp2_with fail
        exact ⟨⟨i + 1, T + zl, by go_num, rfl, by omega, HNX, HB⟩, by simp [intOf]; omega⟩
      · have hye : (y == (x : Int)) = false := by simp [hy]
        have HNX : Hid (T = gsum bs F x (i + 1)) := by unfold Hid; rw [HS.out, if_neg hy]; omega
        clear hy
        go_wp2_with fail
        exact ⟨⟨i + 1, T, by go_num, rfl, by omega, HNX, HB⟩, by simp [intOf]; omega⟩
    · obtain rfl : i = n := by omega
      go_wp2_with fail
      go_ret
      exact ⟨by rw [← HTT.out]; rfl, HB.out⟩
set_option maxRecDepth 100000 in
set_option maxHeartbeats 4000000 in
theorem above_any (B : Int) (A : Option Addr) (c gF gP n : Nat) (oA : Option Addr) (m oc : Nat) (ls : List R3) (F P : List Int) (O : List Nat) (b l : Nat) (w : World) (hN : NetP B ls) (hT : TreeC w gF gP oA F P O) (hP : P.length = n) (hb : b < n) (hl : P.getD b (-1) = (l : Int)) (hll : l < ls.length) (he : endsAt ls l b) (hR : Reads 3 r3C w w.heap.size A ls) :
    Calls Try.prog 57 #[treeV B (.slice A ls.length c) gF gP n oA m oc, .int .i64 (b : Int)] w fun e w' => e = .returned (.int .i64 (oth ls l b : Int)) ∧ Below w.heap.size w w' := by
  obtain ⟨lb, lo, rfl, hlb, hc0, hc1, hc2⟩ := hR.at3 hll
  have cP := hT.rP.cell (i := b) (by omega)
  have zP := hT.rP.lt
  unfold iV at cP
  rw [hl] at cP
  have ho := (other_eq hN hll b).1 he
  generalize hxx : ls[l] = x at hc0 hc1 hc2 ho
  have HO : Hid (otherOf ⟨x.a, x.b, x.c⟩ b = (oth ls l b : Int)) := ho
  have h1 : (b : Int) < (n : Int) := by omega
  have h2 : (l : Int) < (ls.length : Int) := by omega
  have h3 : (0 : Int) ≤ (b : Int) := by omega
  have h4 : (0 : Int) ≤ (l : Int) := by omega
  have zP1 : gP ≠ w.heap.size := by omega
  have zL1 : lb ≠ w.heap.size := by omega
  clear hN hT hP hl he ho hR hxx
  go_enter Try.func57, Try.ntmps57
  have hk0 : (w.alloc (.cells #[.int .i64 B, .slice (some ⟨lb, lo, none⟩) ls.length c, .slice (some ⟨gF, 0, none⟩) n n, .slice (some ⟨gP, 0, none⟩) n n, .slice oA m oc] 72)).cell? ⟨w.heap.size, 1, none⟩ = some (.slice (some ⟨lb, lo, none⟩) ls.length c) := (Bk.new w 72 #[.int .i64 B, .slice (some ⟨lb, lo, none⟩) ls.length c, .slice (some ⟨gF, 0, none⟩) n n, .slice (some ⟨gP, 0, none⟩) n n, .slice oA m oc]).cell 1
  have hk1 : (w.alloc (.cells #[.int .i64 B, .slice (some ⟨lb, lo, none⟩) ls.length c, .slice (some ⟨gF, 0, none⟩) n n, .slice (some ⟨gP, 0, none⟩) n n, .slice oA m oc] 72)).cell? ⟨w.heap.size, 3, none⟩ = some (.slice (some ⟨gP, 0, none⟩) n n) := (Bk.new w 72 #[.int .i64 B, .slice (some ⟨lb, lo, none⟩) ls.length c, .slice (some ⟨gF, 0, none⟩) n n, .slice (some ⟨gP, 0, none⟩) n n, .slice oA m oc]).cell 3
  have q0 := (keepB (Below.alloc (Below.refl w.heap.size w) (Nat.le_refl _) (.cells #[.int .i64 B, .slice (some ⟨lb, lo, none⟩) ls.length c, .slice (some ⟨gF, 0, none⟩) n n, .slice (some ⟨gP, 0, none⟩) n n, .slice oA m oc] 72)) (g := gP) zP b).trans cP
  have q1 := (keepB (Below.alloc (Below.refl w.heap.size w) (Nat.le_refl _) (.cells #[.int .i64 B, .slice (some ⟨lb, lo, none⟩) ls.length c, .slice (some ⟨gF, 0, none⟩) n n, .slice (some ⟨gP, 0, none⟩) n n, .slice oA m oc] 72)) (g := lb) hlb (lo + l * 3)).trans hc0
  have q2 := (keepB (Below.alloc (Below.refl w.heap.size w) (Nat.le_refl _) (.cells #[.int .i64 B, .slice (some ⟨lb, lo, none⟩) ls.length c, .slice (some ⟨gF, 0, none⟩) n n, .slice (some ⟨gP, 0, none⟩) n n, .slice oA m oc] 72)) (g := lb) hlb (lo + l * 3 + 1)).trans hc1
  have q3 := (keepB (Below.alloc (Below.refl w.heap.size w) (Nat.le_refl _) (.cells #[.int .i64 B, .slice (some ⟨lb, lo, none⟩) ls.length c, .slice (some ⟨gF, 0, none⟩) n n, .slice (some ⟨gP, 0, none⟩) n n, .slice oA m oc] 72)) (g := lb) hlb (lo + l * 3 + 2)).trans hc2
  have HB0 : Hid (Below w.heap.size w (w.alloc (.cells #[.int .i64 B, .slice (some ⟨lb, lo, none⟩) ls.length c, .slice (some ⟨gF, 0, none⟩) n n, .slice (some ⟨gP, 0, none⟩) n n, .slice oA m oc] 72))) := by unfold Hid; (repeat' (first | (with_reducible exact Below.refl _ _) | (with_reducible refine Below.alloc ?_ ?_ _) | (with_reducible refine Below.setCell ?_ ?_ _) | (with_reducible refine Below.drew ?_) | (refine Below.trans ?_ (Below.mono (by with_reducible assumption) ?_)) | go_size))
  have hzw : w.heap.size < (w.alloc (.cells #[.int .i64 B, .slice (some ⟨lb, lo, none⟩) ls.length c, .slice (some ⟨gF, 0, none⟩) n n, .slice (some ⟨gP, 0, none⟩) n n, .slice oA m oc] 72)).heap.size := by rw [World.size_alloc]; omega
  have HZW := Lib.hid hzw; clear hzw
  go_wp2_with fail
  generalize (w.alloc (.cells #[.int .i64 B, .slice (some ⟨lb, lo, none⟩) ls.length c, .slice (some ⟨gF, 0, none⟩) n n, .slice (some ⟨gP, 0, none⟩) n n, .slice oA m oc] 72)) = W at hk0 hk1 q0 q1 q2 q3 HB0 HZW ⊢
  have zW := HZW.out
  have zPW : gP < W.heap.size := by omega
  have zLW : lb < W.heap.size := by omega
  clear cP hc0 hc1 hc2
  go_region_held3 (fun w' => w'.cell? ⟨w.heap.size, 1, none⟩ = some (.slice (some ⟨lb, lo, none⟩) ls.length c) ∧ w'.cell? ⟨w.heap.size, 3, none⟩ = some (.slice (some ⟨gP, 0, none⟩) n n) ∧ w'.cell? ⟨gP, b, none⟩ = some (.int .i64 (l : Int)) ∧ w'.cell? ⟨lb, lo + l * 3, none⟩ = some (.int .i64 x.a) ∧ w'.cell? ⟨lb, lo + l * 3 + 1, none⟩ = some (.int .i64 x.b) ∧ w'.cell? ⟨lb, lo + l * 3 + 2, none⟩ = some (.int .i64 x.c)) (simp [go_sem, World.cell?_alloc_past, *])
    (first | (go_at_call 75; (with_reducible refine (other_any x.a x.b x.c b _).mono ?_); rintro e w2 ⟨rfl, hb2⟩; have k0 := keepB hb2 (g := w.heap.size) (by exact zW); have k1 := keepB hb2 (g := gP) (by exact zPW); have k2 := keepB hb2 (g := lb) (by exact zLW); have HB2 := Lib.hid hb2; clear hb2))
  rw [HO.out]
  go_wp2_with fail
  go_ret
  exact ⟨rfl, HB0.out.trans ((undrew HB2.out).mono HB0.out.size)⟩
end Go.Proofs.Ytdfgdeccejcpfaa
