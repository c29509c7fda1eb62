/- spec.l6Way. -/
import Derived.Test.YtdfgdeccejcpfaaSpI
import Derived.Test.YtdfgdeccejcpfaaTr
namespace Go.Proofs.Ytdfgdeccejcpfaa
open Go.RowKit Go.Deep
set_option linter.unusedSimpArgs false
set_option linter.unusedVariables false

theorem Leads.rk8 {ls : List R3} {on : List Bool} {bs : List R2} {p : List Int} {rk : Nat → Nat} (h : Leads ls on bs p rk) (h8 : p.length ≤ 8) {b : Nat} (hb : 0 ≤ p.getD b (-2)) : rk b < 8 := by
  have h1 := h.rank b (by omega)
  have h2 := List.count_le_length (a := true) (l := fedL p)
  have h3 : (fedL p).length = p.length := by simp [fedL]
  omega
theorem Leads.way_go {ls : List R3} {on : List Bool} {bs : List R2} {p : List Int} {rk : Nat → Nat} (h : Leads ls on bs p rk) {b : Nat} (hb : 0 ≤ p.getD b (-2)) : way ls p b = way ls p (oth ls (p.getD b (-2)).toNat b) ++ [(p.getD b (-2)).toNat] := by
  obtain ⟨W, hW, _⟩ := h.wayEx (rk (oth ls (p.getD b (-2)).toNat b) + 1) (oth ls (p.getD b (-2)).toNat b) (by omega)
  rw [way_eq hW]
  exact way_eq (.go hb hW)
theorem way_stop {ls : List R3} {p : List Int} {b : Nat} (hb : p.getD b (-2) < 0) : way ls p b = [] := way_eq (.stop hb)
theorem natI_cons (l : Nat) (O : List Nat) : natI (l :: O) = (l : Int) :: natI O := by simp [natI]
set_option maxRecDepth 100000 in
set_option maxHeartbeats 8000000 in
theorem l6Way_any (n : Nat) (A Ap : Option Addr) (c cp : Nat) (ls : List R3) (on : List Bool) (bs : List R2) (p : List Int) (rk : Nat → Nat) (b : Nat) (w : World) (hN : NetP n ls) (hle : on.length = ls.length) (hL : Leads ls on bs p rk) (hpn : p.length = n) (hb : b < n) (hR : Reads 3 r3C w w.heap.size A ls) (hRp : Reads 1 intC w w.heap.size Ap p) :
    Calls Try.prog 72 #[.agg #[.int .i64 (n : Int), .slice A ls.length c], .slice Ap n cp, .int .i64 (b : Int)] w (RetS 1 intC 3 w (natI (way ls p b))) := by
  have HR := Lib.hid hR; have HRp := Lib.hid hRp; have HL := Lib.hid hL
  have HE := Lib.hid (hN.ends hle (rfl : ((n : Nat) : Int) = n))
  have HN := Lib.hid hN
  have hn8 : n ≤ 8 := by have := hN.2.1; omega
  have HPN := Lib.hid hpn
  clear hR hRp hL hN hle hpn
  have HRD : Hid (∀ W, Below w.heap.size w W → Reads 3 r3C W W.heap.size A ls ∧ Reads 1 intC W W.heap.size Ap p) := fun W h => ⟨(HR.out.below h (Nat.le_refl _)).more h.size, (HRp.out.below h (Nat.le_refl _)).more h.size⟩
  go_enter Try.func72, Try.ntmps72
  have HK0 : Hid (Bk ((w.alloc (.cells #[.int .i64 (n : Int), .slice A ls.length c] 30)).alloc (.cells #[] 3)) w.heap.size 30 #[.int .i64 (n : Int), .slice A ls.length c]) := (Bk.new _ _ _).alloc _
  have HO0 : Hid (Own 1 intC 3 ((w.alloc (.cells #[.int .i64 (n : Int), .slice A ls.length c] 30)).alloc (.cells #[] 3)) (w.heap.size + 1) (.slice (some ⟨w.heap.size + 1, 0, none⟩) 0 0) (natI [])) := by
    have h := Own.lit (k := 1) (c := intC) (B := w.heap.size + 1) (w.alloc (.cells #[.int .i64 (n : Int), .slice A ls.length c] 30)) 3 #[] 0 (natI []) (by simp) rfl (by omega) rfl
    simp only [World.size_alloc] at h
    exact h
  have HB0 : Hid (Below w.heap.size w ((w.alloc (.cells #[.int .i64 (n : Int), .slice A ls.length c] 30)).alloc (.cells #[] 3))) := by unfold Hid; (repeat' (first | (with_reducible exact Below.refl _ _) | (with_reducible refine Below.alloc ?_ ?_ _) | (with_reducible refine Below.setCell ?_ ?_ _) | (with_reducible refine Below.drew ?_) | (refine Below.trans ?_ (Below.mono (by with_reducible assumption) ?_)) | go_size))
  go_wp2_with fail
  go_loopw [2, 7] (fun t2 t7 wr => ∃ (b' : Nat) (Wr : List Nat), t2 = .int .i64 (b' : Int) ∧ b' < n ∧ Hid (Own 1 intC 3 wr (w.heap.size + 1) t7 (natI Wr)) ∧ Hid (way ls p b = way ls p b' ++ Wr) ∧ Hid (((Wr = [] ∧ b' = b) ∨ rk b < 8) ∧ rk b' + Wr.length ≤ rk b) ∧ Hid (Bk wr w.heap.size 30 #[.int .i64 (n : Int), .slice A ls.length c]) ∧ Hid (Below w.heap.size w wr)) (fun t2 _ _ => rk (intOf t2).toNat)
  case atStart => exact ⟨b, [], rfl, hb, HO0, by unfold Hid; simp, ⟨.inl ⟨rfl, rfl⟩, by simp⟩, HK0, HB0⟩
  case round =>
    obtain ⟨b', Wr, rfl, hb', HO, HW, HI, HK, HB⟩ := hrel
    clear HO0 HK0 HB0
    have cK := HK.out.cell; have zK := HK.out.lt
    have hbp : b' < p.length := by rw [HPN.out]; exact hb'
    obtain ⟨pb, po, rfl, hpb, hpc⟩ := (HRD.out _ HB.out).2.at1 hbp
    have hpc2 : wr.cell? ⟨pb, po + b', none⟩ = some (.int .i64 (p.getD b' (-2))) := by rw [hpc, getD_lt hbp]; rfl
    clear hpc
    have hb1 : (b' : Int) < (n : Int) := by omega
    obtain ⟨x, hx⟩ : ∃ x, p.getD b' (-2) = x := ⟨_, rfl⟩
    rw [hx] at hpc2
    have HX := Lib.hid hx
    clear hx
    by_cases hx0 : 0 ≤ x
    · have hline := HL.out.line b' (by rw [HX.out]; exact hx0)
      have hwg := HL.out.way_go (by rw [HX.out]; exact hx0 : 0 ≤ p.getD b' (-2))
      have hr8 := HL.out.rk8 (by rw [HPN.out]; exact hn8) (by rw [HX.out]; exact hx0 : 0 ≤ p.getD b' (-2))
      rw [HX.out] at hline hwg
      obtain ⟨l, hl⟩ : ∃ l : Nat, x = (l : Int) := ⟨x.toNat, by omega⟩
      subst hl
      rw [Int.toNat_natCast] at hline hwg
      obtain ⟨q1, q2, q3, q4⟩ := hline
      obtain ⟨hll, hlA, hlB, hlne⟩ := HE.out l q1
      have hoB : oth ls l b' < n := by unfold oth; split <;> assumption
      have HWN : Hid (way ls p b = way ls p (oth ls l b') ++ (l :: Wr)) := by unfold Hid; rw [HW.out, hwg]; simp
      have hrk : rk b < 8 := by
        rcases HI.out.1 with ⟨_, e⟩ | h
        · rw [← e]; exact hr8
        · exact h
      have HIN : Hid ((((l :: Wr) = [] ∧ oth ls l b' = b) ∨ rk b < 8) ∧ rk (oth ls l b') + (l :: Wr).length ≤ rk b) := ⟨.inr hrk, by have := HI.out.2; simp only [List.length_cons]; omega⟩
      have hwl : (natI Wr).length ≤ 8 := by rw [natI_len]; have := HI.out.2; omega
      have HQ2 := Lib.hid q2
      have HQ4 := Lib.hid q4
      have hOE := fun W (h : Below w.heap.size w W) => specOtherEnd_any n A c ls l b' W HN.out hll q2 (HRD.out _ h).1
      obtain ⟨a, ha⟩ : ∃ a, oth ls l b' = a := ⟨_, rfl⟩
      rw [ha] at HWN HIN hoB HQ4 hOE
      have HOE := Lib.hid hOE
      clear hwg hr8 q1 q2 q3 q4 hlA hlB hlne hOE ha hrk
      obtain ⟨vA, vc, hv⟩ := HO.out.slice
      rw [natI_len] at hv
      subst hv
      have HA := Lib.hid (Own.lit (k := 1) (c := intC) (B := w.heap.size + 1) wr 3 #[.int .i64 (l : Int)] 1 [(l : Int)] (by omega) rfl (by omega) rfl)
      have HV3 := Lib.hid (HO.out.alloc (.cells #[.int .i64 (l : Int)] 3))
      have HR3 := Lib.hid (HV3.out.reads rfl).1
      go_wp2_with (first
        | (at_builtin
           refine wpList_app (k := 1) (c := intC) _ rfl _ _ _ rfl 3 (.int .i64 0) 8 Try.underlying25 (by kernel_rfl) rfl (by decide) (by decide) intC_one _ _ _ rfl HA.out _ _ _ _ rfl HR3.out ?hm ?hlen ?hB ?_
           case hm => first | rfl | simp
           case hlen => simp only [List.length_cons, List.length_nil]; omega
           case hB => rw [World.size_alloc]; omega
           intro v4 w4 hown4 hg4 hat4
           obtain ⟨A4, c4, hv4⟩ := hown4.slice
           rw [show ([(l : Int)] ++ natI Wr).length = Wr.length + 1 from by simp] at hv4
           subst hv4))
      have HB4 : Hid (Below wr.heap.size wr w4) := (Below.alloc (Below.refl _ _) (Nat.le_refl _) _).grown hg4 (by rw [World.size_alloc]; omega) (fun k hk => by injection hk with hk; subst hk; exact Nat.le_refl _)
      have HO4 : Hid (Own 1 intC 3 w4 (w.heap.size + 1) (.slice A4 (Wr.length + 1) c4) (natI (l :: Wr))) := by unfold Hid; rw [natI_cons]; exact hown4
      have HK4 := Lib.hid (HK.out.keep HB4.out)
      have HBW4 : Hid (Below w.heap.size w w4) := HB.out.trans (HB4.out.mono HB.out.size)
      have hs0 : w4.cell? ⟨w.heap.size, 0, none⟩ = some (.int .i64 (n : Int)) := HK4.out.cell 0
      have hs1 : w4.cell? ⟨w.heap.size, 1, none⟩ = some (.slice A ls.length c) := HK4.out.cell 1
      have hs2 : w4.cell? ⟨pb, po + b', none⟩ = some (.int .i64 (l : Int)) := (keepB HB4.out (g := pb) hpb (po + b')).trans hpc2
      have zK4 := HK4.out.lt
      have zp4 : pb < w4.heap.size := Nat.lt_of_lt_of_le hpb HB4.out.size
      have HBD : Hid (Below w.heap.size w w4.drew) := HBW4.out.drew
      clear cK hpc2 hown4 hg4 hat4 HA HV3 HR3
      go_region_held3 (fun w' => w'.cell? ⟨w.heap.size, 0, none⟩ = some (.int .i64 (n : Int)) ∧ w'.cell? ⟨w.heap.size, 1, none⟩ = some (.slice A ls.length c) ∧ w'.cell? ⟨pb, po + b', none⟩ = some (.int .i64 (l : Int))) (simp [go_sem, World.cell?_alloc_past, *])
        (first | (go_at_call 53; (with_reducible refine (HOE.out _ (by exact HBD.out)).mono ?_); rintro e w5 ⟨rfl, hb5⟩; have q0 := keepB hb5 (g := w.heap.size) (by exact zK4); have q1 := keepB hb5 (g := pb) (by exact zp4); have HB5 := Lib.hid hb5; clear hb5))
      have HO5 : Hid (Own 1 intC 3 w5 (w.heap.size + 1) (.slice A4 (Wr.length + 1) c4) (natI (l :: Wr))) := (HO4.out.drew).keep HB5.out
      have HK5 : Hid (Bk w5 w.heap.size 30 #[.int .i64 (n : Int), .slice A ls.length c]) := Bk.keep (w := w4.drew) HK4.out HB5.out
      have HBW5 : Hid (Below w.heap.size w w5) := HBD.out.trans (HB5.out.mono HBD.out.size)
      clear q0 q1 hs0 hs1 hs2
      go_wp2_with fail
      exact ⟨⟨a, l :: Wr, rfl, hoB, HO5, HWN, HIN, HK5, HBW5⟩, by simp only [intOf, Int.toNat_natCast]; exact HQ4.out⟩
    · have hws : way ls p b' = [] := way_stop (by rw [HX.out]; omega)
      have hres := HO.out.res
      rw [show Wr = way ls p b from by rw [HW.out, hws]; rfl] at hres
      have HXX := Lib.hid hres
      obtain ⟨vA, vc, hv⟩ := HO.out.slice
      rw [natI_len] at hv
      subst hv
      clear hws hres
      go_wp2_with fail
      go_ret
      exact ⟨_, rfl, Res.mono HXX.out (show w.heap.size ≤ w.heap.size + 1 by omega), HB.out⟩
end Go.Proofs.Ytdfgdeccejcpfaa
