/- The program's tree in memory: search. -/
import Derived.Test.YtdfgdeccejcpfaaCyc
import Derived.Test.YtdfgdeccejcpfaaAppG
import Derived.Test.YtdfgdeccejcpfaaRow
import Derived.BigRegion
namespace Go.Proofs.Ytdfgdeccejcpfaa
open Go.RowKit Go.Deep
set_option linter.unusedSimpArgs false
set_option linter.unusedVariables false

def natI (O : List Nat) : List Int := O.map fun (k : Nat) => (k : Int)
@[simp] theorem natI_len (O : List Nat) : (natI O).length = O.length := by simp [natI]
theorem natI_get (O : List Nat) {i : Nat} (h : i < (natI O).length) : (natI O)[i] = ((O.getD i 0 : Nat) : Int) := by
  have h2 : i < O.length := by simpa using h
  rw [getD_lt h2]; simp [natI]
theorem natI_snoc (O : List Nat) (x : Nat) : natI (O ++ [x]) = natI O ++ [(x : Int)] := by simp [natI]
/-- The tree in memory: its own block gt, the rows gF, gP, and the order from block B0 on. -/
structure TreeM (w : World) (B0 : Nat) (B : Int) (L : Value) (gt gF gP : Nat) (vO : Value) (F P : List Int) (O : List Nat) : Prop where
  bk : Bk w gt 72 #[.int .i64 B, L, .slice (some ⟨gF, 0, none⟩) F.length F.length, .slice (some ⟨gP, 0, none⟩) P.length P.length, vO]
  rF : RowL iV (-1) w gF 3 F
  rP : RowL iV (-1) w gP 3 P
  ow : Own 1 intC 3 w B0 vO (natI O)
structure TreeN (B0 gt gF gP : Nat) : Prop where
  a : gt < B0
  b : gF < B0
  c : gP < B0
  d : gt ≠ gF
  e : gt ≠ gP
  f : gF ≠ gP
section
variable {w w' : World} {B0 : Nat} {B : Int} {L : Value} {gt gF gP : Nat} {vO : Value} {F P : List Int} {O : List Nat}
theorem TreeM.alloc (h : TreeM w B0 B L gt gF gP vO F P O) (o : Obj) : TreeM (w.alloc o) B0 B L gt gF gP vO F P O := ⟨h.bk.alloc o, h.rF.alloc o, h.rP.alloc o, h.ow.alloc o⟩
theorem TreeM.keep (h : TreeM w B0 B L gt gF gP vO F P O) (hb : Below w.heap.size w w') : TreeM w' B0 B L gt gF gP vO F P O := ⟨h.bk.keep hb, h.rF.keep hb, h.rP.keep hb, h.ow.keep hb⟩
theorem TreeM.drewN (h : TreeM w B0 B L gt gF gP vO F P O) (n : Nat) : TreeM (w.drewN n) B0 B L gt gF gP vO F P O := ⟨h.bk.drewN n, h.rF.drewN n, h.rP.drewN n, h.ow.drewN n⟩
theorem TreeM.drew (h : TreeM w B0 B L gt gF gP vO F P O) : TreeM w.drew B0 B L gt gF gP vO F P O := ⟨h.bk, h.rF.drew, h.rP.drew, h.ow.drew⟩
theorem Own.far {α : Type} {k : Nat} {c : α → Nat → Value} {T : TypeId} {v : Value} {xs : List α} (h : Own k c T w B0 v xs) {p : Addr} (hp : p.block < B0) (u : Value) : Own k c T (w.setCell p u) B0 v xs :=
  h.keep_at (by simp [World.setCell]) rfl rfl rfl fun b hb => Below.heap_setCell w p u b (by have := (h.blk b hb).1; omega)
theorem TreeM.setF (h : TreeM w B0 B L gt gF gP vO F P O) (n : TreeN B0 gt gF gP) {i : Nat} (hi : i < F.length) (x : Int) : TreeM (w.setCell ⟨gF, i, none⟩ (.int .i64 x)) B0 B L gt gF gP vO (F.set i x) P O := by
  refine ⟨?_, h.rF.set hi x, h.rP.far (p := ⟨gF, i, none⟩) (fun e => n.f e.symm) _, h.ow.far (p := ⟨gF, i, none⟩) n.b _⟩
  rw [List.length_set]; exact h.bk.far (p := ⟨gF, i, none⟩) n.d _
theorem TreeM.setP (h : TreeM w B0 B L gt gF gP vO F P O) (n : TreeN B0 gt gF gP) {i : Nat} (hi : i < P.length) (x : Int) : TreeM (w.setCell ⟨gP, i, none⟩ (.int .i64 x)) B0 B L gt gF gP vO F (P.set i x) O := by
  refine ⟨?_, h.rF.far (p := ⟨gP, i, none⟩) n.f _, h.rP.set hi x, h.ow.far (p := ⟨gP, i, none⟩) n.c _⟩
  rw [List.length_set]; exact h.bk.far (p := ⟨gP, i, none⟩) n.e _
theorem TreeM.push (h : TreeM w B0 B L gt gF gP vO F P O) (n : TreeN B0 gt gF gP) {v' : Value} {x : Nat} (ho : Own 1 intC 3 w' B0 v' (natI O ++ [(x : Int)])) (hg : w.grownBy w' vO.ownBlock) : TreeM (w'.setCell ⟨gt, 4, none⟩ v') B0 B L gt gF gP v' F P (O ++ [x]) := by
  have hne : ∀ g, g < B0 → some g ≠ vO.ownBlock := fun g hg e => by have := (h.ow.blk g e.symm).1; omega
  refine ⟨?_, (h.rF.grown hg (hne _ n.b)).far (p := ⟨gt, 4, none⟩) (fun e => n.d e.symm) _, (h.rP.grown hg (hne _ n.c)).far (p := ⟨gt, 4, none⟩) (fun e => n.e e.symm) _, ?_⟩
  · have := (h.bk.grown hg (hne _ n.a)).set 4 v'
    simpa using this
  · rw [natI_snoc]; exact ho.far (p := ⟨gt, 4, none⟩) n.a _
theorem TreeM.bkOf (h : TreeM w B0 B L gt gF gP vO F P O) (n : TreeN B0 gt gF gP) (hg : w.grownBy w' vO.ownBlock) : Bk w' gt 72 #[.int .i64 B, L, .slice (some ⟨gF, 0, none⟩) F.length F.length, .slice (some ⟨gP, 0, none⟩) P.length P.length, vO] :=
  h.bk.grown hg (fun e => by have := (h.ow.blk gt e.symm).1; have := n.a; omega)
end
/-- All that is in the order from d0 on belongs to the feed f. -/
def SeaQ (F : List Int) (O : List Nat) (d0 : Nat) (f : Nat) : Prop := ∀ j, d0 ≤ j → j < O.length → F.getD (O.getD j 0) (-1) = (f : Int)
theorem SeaQ.add {F : List Int} {O : List Nat} {d0 f m : Nat} (h : SeaQ F O d0 f) (hm : m < F.length) : SeaQ (F.set m (f : Int)) (O ++ [m]) d0 f := by
  intro j h1 h2
  rw [getD_set]
  split
  · rfl
  · rename_i hne
    by_cases e : j < O.length
    · have e2 : (O ++ [m]).getD j 0 = O.getD j 0 := by rw [List.getD_eq_getElem?_getD, List.getElem?_append_left e, ← List.getD_eq_getElem?_getD]
      rw [e2]; exact h j h1 e
    · exfalso
      apply hne
      have : j = O.length := by simp at h2; omega
      subst this
      have e2 : (O ++ [m]).getD O.length 0 = m := by rw [List.getD_eq_getElem?_getD, List.getElem?_append_right (Nat.le_refl _)]; simp
      exact ⟨e2, hm⟩
set_option maxRecDepth 100000 in
set_option maxHeartbeats 8000000 in
theorem search_any (B : Int) (A A1 : Option Addr) (c c1 : Nat) (ls : List R3) (on : List Bool) (bs : List R2) (w : World) (BB B0 gt gF gP : Nat) (vO : Value) (F P : List Int) (O : List Nat) (f : Nat)
    (hfed : FedP B ls on bs) (hR : Reads 3 r3C w BB A ls) (hR1 : Reads 1 boolC w BB A1 on) (hn : TreeN B0 gt gF gP) (hB1 : BB ≤ gt) (hB2 : BB ≤ gF) (hB3 : BB ≤ gP) (hB4 : B0 ≤ w.heap.size) (hf : f < bs.length)
    (hM : TreeM w B0 B (.slice A ls.length c) gt gF gP vO F P O) (hS : TreeS ls on bs (f + 1) O.length F P (O ++ [f])) (hfF : F.getD f (-1) = (f : Int)) :
    Calls Try.prog 71 #[.pointer (some ⟨gt, 0, none⟩), .slice A1 on.length c1, .int .i64 (f : Int)] w fun e w' => e = .returned (.tuple #[]) ∧ Below BB w w' ∧
      ∃ vO' F' P' O', TreeM w' B0 B (.slice A ls.length c) gt gF gP vO' F' P' O' ∧ TreeS ls on bs (f + 1) O'.length F' P' O' := by
  have HR := Lib.hid hR; clear hR
  have HR1 := Lib.hid hR1; clear hR1
  have HE := Lib.hid hfed.ends
  have hlens := hfed.lens
  have HN := Lib.hid hfed.1.1
  clear hfed
  obtain ⟨hb8, hb1, hm10, hle, -⟩ := hlens
  have HLE := Lib.hid hle
  rw [hle]
  clear hle
  have HT := Lib.hid hn
  have hn1 := hn.a
  clear hn
  have HM := Lib.hid hM; have HS := Lib.hid hS
  clear hM hS
  have HFF := Lib.hid hfF; clear hfF
  generalize hm : ls.length = m at hm10 HM ⊢
  have HML := Lib.hid hm; clear hm
  generalize hbl : bs.length = n at hb8 hb1 hf
  have HNL := Lib.hid hbl; clear hbl
  have hol : O.length + 1 ≤ n := by have := HS.out.short; rw [HNL.out] at this; simpa using this
  obtain ⟨oA, oc, hov⟩ := HM.out.ow.slice
  rw [natI_len] at hov
  subst hov
  have hk := HM.out.bk
  have cG := hk.cell; have fG := hk.frozen; have zG := hk.lt
  clear hk
  generalize hol2 : O.length = d0 at hol cG ⊢
  have HOL := Lib.hid hol2; clear hol2
  have HMA : Hid (TreeM (w.alloc (.cells #[.int .i64 (f : Int)] 3)) B0 B (.slice A m c) gt gF gP (.slice oA d0 oc) F P O) := by unfold Hid; rw [← HOL.out]; have h := HM.out.alloc (.cells #[.int .i64 (f : Int)] 3); rw [HOL.out] at h ⊢; exact h
  have HOW : Hid (Own 1 intC 3 w B0 (.slice oA d0 oc) (natI O)) := by have h := HM.out.ow; rw [HOL.out] at h; exact h
  have hnl : (natI O).length = d0 := by rw [natI_len, HOL.out]
  have HNLL := Lib.hid hnl; clear hnl
  go_enter Try.func71, Try.ntmps71
  have HL_1 := Lib.hid (Own.lit (k := 1) (c := intC) (B := B0) w 3 #[.int .i64 (f : Int)] 1 [(f : Int)] (by first | exact Nat.le_refl _ | omega) rfl (by omega) rfl); have HQ_1 := Lib.hid (HL_1.out.reads rfl).1; have HV_1 := Lib.hid (Own.alloc (HOW.out) (.cells #[.int .i64 (f : Int)] 3)); have HK_1 := Lib.hid (Own.blk (HOW.out)); go_wp2_with (first | (at_builtin; refine wpList_app_g (k := 1) (c := intC) _ (by rfl) _ _ _ rfl 3 (.int .i64 0) 8 Try.underlying25 (by kernel_rfl) rfl (by decide) (by decide) intC_one _ _ _ rfl HV_1.out _ _ _ _ rfl HQ_1.out ?hm ?hlen ?hB ?_; (case hm => (first | rfl | (simp; done) | omega)); (case hlen => (simp only [List.length_cons, List.length_nil]; (have := HNLL.out ; omega))); (case hB => ((try simp only [World.size_alloc, World.size_drew]); omega)); intro v_1 w_1 hown_1 hg_1 hat_1; have HW_1 : Hid (Below (B0) (w) w_1) := (Below.alloc (Below.refl _ _) (by first | exact Nat.le_refl _ | omega) _).grown hg_1 (by (try simp only [World.size_alloc]); omega) (fun q hq => (HK_1.out q hq).1); have HG_1 := Lib.hid hg_1; have HAT_1 := Lib.hid hat_1; have HO_1 := Lib.hid hown_1; obtain ⟨A_1, c_1, hv_1⟩ := hown_1.slice; simp only [List.length_append, List.length_cons, List.length_nil, Nat.zero_add] at hv_1; subst hv_1; have hz_1 := HG_1.out.size; (try simp only [World.size_alloc] at hz_1); clear hown_1 hg_1 hat_1 HL_1 HQ_1 HV_1; have HKG := Lib.hid (HMA.out.bkOf HT.out HG_1.out) ; have cG1 := HKG.out.cell ; have fG1 := HKG.out.frozen ; have zG1 := HKG.out.lt))
  have hBB : BB ≤ B0 := by omega
  have HM1 : Hid (TreeM (w_1.setCell ⟨gt, 4, none⟩ (.slice A_1 (O.length + 1) c_1)) B0 B (.slice A m c) gt gF gP (.slice A_1 (O.length + 1) c_1) F P (O ++ [f])) := by
    have h := HO_1.out; rw [natI_len] at h
    exact HMA.out.push HT.out h HG_1.out
  have HBW1 : Hid (Below BB w (w_1.setCell ⟨gt, 4, none⟩ (.slice A_1 (O.length + 1) c_1))) := (HW_1.out.mono hBB).setCell (p := ⟨gt, 4, none⟩) hB1 _
  have HQ1 : Hid (SeaQ F (O ++ [f]) d0 f) := by
    intro j h1 h2
    have hj : j = O.length := by simp at h2; have := HOL.out; omega
    subst hj
    rw [show (O ++ [f]).getD O.length 0 = f from by rw [List.getD_eq_getElem?_getD, List.getElem?_append_right (Nat.le_refl _)]; simp]
    exact HFF.out
  have HS1 : Hid (TreeS ls on bs (f + 1) d0 F P (O ++ [f])) := by have h := HS.out; rw [HOL.out] at h; exact h
  have hd1 : d0 ≤ (O ++ [f]).length := by rw [List.length_append, HOL.out]; omega
  clear HFF HM HS HMA HOW HNLL HG_1 HW_1 HAT_1 HK_1 HO_1 HKG cG fG zG cG1 fG1 zG1 hz_1
  go_loopw [6] (fun t wr => ∃ (d : Nat) (v : Value) (F2 P2 : List Int) (O2 : List Nat), t = .int .i64 d ∧ d0 ≤ d ∧ d ≤ O2.length ∧ Hid (TreeM wr B0 B (.slice A m c) gt gF gP v F2 P2 O2) ∧ Hid (TreeS ls on bs (f + 1) d F2 P2 O2) ∧ Hid (SeaQ F2 O2 d0 f) ∧ Hid (Below BB w wr)) (fun t _ => n - (intOf t).toNat)
  case atStart => exact ⟨d0, _, F, P, O ++ [f], rfl, Nat.le_refl _, hd1, HM1, HS1, HQ1, HBW1⟩
  case round =>
    obtain ⟨d, v, F2, P2, O2, rfl, hd0, hdO, HM, HS, HQ, HB⟩ := hrel
    clear HM1 HS1 HQ1 HBW1 hd1
    obtain ⟨vA, vc, hvv⟩ := HM.out.ow.slice
    have hrd := (HM.out.ow.reads hvv).1
    rw [natI_len] at hvv
    subst hvv
    have hk := HM.out.bk
    have cG := hk.cell; have zG := hk.lt
    clear hk
    by_cases hlt : d < O2.length
    · have hlt2 : d < (natI O2).length := by simpa using hlt
      obtain ⟨ob, oo, rfl, hob, hoc⟩ := hrd.at1 hlt2
      rw [natI_get] at hoc
      unfold intC at hoc
      generalize hbd : O2.getD d 0 = b at hoc
      have HBD := Lib.hid hbd
      have hi1 : (d : Int) < (O2.length : Int) := by omega
      have hi0 : (0 : Int) ≤ (d : Int) := by omega
      have hbB : b < n := by
        have h1 : b ∈ O2 := by rw [← hbd, getD_lt hlt]; exact List.getElem_mem hlt
        have := HS.out.fedlt ((HS.out.ord b).1 h1); rw [HNL.out] at this; exact this
      have hdn : d < n := by have := HS.out.short; rw [HNL.out] at this; omega
      clear hbd hrd hlt2
      have HBJ0 : Hid (∀ j, j < 0 → isOn on j → endsAt ls j b → 0 ≤ F2.getD (oth ls j b) (-1)) := fun j hj => by omega
      go_wp2_with fail
      go_loopw [48] (fun t wr => ∃ (k : Nat) (v : Value) (F2 P2 : List Int) (O2 : List Nat), t = .int .i64 k ∧ k ≤ m ∧ d < O2.length ∧ Hid (O2.getD d 0 = b) ∧ Hid (∀ j, j < k → isOn on j → endsAt ls j b → 0 ≤ F2.getD (oth ls j b) (-1)) ∧ Hid (TreeM wr B0 B (.slice A m c) gt gF gP v F2 P2 O2) ∧ Hid (TreeS ls on bs (f + 1) d F2 P2 O2) ∧ Hid (SeaQ F2 O2 d0 f) ∧ Hid (Below BB w wr)) (fun t _ => m - (intOf t).toNat)
      case atStart => exact ⟨0, _, F2, P2, O2, rfl, Nat.zero_le _, hlt, HBD, HBJ0, HM, HS, HQ, HB⟩
      case round =>
        clear HM HS HQ HB HBD HBJ0 hoc cG zG
        obtain ⟨k, v, F3, P3, O3, rfl, hk, hdO, HBD, HBJ, HM, HS, HQ, HB⟩ := hrel
        by_cases hkm : k < m
        · have hx : k < ls.length := by rw [HML.out]; exact hkm
          have hy : k < on.length := by rw [HLE.out, HML.out]; exact hkm
          have hi1 : (k : Int) < (m : Int) := by omega
          have hi0 : (0 : Int) ≤ (k : Int) := by omega
          obtain ⟨lb, lo, rfl, hlb, hc0, hc1, hc2⟩ := HR.out.at3 hx
          have hc0 := (HB.out.cell (p := ⟨lb, lo + k * 3, none⟩) hlb).trans hc0
          have hc1 := (HB.out.cell (p := ⟨lb, lo + k * 3 + 1, none⟩) hlb).trans hc1
          have hc2 := (HB.out.cell (p := ⟨lb, lo + k * 3 + 2, none⟩) hlb).trans hc2
          obtain ⟨nb, no, rfl, hnb, hd⟩ := HR1.out.at1 hy
          have hd0 : wr.cell? ⟨nb, no + k, none⟩ = some (.bool on[k]) := (HB.out.cell (p := ⟨nb, no + k, none⟩) hnb).trans hd
          have hzw := HB.out.size
          have hzM := HM.out.bk.lt
          have hnbz : nb < wr.heap.size := by omega
          have ho : isOn on k ↔ on[k] = true := by unfold isOn; rw [getD_lt hy]
          have hot := other_eq HN.out hx b
          generalize hon : on[k] = o at hd0 ho
          have HO := Lib.hid ho
          generalize hxx : ls[k] = x at hc0 hc1 hc2 hot
          obtain ⟨z, hz⟩ : ∃ z, otherOf x b = z := ⟨_, rfl⟩
          rw [hz] at hot
          have HZ := Lib.hid hz; have HOT := Lib.hid hot
          clear hd ho hon hot hz hxx
          go_wp2_with fail
          refine (other_any x.a x.b x.c b _).mono ?_
          rintro e w2 ⟨rfl, hb2⟩
          rw [show otherOf ⟨x.a, x.b, x.c⟩ b = z from HZ.out]
          have HM2 := Lib.hid ((HM.out.alloc _).keep hb2)
          have HB2 : Hid (Below BB w w2) := (HB.out.alloc (by omega) _).trans (hb2.mono (by rw [World.size_alloc]; omega))
          have cN := keepB hb2 (g := nb) (by rw [World.size_alloc]; omega)
          have hd1 : w2.cell? ⟨nb, no + k, none⟩ = some (.bool o) := by rw [cN]; simpa [World.cell?_alloc_past, hnbz] using hd0
          clear hb2 hd0 cN hc0 hc1 hc2
          have zM2 := HM2.out.bk.lt
          have hbwz := HB2.out.size
          have hadd : ∀ {F4 P4 : List Int} {O4 : List Nat} {k' : Nat}, True := fun {_ _ _ _} => trivial
          clear hadd
          -- the line is not followed
          have HSK : Hid ((isOn on k → endsAt ls k b → 0 ≤ F3.getD (oth ls k b) (-1)) → ∀ j, j < k + 1 → isOn on j → endsAt ls j b → 0 ≤ F3.getD (oth ls j b) (-1)) := by
            intro h j hj
            by_cases e : j = k
            · subst e; exact h
            · exact HBJ.out j (by omega)
          cases o with
          | false =>
            have HKK : Hid (∀ j, j < k + 1 → isOn on j → endsAt ls j b → 0 ≤ F3.getD (oth ls j b) (-1)) := HSK.out (fun h => by have := HO.out.1 h; cases this)
            go_wp2_with fail
            exact ⟨⟨k + 1, v, F3, P3, O3, by go_num, by omega, hdO, HBD, HKK, HM2, HS, HQ, HB2⟩, by simp [intOf]; omega⟩
          | true =>
            have HON : Hid (isOn on k) := HO.out.2 rfl
            by_cases he : endsAt ls k b
            · have hzo := HOT.out.1 he
              subst hzo
              have HEA := Lib.hid he
              clear he
              have hoB : oth ls k b < n := by
                obtain ⟨_, q1, q2, _⟩ := HE.out k HON.out
                rw [HNL.out] at q1 q2
                unfold oth; split <;> assumption
              generalize hob : oth ls k b = q at hoB
              have HOB := Lib.hid hob
              have hFl : F3.length = n := by rw [HS.out.lenF]; exact HNL.out
              have hPl : P3.length = n := by rw [HS.out.lenP]; exact HNL.out
              have hq0 : (0 : Int) ≤ (q : Int) := by omega
              have hqn : (q : Int) < (n : Int) := by omega
              have cF := HM2.out.rF.cell (i := q) (by omega)
              have fF := HM2.out.rF.frozen
              have zF := HM2.out.rF.lt
              have fP := HM2.out.rP.frozen
              have zP := HM2.out.rP.lt
              have cP := HM2.out.rP.cell (i := q) (by omega)
              have cG := HM2.out.bk.cell
              rw [hFl, hPl] at cG
              unfold iV at cF cP
              obtain ⟨y, hy⟩ : ∃ y, F3.getD q (-1) = y := ⟨_, rfl⟩
              obtain ⟨yp, hyp⟩ : ∃ y, P3.getD q (-1) = y := ⟨_, rfl⟩
              rw [hy] at cF
              rw [hyp] at cP
              have HY := Lib.hid hy
              have HFP := Lib.hid (And.intro hFl hPl)
              clear hy hyp hFl hPl hob
              by_cases hyn : y < 0
              · have n1 := HT.out.f; have n2 : gP ≠ gF := fun e => n1 e.symm
                go_wp2_with fail
                go_region
                have hFb : F3.getD b (-1) = (f : Int) := by have h := HQ.out d hd0 hdO; rw [HBD.out] at h; exact h
                have HM3 : Hid (TreeM ((w2.setCell ⟨gF, q, none⟩ (.int .i64 (f : Int))).setCell ⟨gP, q, none⟩ (.int .i64 (k : Int))).drew B0 B (.slice (some ⟨lb, lo, none⟩) m c) gt gF gP v (F3.set q (f : Int)) (P3.set q (k : Int)) O3) :=
                  ((HM2.out.setF HT.out (by rw [HFP.out.1]; exact hoB) _).setP HT.out (by rw [HFP.out.2]; exact hoB) _).drew
                have HB3 : Hid (Below BB w ((w2.setCell ⟨gF, q, none⟩ (.int .i64 (f : Int))).setCell ⟨gP, q, none⟩ (.int .i64 (k : Int))).drew) :=
                  ((HB2.out.setCell (p := ⟨gF, q, none⟩) hB2 _).setCell (p := ⟨gP, q, none⟩) hB3 _).drew
                have hz3 : w2.heap.size = (((w2.setCell ⟨gF, q, none⟩ (.int .i64 (f : Int))).setCell ⟨gP, q, none⟩ (.int .i64 (k : Int))).drew).heap.size := by simp [World.setCell, World.drew]
                generalize (((w2.setCell ⟨gF, q, none⟩ (.int .i64 (f : Int))).setCell ⟨gP, q, none⟩ (.int .i64 (k : Int))).drew) = W3 at HM3 HB3 hz3 ⊢
                have hO8 : O3.length ≤ 8 := by have := HS.out.short; rw [HNL.out] at this; omega
                have hb3 : B0 ≤ W3.heap.size := by have := HM3.out.bk.lt; omega
                have HSN : Hid (TreeS ls on bs (f + 1) d (F3.set q (f : Int)) (P3.set q (k : Int)) (O3 ++ [q])) := by
                  have hbm : b ∈ O3 := by rw [← HBD.out, getD_lt hdO]; exact List.getElem_mem hdO
                  have h := HS.out.addLine HE.out hdO k HON.out b hbm HEA.out (by rw [HOB.out, HY.out]; omega)
                  rw [HOB.out, hFb] at h
                  exact h
                have HQN : Hid (SeaQ (F3.set q (f : Int)) (O3 ++ [q]) d0 f) := HQ.out.add (by rw [HFP.out.1]; exact hoB)
                have HBN : Hid ((O3 ++ [q]).getD d 0 = b) := by
                  unfold Hid; rw [List.getD_eq_getElem?_getD, List.getElem?_append_left hdO, ← List.getD_eq_getElem?_getD]; exact HBD.out
                have HJN : Hid (∀ j, j < k + 1 → isOn on j → endsAt ls j b → 0 ≤ (F3.set q (f : Int)).getD (oth ls j b) (-1)) := by
                  intro j hj hjo hje
                  rw [getD_set]
                  split
                  · omega
                  · rename_i hne
                    by_cases e : j = k
                    · subst e; exact absurd ⟨HOB.out, by rw [HFP.out.1]; exact hoB⟩ hne
                    · exact HBJ.out j (by omega) hjo hje
                clear cF fF zF fP zP cP cG hFb hzM hzw hbwz zM2 hnbz
                obtain ⟨uA, uc, huv⟩ := HM3.out.ow.slice
                rw [natI_len] at huv
                subst huv
                have hk3 := HM3.out.bk
                have cG := hk3.cell; have fG := hk3.frozen; have zG := hk3.lt
                clear hk3
                have HMX := Lib.hid (HM3.out.alloc (.cells #[.int .i64 (q : Int)] 3))
                have HL_2 := Lib.hid (Own.lit (k := 1) (c := intC) (B := B0) W3 3 #[.int .i64 (q : Int)] 1 [(q : Int)] (by first | exact Nat.le_refl _ | omega) rfl (by omega) rfl); have HQ_2 := Lib.hid (HL_2.out.reads rfl).1; have HV_2 := Lib.hid (Own.alloc (HM3.out.ow) (.cells #[.int .i64 (q : Int)] 3)); have HK_2 := Lib.hid (Own.blk (HM3.out.ow)); go_wp2_with (first | (at_builtin; refine wpList_app_g (k := 1) (c := intC) _ (by rfl) _ _ _ rfl 3 (.int .i64 0) 8 Try.underlying25 (by kernel_rfl) rfl (by decide) (by decide) intC_one _ _ _ rfl HV_2.out _ _ _ _ rfl HQ_2.out ?hm ?hlen ?hB ?_; (case hm => (first | rfl | (simp; done) | omega)); (case hlen => (simp only [List.length_cons, List.length_nil]; (have := natI_len O3 ; omega))); (case hB => ((try simp only [World.size_alloc, World.size_drew]); omega)); intro v_2 w_2 hown_2 hg_2 hat_2; have HW_2 : Hid (Below (B0) (W3) w_2) := (Below.alloc (Below.refl _ _) (by first | exact Nat.le_refl _ | omega) _).grown hg_2 (by (try simp only [World.size_alloc]); omega) (fun q hq => (HK_2.out q hq).1); have HG_2 := Lib.hid hg_2; have HAT_2 := Lib.hid hat_2; have HO_2 := Lib.hid hown_2; obtain ⟨A_2, c_2, hv_2⟩ := hown_2.slice; simp only [List.length_append, List.length_cons, List.length_nil, Nat.zero_add] at hv_2; subst hv_2; have hz_2 := HG_2.out.size; (try simp only [World.size_alloc] at hz_2); clear hown_2 hg_2 hat_2 HL_2 HQ_2 HV_2; have HKG := Lib.hid (HMX.out.bkOf HT.out HG_2.out) ; have cG2 := HKG.out.cell ; have fG2 := HKG.out.frozen ; have zG2 := HKG.out.lt))
                have HM4 : Hid (TreeM (w_2.setCell ⟨gt, 4, none⟩ (.slice A_2 (O3.length + 1) c_2)) B0 B (.slice (some ⟨lb, lo, none⟩) m c) gt gF gP (.slice A_2 (O3.length + 1) c_2) (F3.set q (f : Int)) (P3.set q (k : Int)) (O3 ++ [q])) := by
                  have h := HO_2.out; rw [natI_len] at h
                  exact HMX.out.push HT.out h HG_2.out
                have HB4 : Hid (Below BB w (w_2.setCell ⟨gt, 4, none⟩ (.slice A_2 (O3.length + 1) c_2))) := (HB3.out.trans (HW_2.out.mono hBB)).setCell (p := ⟨gt, 4, none⟩) hB1 _
                exact ⟨⟨k + 1, _, _, _, _, by go_num, by omega, by simp; omega, HBN, HJN, HM4, HSN, HQN, HB4⟩, by simp [intOf]; omega⟩
              · have HKK : Hid (∀ j, j < k + 1 → isOn on j → endsAt ls j b → 0 ≤ F3.getD (oth ls j b) (-1)) := HSK.out (fun _ _ => by rw [HOB.out, HY.out]; omega)
                go_wp2_with fail
                exact ⟨⟨k + 1, v, F3, P3, O3, by go_num, by omega, hdO, HBD, HKK, HM2, HS, HQ, HB2⟩, by simp [intOf]; omega⟩
            · have hzo := HOT.out.2 he
              subst hzo
              have HKK : Hid (∀ j, j < k + 1 → isOn on j → endsAt ls j b → 0 ≤ F3.getD (oth ls j b) (-1)) := HSK.out (fun _ h => absurd h he)
              clear he
              go_wp2_with fail
              exact ⟨⟨k + 1, v, F3, P3, O3, by go_num, by omega, hdO, HBD, HKK, HM2, HS, HQ, HB2⟩, by simp [intOf]; omega⟩
        · obtain rfl : k = m := by omega
          have HS3 : Hid (TreeS ls on bs (f + 1) (d + 1) F3 P3 O3) := by
            refine HS.out.next hdO (fun j hj hje => ?_)
            have e : O3[d] = b := by rw [← HBD.out, getD_lt hdO]
            rw [e] at hje ⊢
            exact HBJ.out j (by have := (HE.out j hj).1; rw [HML.out] at this; exact this) hj hje
          go_wp2_with fail
          exact ⟨⟨d + 1, v, F3, P3, O3, by go_num, by omega, hdO, HM, HS3, HQ, HB⟩, by simp [intOf]; omega⟩
    · obtain rfl : d = O2.length := by omega
      clear hrd
      go_wp2_with fail
      refine bodyPost_end (v := .tuple #[]) (by simp [results, Try.results71, go_sem]; try rfl) rfl ?_
      exact ⟨rfl, HB.out, _, F2, P2, O2, HM.out, HS.out⟩
end Go.Proofs.Ytdfgdeccejcpfaa
