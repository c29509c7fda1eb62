/- Ramps: hours one after the other. -/
import Derived.Test.YtcpopbkcphpdfaaDoorRmpE
namespace Go.Proofs.YtcpopbkcphpdfaaDoor
open Go.RowKit Go.Deep
set_option linter.unusedSimpArgs false
set_option linter.unusedVariables false

noncomputable def rrun (xs : List R4) (rs : List Int) : List Int → List Int → List Int × Nat
  | [], ys => (ys, 0)
  | l :: ls, ys => match rampN xs rs ys l with
    | none => (ys, 0)
    | some zs => ((rrun xs rs ls zs).1, (rrun xs rs ls zs).2 + 1)
theorem rrun_drop {xs : List R4} {rs ls ys : List Int} {i : Nat} (hi : i < ls.length) : rrun xs rs (ls.drop i) ys = match rampN xs rs ys ls[i] with
    | none => (ys, 0)
    | some zs => ((rrun xs rs (ls.drop (i + 1)) zs).1, (rrun xs rs (ls.drop (i + 1)) zs).2 + 1) := by
  rw [List.drop_eq_getElem_cons hi]; rfl
theorem rampN_some {xs : List R4} {rs ys : List Int} {L : Int} {zs : List Int} (h : rampN xs rs ys L = some zs) : rampB xs rs ys = true ∧ xs.length ≠ 0 ∧ dispO (rampL xs rs ys) L = some zs := by
  unfold rampN at h
  split at h
  · rename_i hc; exact ⟨hc.1, hc.2, h⟩
  · cases h
theorem rampN_len1 {xs : List R4} {rs ys : List Int} {L : Int} {zs : List Int} (h : rampN xs rs ys L = some zs) : zs.length ≤ 6 := by
  have := rampN_len xs rs ys L; rw [h] at this; exact this
theorem rrun_len {xs : List R4} {rs : List Int} : ∀ {ls ys : List Int}, ys.length ≤ 6 → (rrun xs rs ls ys).1.length ≤ 6
  | [], ys, h => h
  | l :: ls, ys, h => by
    unfold rrun
    split
    · exact h
    · rename_i zs hz; exact rrun_len (rampN_len1 hz)
theorem rrun_cnt {xs : List R4} {rs : List Int} : ∀ {ls ys : List Int}, (rrun xs rs ls ys).2 ≤ ls.length
  | [], ys => by simp [rrun]
  | l :: ls, ys => by
    unfold rrun
    split
    · simp
    · rename_i zs hz; have := rrun_cnt (xs := xs) (rs := rs) (ls := ls) (ys := zs); simp; omega
noncomputable def rrunO (xs : List R4) (rs ys ls : List Int) : List Int × Nat := if (rampB xs rs ys = true ∧ xs.length ≠ 0) ∧ ls.length ≤ 12 then rrun xs rs ls ys else ([], 0)
theorem rrunO_len (xs : List R4) (rs ys ls : List Int) : (rrunO xs rs ys ls).1.length ≤ 6 := by
  unfold rrunO
  split
  · rename_i h
    exact rrun_len (by have := (rampB_t.1 h.1.1).1; rw [this.2.1]; exact this.1.1)
  · simp
theorem rrun_empty {xs : List R4} {rs : List Int} (h : xs.length = 0) : ∀ {ls ys : List Int}, rrun xs rs ls ys = (ys, 0)
  | [], ys => rfl
  | l :: ls, ys => by
    have : rampN xs rs ys l = none := by unfold rampN; rw [if_neg (fun hh => hh.2 h)]
    unfold rrun; rw [this]

set_option maxRecDepth 100000 in
set_option maxHeartbeats 4000000 in
theorem implRampRun_any (A B C D : Option Addr) (c d f g : Nat) (xs : List R4) (rs ys ls : List Int) (w : World) (hR : Reads 4 r4C w w.heap.size A xs) (hT : Reads 1 intC w w.heap.size B rs) (hS : Reads 1 intC w w.heap.size C ys) (hQ : Reads 1 intC w w.heap.size D ls) (hl : xs.length ≤ 1048576) (hl1 : rs.length ≤ 1048576) (hl2 : ys.length ≤ 1048576) (hl3 : ls.length ≤ 1048576) (hg : ∀ x ∈ ls, I64 x) :
    Calls Tryd.prog 50 #[.slice A xs.length c, .slice B rs.length d, .slice C ys.length f, .slice D ls.length g] w (RetN 1 intC 3 w (rrunO xs rs ys ls).1 ((rrunO xs rs ys ls).2 : Nat)) := by
  have HR := Lib.hid hR; have HT := Lib.hid hT; have HS := Lib.hid hS; have HQ := Lib.hid hQ; have HG := Lib.hid hg; clear hR hT hS hQ hg
  by_cases hv : rampB xs rs ys = true
  · by_cases h12 : ls.length ≤ 12
    · have hO : rrunO xs rs ys ls = rrun xs rs ls ys := by
        unfold rrunO
        by_cases h0 : xs.length = 0
        · rw [if_neg (fun h => h.1.2 h0), rrun_empty h0]
          have := (rampB_t.1 hv).1.2.1
          rw [h0] at this
          rw [List.length_eq_zero_iff.1 this]
        · rw [if_pos ⟨⟨hv, h0⟩, h12⟩]
      rw [hO]; clear hO
      have h6 : ys.length ≤ 6 := by have := (rampB_t.1 hv).1; rw [this.2.1]; exact this.1.1
      generalize hV : rrun xs rs ls ys = V
      have HV := Lib.hid hV; clear hV
      go_enter Tryd.func50, Tryd.ntmps50
      go_wp2_with fail; ((with_reducible refine (rampsValid_any A B C c d f xs rs ys w HR.out HT.out HS.out hl hl1 hl2).mono ?_); rintro e w1 ⟨rfl, hb_1⟩); have hz_1 := hb_1.size; (try simp only [World.size_alloc, World.size_setCell, World.size_drew] at hz_1)
      have HB1 := Lib.hid hb_1; clear hb_1
      go_wp2_with fail
      refine (cloneInt_any C f ys w1 ((HS.out.below HB1.out (Nat.le_refl _)).more HB1.out.size) hl2).mono ?_
      rintro e w2 ⟨v2, rfl, hr2, hb2⟩
      have HR2 := Lib.hid hr2
      have HB2 : Hid (Below w.heap.size w w2) := HB1.out.trans (hb2.mono HB1.out.size)
      have hzz := HB1.out.size
      clear hb2 hr2
      generalize hn : ls.length = n at h12 hl3 ⊢
      have HN := Lib.hid hn; clear hn
      go_wp2_with fail
      go_loopw [10, 29] (fun t u wr => ∃ (i : Nat) (zs : List Int), u = .int .i64 i ∧ i ≤ n ∧ Hid (zs.length ≤ 6 ∧ ((rrun xs rs (ls.drop i) zs).1, (rrun xs rs (ls.drop i) zs).2 + i) = V) ∧ Hid (Res 1 intC 3 wr w.heap.size t zs) ∧ Hid (Below w.heap.size w wr)) (fun _ u _ => n - (intOf u).toNat)
      case atStart => exact ⟨0, ys, rfl, Nat.zero_le _, ⟨h6, by rw [List.drop_zero, Nat.add_zero]; exact HV.out⟩, HR2.out.mono hzz, HB2⟩
      case round =>
        obtain ⟨i, zs, rfl, hi, HI, HZ, HB⟩ := hrel
        clear HR2 HB2
        have hz := HZ.out
        obtain ⟨B2, d2, rfl, _⟩ := hz
        have hzl : zs.length ≤ 1048576 := by have := HI.out.1; omega
        by_cases hlt : i < n
        · have hx : i < ls.length := by rw [HN.out]; exact hlt
          obtain ⟨b, off, rfl, hb, hc'⟩ := HQ.out.at1 hx
          have hc : wr.cell? ⟨b, off + i, none⟩ = some (.int .i64 ls[i]) := (HB.out.cell (p := ⟨b, off + i, none⟩) hb).trans hc'
          clear hc'
          have hL := HG.out ls[i] (List.getElem_mem _)
          have hst := rrun_drop (xs := xs) (rs := rs) (ys := zs) hx
          have hI := HI.out.2
          rw [hst] at hI
          clear hst
          generalize ls[i] = L at hc hL hI
          have hnx := implRampNext_any A B B2 c d d2 xs rs zs L hL wr ((HR.out.below HB.out (Nat.le_refl _)).more HB.out.size) ((HT.out.below HB.out (Nat.le_refl _)).more HB.out.size) HZ.out.reads.1 hl hl1 hzl
          have hsz := HB.out.size
          cases hr : rampN xs rs zs L with
          | none =>
            rw [hr] at hnx hI
            have HNX := Lib.hid hnx; have HI2 := Lib.hid hI; clear hnx hI hr
            go_wp2_with fail
            refine HNX.out.mono ?_
            rintro e w3 ⟨v3, rfl, hr3, hb3⟩
            obtain ⟨B3, d3, rfl, _⟩ := hr3
            have HZ3 := Lib.hid (HZ.out.below hb3)
            have HB3 : Hid (Below w.heap.size w w3) := HB.out.trans (hb3.mono hsz)
            clear hb3
            go_wp2
            go_ret2
            rw [← HI2.out]
            exact ⟨_, by simp, HZ3.out, HB3.out⟩
          | some us =>
            rw [hr] at hnx hI
            have hul := rampN_len1 hr
            have HNX := Lib.hid hnx; have HI2 := Lib.hid hI; clear hnx hI hr
            go_wp2_with fail
            refine HNX.out.mono ?_
            rintro e w3 ⟨v3, rfl, hr3, hb3⟩
            have HZ3 := Lib.hid (hr3.mono hsz)
            have HB3 : Hid (Below w.heap.size w w3) := HB.out.trans (hb3.mono hsz)
            clear hb3 hr3
            go_wp2_with fail
            refine ⟨⟨i + 1, us, by go_num, by omega, ⟨hul, ?_⟩, HZ3, HB3⟩, by simp [intOf]; omega⟩
            rw [← HI2.out]; congr 1; omega
        · obtain rfl : i = n := by omega
          have hI := HI.out.2
          rw [List.drop_of_length_le (by rw [HN.out]; exact Nat.le_refl _)] at hI
          have HI2 := Lib.hid hI; clear hI
          go_wp2
          go_ret2
          rw [← HI2.out]
          exact ⟨_, by simp [rrun], HZ.out, HB.out⟩
    · have hO : rrunO xs rs ys ls = ([], 0) := by unfold rrunO; rw [if_neg (fun h => h12 h.2)]
      rw [hO]; clear hO
      have h12' : (12 : Int) < (ls.length : Int) := by omega
      go_enter Tryd.func50, Tryd.ntmps50
      go_wp2_with fail; ((with_reducible refine (rampsValid_any A B C c d f xs rs ys w HR.out HT.out HS.out hl hl1 hl2).mono ?_); rintro e w1 ⟨rfl, hb_2⟩); have hz_2 := hb_2.size; (try simp only [World.size_alloc, World.size_setCell, World.size_drew] at hz_2)
      go_wp2
      go_ret2
      exact ⟨_, rfl, Res.empty rfl rfl, hb_2⟩
  · have hO : rrunO xs rs ys ls = ([], 0) := by unfold rrunO; rw [if_neg (fun h => hv h.1.1)]
    rw [hO]; clear hO
    have hv' : rampB xs rs ys = false := by simpa using hv
    clear hv
    go_enter Tryd.func50, Tryd.ntmps50
    go_wp2_with fail; ((with_reducible refine (rampsValid_any A B C c d f xs rs ys w HR.out HT.out HS.out hl hl1 hl2).mono ?_); rintro e w1 ⟨rfl, hb_3⟩); have hz_3 := hb_3.size; (try simp only [World.size_alloc, World.size_setCell, World.size_drew] at hz_3)
    go_wp2
    go_ret2
    exact ⟨_, rfl, Res.empty rfl rfl, hb_3⟩

set_option maxRecDepth 100000 in
set_option maxHeartbeats 4000000 in
theorem specRampRun_any (A B C D : Option Addr) (c d f g : Nat) (xs : List R4) (rs ys ls : List Int) (w : World) (hR : Reads 4 r4C w w.heap.size A xs) (hT : Reads 1 intC w w.heap.size B rs) (hS : Reads 1 intC w w.heap.size C ys) (hQ : Reads 1 intC w w.heap.size D ls) (hl : xs.length ≤ 1048576) (hl1 : rs.length ≤ 1048576) (hl2 : ys.length ≤ 1048576) (hl3 : ls.length ≤ 1048576) (hg : ∀ x ∈ ls, I64 x) :
    Calls Tryd.prog 51 #[.slice A xs.length c, .slice B rs.length d, .slice C ys.length f, .slice D ls.length g] w (RetN 1 intC 3 w (rrunO xs rs ys ls).1 ((rrunO xs rs ys ls).2 : Nat)) := by
  have HR := Lib.hid hR; have HT := Lib.hid hT; have HS := Lib.hid hS; have HQ := Lib.hid hQ; have HG := Lib.hid hg; clear hR hT hS hQ hg
  have HU := Lib.hid (specRampUnits_any A B C c d f xs rs ys w HR.out HT.out HS.out hl hl1 hl2)
  by_cases hv : (rampOut xs rs ys).length = 0
  · have hO : rrunO xs rs ys ls = ([], 0) := by unfold rrunO; rw [if_neg (fun h => rampOut_len0.1 hv h.1)]
    rw [hO]; clear hO
    have hz : (((rampOut xs rs ys).length : Int) == 0) = true := by simp [hv]
    have hz2 : ((rampOut xs rs ys).length == 0) = true := by simp [hv]
    clear hv
    generalize rampOut xs rs ys = us at HU hz hz2
    go_enter Tryd.func51, Tryd.ntmps51
    go_wp2_with fail
    refine HU.out.mono ?_
    rintro e w2 ⟨v2, rfl, hr2, hb2⟩
    obtain ⟨B2, d2, rfl, _⟩ := hr2
    have hsz := hb2.size
    go_wp2
    go_ret2
    refine ⟨_, rfl, Res.empty rfl rfl, ?_⟩; (repeat' (first | (with_reducible exact Below.refl _ _) | (with_reducible refine Below.alloc ?_ ?_ _) | (with_reducible refine Below.setCell ?_ ?_ _) | (with_reducible refine Below.drew ?_) | (refine Below.trans ?_ (Below.mono (by with_reducible assumption) ?_)) | go_size))
  · have hvv : rampB xs rs ys = true ∧ xs.length ≠ 0 := Classical.byContradiction fun hh => hv (rampOut_len0.2 hh)
    have hz : (((rampOut xs rs ys).length : Int) == 0) = false := beq_eq_false_iff_ne.2 (by omega)
    have hz2 : ((rampOut xs rs ys).length == 0) = false := beq_eq_false_iff_ne.2 (by omega)
    clear hv
    generalize rampOut xs rs ys = us at HU hz hz2
    by_cases h12 : ls.length ≤ 12
    · have hO : rrunO xs rs ys ls = rrun xs rs ls ys := by unfold rrunO; rw [if_pos ⟨hvv, h12⟩]
      rw [hO]; clear hO
      have h6 : ys.length ≤ 6 := by have := (rampB_t.1 hvv.1).1; rw [this.2.1]; exact this.1.1
      generalize hV : rrun xs rs ls ys = V
      have HV := Lib.hid hV; clear hV hvv
      go_enter Tryd.func51, Tryd.ntmps51
      go_wp2_with fail
      refine HU.out.mono ?_
      rintro e w1 ⟨v2, rfl, hr2, hb2⟩
      obtain ⟨B2, d2, rfl, _⟩ := hr2
      have HB1 := Lib.hid hb2; clear hb2
      have hsz1 := HB1.out.size
      have HA := Lib.hid (Own.lit (k := 1) (c := intC) (B := w.heap.size) w1 3 #[] 0 [] hsz1 rfl (by omega) rfl)
      have HR3 : Hid (Reads 1 intC (w1.alloc (.cells #[] 3)) (w1.alloc (.cells #[] 3)).heap.size C ys) := by
        unfold Hid
        exact ((HS.out.below HB1.out (Nat.le_refl _)).below (Below.alloc (Below.refl _ _) hsz1 _) (Nat.le_refl _)).more (by rw [World.size_alloc]; omega)
      generalize hn : ls.length = n at h12 hl3 ⊢
      have HN := Lib.hid hn; clear hn
      go_wp2_with (first
        | (at_builtin
           refine wpList_app (k := 1) (c := intC) _ rfl _ _ _ rfl 3 (.int .i64 0) 8 Tryd.underlying30 (by kernel_rfl) rfl (by decide) (by decide) intC_one _ _ _ rfl HA.out _ _ _ _ rfl HR3.out ?hm ?hlen ?hB ?_
           case hm => rfl
           case hlen => simp only [List.length_nil]; omega
           case hB => rw [World.size_alloc]; omega
           intro v4 w4 hown4 hg4 hat4
           have HZ4 := Lib.hid hown4.res
           have HB4 : Hid (Below w.heap.size w w4) := (HB1.out.alloc hsz1 _).grown hg4 (by rw [World.size_alloc]; omega) (fun k hk => by injection hk with hk; subst hk; exact hsz1)
           clear hown4 hg4 hat4))
      go_loopw [10, 11] (fun t u wr => ∃ (i : Nat) (zs : List Int), u = .int .i64 i ∧ i ≤ n ∧ Hid (zs.length ≤ 6 ∧ ((rrun xs rs (ls.drop i) zs).1, (rrun xs rs (ls.drop i) zs).2 + i) = V) ∧ Hid (Res 1 intC 3 wr w.heap.size t zs) ∧ Hid (Below w.heap.size w wr)) (fun _ u _ => n - (intOf u).toNat)
      case atStart => exact ⟨0, ys, rfl, Nat.zero_le _, ⟨h6, by rw [List.drop_zero, Nat.add_zero]; exact HV.out⟩, HZ4, HB4⟩
      case round =>
        obtain ⟨i, zs, rfl, hi, HI, HZ, HB⟩ := hrel
        clear HZ4 HB4 HA HR3
        have hz := HZ.out
        obtain ⟨B2, d2, rfl, _⟩ := hz
        have hzl : zs.length ≤ 1048576 := by have := HI.out.1; omega
        by_cases hlt : i < n
        · have hx : i < ls.length := by rw [HN.out]; exact hlt
          obtain ⟨b, off, rfl, hb, hc'⟩ := HQ.out.at1 hx
          have hc : wr.cell? ⟨b, off + i, none⟩ = some (.int .i64 ls[i]) := (HB.out.cell (p := ⟨b, off + i, none⟩) hb).trans hc'
          clear hc'
          have hL := HG.out ls[i] (List.getElem_mem _)
          have hst := rrun_drop (xs := xs) (rs := rs) (ys := zs) hx
          have hI := HI.out.2
          rw [hst] at hI
          clear hst
          generalize ls[i] = L at hc hL hI
          have hnx := specRampNext_any A B B2 c d d2 xs rs zs L hL wr ((HR.out.below HB.out (Nat.le_refl _)).more HB.out.size) ((HT.out.below HB.out (Nat.le_refl _)).more HB.out.size) HZ.out.reads.1 hl hl1 hzl
          have hsz := HB.out.size
          cases hr : rampN xs rs zs L with
          | none =>
            rw [hr] at hnx hI
            have HNX := Lib.hid hnx; have HI2 := Lib.hid hI; clear hnx hI hr
            go_wp2_with fail
            refine HNX.out.mono ?_
            rintro e w3 ⟨v3, rfl, hr3, hb3⟩
            obtain ⟨B3, d3, rfl, _⟩ := hr3
            have HZ3 := Lib.hid (HZ.out.below hb3)
            have HB3 : Hid (Below w.heap.size w w3) := HB.out.trans (hb3.mono hsz)
            clear hb3
            go_wp2
            go_ret2
            rw [← HI2.out]
            exact ⟨_, by simp, HZ3.out, HB3.out⟩
          | some us =>
            rw [hr] at hnx hI
            have hul := rampN_len1 hr
            have HNX := Lib.hid hnx; have HI2 := Lib.hid hI; clear hnx hI hr
            go_wp2_with fail
            refine HNX.out.mono ?_
            rintro e w3 ⟨v3, rfl, hr3, hb3⟩
            have HZ3 := Lib.hid (hr3.mono hsz)
            have HB3 : Hid (Below w.heap.size w w3) := HB.out.trans (hb3.mono hsz)
            clear hb3 hr3
            go_wp2_with fail
            refine ⟨⟨i + 1, us, by go_num, by omega, ⟨hul, ?_⟩, HZ3, HB3⟩, by simp [intOf]; omega⟩
            rw [← HI2.out]; congr 1; omega
        · obtain rfl : i = n := by omega
          have hI := HI.out.2
          rw [List.drop_of_length_le (by rw [HN.out]; exact Nat.le_refl _)] at hI
          have HI2 := Lib.hid hI; clear hI
          go_wp2
          go_ret2
          rw [← HI2.out]
          exact ⟨_, by simp [rrun], HZ.out, HB.out⟩
    · have hO : rrunO xs rs ys ls = ([], 0) := by unfold rrunO; rw [if_neg (fun h => h12 h.2)]
      rw [hO]; clear hO
      have h12' : (12 : Int) < (ls.length : Int) := by omega
      go_enter Tryd.func51, Tryd.ntmps51
      go_wp2_with fail
      refine HU.out.mono ?_
      rintro e w2 ⟨v2, rfl, hr2, hb2⟩
      obtain ⟨B2, d2, rfl, _⟩ := hr2
      have hsz := hb2.size
      go_wp2
      go_ret2
      refine ⟨_, rfl, Res.empty rfl rfl, ?_⟩; (repeat' (first | (with_reducible exact Below.refl _ _) | (with_reducible refine Below.alloc ?_ ?_ _) | (with_reducible refine Below.setCell ?_ ?_ _) | (with_reducible refine Below.drew ?_) | (refine Below.trans ?_ (Below.mono (by with_reducible assumption) ?_)) | go_size))
end Go.Proofs.YtcpopbkcphpdfaaDoor
