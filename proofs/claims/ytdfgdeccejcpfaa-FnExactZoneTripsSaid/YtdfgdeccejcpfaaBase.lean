/- Small words for memory and for arguments that came in: a slice that reads as a list, nil let in; a struct of ints by value. No program is in sight here. -/
import Derived.WalkKit
import Derived.WalkSpells
import Derived.WalkLawsBesides
import Derived.BigGuardPart
import Derived.BigQuiet
import Derived.Deep.QuietTactic
import Derived.Deep.Slices
import Derived.Deep.Fields
import Derived.ChangeSame
import Derived.ProofKit
import Derived.OpenShut
import Derived.ChangeOld
import Derived.Below
import Derived.Lib.Hide
import Derived.Lib.SmallJoins
import Derived.Outline
import Derived.Handy
namespace Go.Proofs.Ytdfgdeccejcpfaa
open Go.RowKit Go.ChangeShapes Go.WideShapes Go.Deep
set_option linter.unusedSimpArgs false
set_option linter.unusedVariables false

theorem beqd (a b : Int) : (a == b) = decide (a = b) := by by_cases h : a = b <;> simp [h]
theorem bned (a b : Int) : (a != b) = decide (¬ a = b) := by by_cases h : a = b <;> simp [h]

/-- What a function that only makes new blocks leaves of an older block. -/
theorem keepB {W w1 : World} (hb : Below W.heap.size W w1) {g : Nat} (hg : g < W.heap.size) (i : Nat) : w1.cell? ⟨g, i, none⟩ = W.cell? ⟨g, i, none⟩ := hb.cell (p := ⟨g, i, none⟩) hg
theorem keepF {W w1 : World} (hb : Below W.heap.size W w1) {g : Nat} (hg : g < W.heap.size) (i : Nat) : w1.frozen? ⟨g, i, none⟩ = W.frozen? ⟨g, i, none⟩ := hb.frozen (p := ⟨g, i, none⟩) hg

theorem keepZ {W w1 : World} (hb : Below W.heap.size W w1) {g : Nat} (hg : g < W.heap.size) : g < w1.heap.size := Nat.lt_of_lt_of_le hg hb.size
/-- A block of four cells that is stored anew. -/
theorem set4 {W : World} {g : Nat} {x0 x1 x2 x3 y0 y1 y2 y3 : Value} (h : ∀ i, W.cell? ⟨g, i, none⟩ = #[x0, x1, x2, x3][i]?) (i : Nat) :
    ((((W.setCell ⟨g, 0, none⟩ y0).setCell ⟨g, 1, none⟩ y1).setCell ⟨g, 2, none⟩ y2).setCell ⟨g, 3, none⟩ y3).cell? ⟨g, i, none⟩ = #[y0, y1, y2, y3][i]? := by
  have ho : ∀ (W : World) (a b : Nat) (v : Value), a ≠ b → (W.setCell ⟨g, a, none⟩ v).cell? ⟨g, b, none⟩ = W.cell? ⟨g, b, none⟩ := fun W a b v hab => World.cell?_setCell_other W ⟨g, a, none⟩ ⟨g, b, none⟩ v (by simp [hab])
  have hs : ∀ (W : World) (a : Nat) (v : Value), (W.cell? ⟨g, a, none⟩).isSome = true → (W.setCell ⟨g, a, none⟩ v).cell? ⟨g, a, none⟩ = some v := fun W a v hh => World.cell?_setCell_same' W ⟨g, a, none⟩ v hh
  rcases i with _ | _ | _ | _ | i
  · rw [ho _ 3 0 _ (by omega), ho _ 2 0 _ (by omega), ho _ 1 0 _ (by omega), hs _ 0 _ (by simp [h])]; rfl
  · rw [ho _ 3 1 _ (by omega), ho _ 2 1 _ (by omega), hs _ 1 _ (by rw [ho _ 0 1 _ (by omega)]; simp [h])]; rfl
  · rw [ho _ 3 2 _ (by omega), hs _ 2 _ (by rw [ho _ 1 2 _ (by omega), ho _ 0 2 _ (by omega)]; simp [h])]; rfl
  · rw [hs _ 3 _ (by rw [ho _ 2 3 _ (by omega), ho _ 1 3 _ (by omega), ho _ 0 3 _ (by omega)]; simp [h])]; rfl
  · rw [ho _ 3 _ _ (by omega), ho _ 2 _ _ (by omega), ho _ 1 _ _ (by omega), ho _ 0 _ _ (by omega), h]; simp

/-- A slice with address A reads as the list xs, each element k cells; it lies below block B. -/
def Reads {α : Type} (k : Nat) (cells : α → Nat → Value) (w : World) (B : Nat) (A : Option Addr) (xs : List α) : Prop :=
  xs = [] ∨ ∃ b off, A = some ⟨b, off, none⟩ ∧ b < B ∧ ∀ (i : Nat) (x : α), xs[i]? = some x → ∀ j, j < k → w.cell? ⟨b, off + (i * k + j), none⟩ = some (cells x j)

def intC (x : Int) (_ : Nat) : Value := .int .i64 x
def boolC (x : Bool) (_ : Nat) : Value := .bool x
def byteC (x : Int) (_ : Nat) : Value := .int .u8 x

theorem Reads.keep {α : Type} {k : Nat} {c : α → Nat → Value} {w w' : World} {B : Nat} {A : Option Addr} {xs : List α} (h : Reads k c w B A xs)
    (hk : ∀ b o, b < B → w'.cell? ⟨b, o, none⟩ = w.cell? ⟨b, o, none⟩) : Reads k c w' B A xs := by
  rcases h with h | ⟨b, off, hA, hb, hc⟩
  · exact .inl h
  · exact .inr ⟨b, off, hA, hb, fun i x hx j hj => (hk _ _ hb).trans (hc i x hx j hj)⟩
theorem Reads.below {α : Type} {k : Nat} {c : α → Nat → Value} {w w' : World} {B B' : Nat} {A : Option Addr} {xs : List α} (h : Reads k c w B A xs)
    (hb : Below B' w w') (hB : B ≤ B') : Reads k c w' B A xs := h.keep fun b o hlt => hb.cell (p := ⟨b, o, none⟩) (Nat.lt_of_lt_of_le hlt hB)
theorem Reads.more {α : Type} {k : Nat} {c : α → Nat → Value} {w : World} {B B' : Nat} {A : Option Addr} {xs : List α} (h : Reads k c w B A xs) (hB : B ≤ B') : Reads k c w B' A xs := by
  rcases h with h | ⟨b, off, hA, hb, hc⟩
  · exact .inl h
  · exact .inr ⟨b, off, hA, Nat.lt_of_lt_of_le hb hB, hc⟩
theorem Reads.at_ {α : Type} {k : Nat} {c : α → Nat → Value} {w : World} {B : Nat} {A : Option Addr} {xs : List α} (h : Reads k c w B A xs) {i : Nat} (hi : i < xs.length) :
    ∃ b off, A = some ⟨b, off, none⟩ ∧ b < B ∧ ∀ j, j < k → w.cell? ⟨b, off + (i * k + j), none⟩ = some (c xs[i] j) := by
  rcases h with h | ⟨b, off, hA, hb, hc⟩
  · subst h; simp at hi
  · exact ⟨b, off, hA, hb, fun j hj => hc i _ (List.getElem?_eq_getElem hi) j hj⟩
/-- An element of one cell. -/
theorem Reads.at1 {α : Type} {c : α → Nat → Value} {w : World} {B : Nat} {A : Option Addr} {xs : List α} (h : Reads 1 c w B A xs) {i : Nat} (hi : i < xs.length) :
    ∃ b off, A = some ⟨b, off, none⟩ ∧ b < B ∧ w.cell? ⟨b, off + i, none⟩ = some (c xs[i] 0) := by
  obtain ⟨b, off, hA, hb, hc⟩ := h.at_ hi
  have := hc 0 (by omega)
  simp only [Nat.mul_one, Nat.add_zero] at this
  exact ⟨b, off, hA, hb, this⟩

def I64 (z : Int) : Prop := -9223372036854775808 ≤ z ∧ z ≤ 9223372036854775807
theorem i64_of_wf {z : Int} (h : (Lit.int .i64 z).wf = true) : I64 z := by
  simp [Lit.wf, IntKind.min, IntKind.max, IntKind.signed, IntKind.bits] at h
  exact ⟨by omega, by omega⟩
def U8 (z : Int) : Prop := 0 ≤ z ∧ z ≤ 255
theorem u8_of_wf {z : Int} (h : (Lit.int .u8 z).wf = true) : U8 z := by
  simp [Lit.wf, IntKind.min, IntKind.max, IntKind.signed, IntKind.bits] at h
  exact ⟨by omega, by omega⟩

section
variable {H : Type} {enc : TypeId × Value → H} {P : Program} {w : World} {base : Nat} {spare : Nat → Bool} {held : Bool}

/-- A struct whose fields are all ints: its cells. -/
theorem ints_of_struct {t : TypeId} {fs : Array Field} {fuel : Nat} {cs : List Value} {x : DataW H × List MemPlace} (ht : P.underlying t = some (.struct fs)) (hone : oneCellFields P fs = true) (hC : P.cellsOf t = fs.size)
    (hint : ∀ (i : Nat) (f : Field), fs[i]? = some f → P.underlying f.type = some (.int .i64)) (h : DataW.trod enc P w base spare held fuel t cs = some x) :
    ∃ zs : List Int, cs = zs.map (Value.int .i64) ∧ zs.length = fs.size ∧ ∀ z ∈ zs, I64 z := by
  obtain ⟨ys, n, _, _, hlen, hyl, hf⟩ := DataW.trod_struct ht h
  have hall : ∀ i (hi : i < cs.length), ∃ z : Int, cs[i] = .int .i64 z ∧ I64 z := by
    intro i hi
    have hi' : i < fs.size := by omega
    have hfi : fs[i]? = some (fs[i]'hi') := by simp [hi']
    obtain ⟨ho, hk⟩ := hone_of hone i _ hfi
    have h1 := hf i _ hfi
    rw [ho, hk] at h1
    have e1 : (cs.drop i).take 1 = [cs[i]] := by rw [List.drop_eq_getElem_cons hi]; rfl
    rw [e1, List.getElem?_eq_getElem (by omega : i < ys.length)] at h1
    obtain ⟨z, hz, _, hw⟩ := DataW.trod_int (hint i _ hfi) h1
    exact ⟨z, by simpa using hz, i64_of_wf hw⟩
  clear hf
  have : ∀ l : List Value, (∀ i (hi : i < l.length), ∃ z : Int, l[i] = .int .i64 z ∧ I64 z) → ∃ zs : List Int, l = zs.map (Value.int .i64) ∧ ∀ z ∈ zs, I64 z := by
    intro l
    induction l with
    | nil => intro _; exact ⟨[], rfl, by simp⟩
    | cons a l ih =>
      intro hl
      obtain ⟨z, hz, hw⟩ := hl 0 (by simp)
      obtain ⟨zs, e, hws⟩ := ih (fun i hi => by have := hl (i + 1) (by simpa using hi); simpa using this)
      refine ⟨z :: zs, ?_, ?_⟩
      · simp only [List.getElem_cons_zero] at hz; rw [hz, e]; rfl
      · intro y hy; rcases List.mem_cons.1 hy with rfl | hy
        · exact hw
        · exact hws y hy
  obtain ⟨zs, e, hw⟩ := this cs hall
  exact ⟨zs, e, by have : cs.length = zs.length := by rw [e]; simp
                   omega, hw⟩

/-- A slice that came in: what it reads as, element by element. -/
theorem open_row {α : Type} {t e : TypeId} {k : Nat} {cells : α → Nat → Value} (Good : α → Prop) (ht : P.underlying t = some (.slice e)) (hC : P.cellsOf e = k) (hk : 0 < k)
    (hg : ∀ (n : Nat) (cs : List Value) (y : DataW H × List MemPlace), DataW.trod enc P w 0 (fun _ => true) true n e cs = some y → ∃ x : α, Good x ∧ ∀ j, j < k → cs[j]? = some (cells x j))
    {A : Option Addr} {n c : Nat} {d : DataW H} {p : List MemPlace} (h : DataW.Trod enc P w 0 (fun _ => true) true t (.slice A n c) d p) :
    ∃ xs : List α, xs.length = n ∧ (∀ x ∈ xs, Good x) ∧ n ≤ c ∧ c ≤ maxLen ∧ Reads k cells w w.heap.size A xs := by
  obtain ⟨fuel, hf⟩ := h
  rcases open_slice ht hf with ⟨hcs, _⟩ | ⟨a, len, cap, m, f', D, Pl, hcs, _, hl, hm, hmm, _, hi⟩
  · simp [Value.cells] at hcs
    obtain ⟨rfl, rfl, rfl⟩ := hcs
    exact ⟨[], rfl, by simp, Nat.le_refl _, by unfold maxLen; omega, .inl rfl⟩
  · simp [Value.cells] at hcs
    obtain ⟨rfl, rfl, rfl⟩ := hcs
    simp only [if_true] at hmm
    subst hmm
    have hel : ∀ i, i < n → ∃ x : α, Good x ∧ ∀ j, j < k → w.cell? (a.add (i * k + j)) = some (cells x j) := by
      intro i hin
      obtain ⟨cs', hc, htr⟩ := hi i (by omega)
      obtain ⟨x, hx, hxc⟩ := hg _ _ _ htr
      rw [hC] at hc
      obtain ⟨_, _, hat⟩ := World.cells?_some hc
      exact ⟨x, hx, fun j hj => by rw [← Go.Deep.add_add, hat j hj, hxc j hj]⟩
    by_cases hn : n = 0
    · subst hn; exact ⟨[], rfl, by simp, hl, hm, .inl rfl⟩
    · obtain ⟨x0, _, hc0⟩ := hel 0 (by omega)
      have hs : a.spot = none := by
        have := World.cell?_spot (hc0 0 hk)
        simpa [Addr.add] using this
      have key : ∀ q, q ≤ n → ∃ xs : List α, xs.length = q ∧ (∀ x ∈ xs, Good x) ∧ ∀ (i : Nat) (x : α), xs[i]? = some x → ∀ j, j < k → w.cell? (a.add (i * k + j)) = some (cells x j) := by
        intro q
        induction q with
        | zero => intro _; exact ⟨[], rfl, by simp, by simp⟩
        | succ q ih =>
          intro hq
          obtain ⟨xs, hxl, hxg, hxc⟩ := ih (by omega)
          obtain ⟨x, hx, hc⟩ := hel q (by omega)
          refine ⟨xs ++ [x], by simp [hxl], ?_, ?_⟩
          · intro y hy; rcases List.mem_append.1 hy with hy | hy
            · exact hxg y hy
            · simp at hy; subst hy; exact hx
          · intro i y hy j hj
            rcases Nat.lt_or_ge i xs.length with hlt | hge
            · rw [List.getElem?_append_left hlt] at hy; exact hxc i y hy j hj
            · rw [List.getElem?_append_right hge] at hy
              have h0 : i - xs.length = 0 := by
                rcases Nat.eq_zero_or_pos (i - xs.length) with h | h
                · exact h
                · rw [List.getElem?_eq_none (by simp; omega)] at hy; cases hy
              rw [h0] at hy; simp at hy; subst hy
              have : i = q := by omega
              subst this; exact hc j hj
      obtain ⟨xs, hxl, hxg, hxc⟩ := key n (Nat.le_refl _)
      refine ⟨xs, hxl, hxg, hl, hm, .inr ⟨a.block, a.off, ?_, ?_, ?_⟩⟩
      · obtain ⟨b, o, s⟩ := a; simp at hs; subst hs; rfl
      · have hc := hc0 0 hk
        have hb : (a.add (0 * k + 0)).block < w.heap.size := by
          rcases Nat.lt_or_ge (a.add (0 * k + 0)).block w.heap.size with h | h
          · exact h
          · unfold World.cell? at hc
            rw [Array.getElem?_eq_none h] at hc
            simp at hc
        simpa [Addr.add] using hb
      · intro i x hx j hj
        have := hxc i x hx j hj
        have e : a.add (i * k + j) = ⟨a.block, a.off + (i * k + j), none⟩ := by
          unfold Addr.add
          split
          · rename_i h0; obtain ⟨b, o, s⟩ := a; simp at hs; subst hs; simp [h0]
          · rfl
        rw [← e]; exact this

theorem good_bool {e : TypeId} (he : P.underlying e = some .bool) (n : Nat) (cs : List Value) (y : DataW H × List MemPlace) (h : DataW.trod enc P w 0 (fun _ => true) true n e cs = some y) :
    ∃ x : Bool, True ∧ ∀ j, j < 1 → cs[j]? = some (boolC x j) := by
  obtain ⟨b, rfl, _⟩ := DataW.trod_bool he h
  exact ⟨b, trivial, fun j hj => by obtain rfl : j = 0 := by omega
                                    rfl⟩
theorem good_int {e : TypeId} (he : P.underlying e = some (.int .i64)) (n : Nat) (cs : List Value) (y : DataW H × List MemPlace) (h : DataW.trod enc P w 0 (fun _ => true) true n e cs = some y) :
    ∃ x : Int, I64 x ∧ ∀ j, j < 1 → cs[j]? = some (intC x j) := by
  obtain ⟨b, rfl, _, hw⟩ := DataW.trod_int he h
  exact ⟨b, i64_of_wf hw, fun j hj => by obtain rfl : j = 0 := by omega
                                         rfl⟩
theorem good_byte {e : TypeId} (he : P.underlying e = some (.int .u8)) (n : Nat) (cs : List Value) (y : DataW H × List MemPlace) (h : DataW.trod enc P w 0 (fun _ => true) true n e cs = some y) :
    ∃ x : Int, U8 x ∧ ∀ j, j < 1 → cs[j]? = some (byteC x j) := by
  obtain ⟨b, rfl, _, hw⟩ := DataW.trod_int he h
  exact ⟨b, u8_of_wf hw, fun j hj => by obtain rfl : j = 0 := by omega
                                        rfl⟩
/-- A struct of ints by value. -/
theorem open_ints_agg {r : Reach} {b0 : Nat} {t : TypeId} {fs : Array Field} {v : Value} {d : DataW H} {p : List MemPlace} (hs : P.underlying t = some (.struct fs)) (hone : oneCellFields P fs = true) (hC : P.cellsOf t = fs.size)
    (hint : ∀ (i : Nat) (f : Field), fs[i]? = some f → P.underlying f.type = some (.int .i64))
    (hv : Value.okWide P w r b0 t v) (h : DataW.Trod enc P w base spare held t v d p) : ∃ zs : List Int, v = .agg (zs.map (Value.int .i64)).toArray ∧ zs.length = fs.size ∧ ∀ z ∈ zs, I64 z := by
  obtain ⟨cs, rfl, _⟩ := okWide_struct hs hv
  obtain ⟨fuel, hf⟩ := h
  obtain ⟨zs, e, hl, hw⟩ := ints_of_struct hs hone hC hint hf
  refine ⟨zs, ?_, hl, hw⟩
  simp [Value.cells] at e
  rw [← e]
end
end Go.Proofs.Ytdfgdeccejcpfaa
