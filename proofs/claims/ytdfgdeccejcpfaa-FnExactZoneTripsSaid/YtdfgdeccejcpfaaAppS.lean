/- append as one step of a region that draws its order. -/
import Derived.Test.YtdfgdeccejcpfaaAppG
import Derived.Deep.AppendLies
namespace Go.Proofs.Ytdfgdeccejcpfaa
open Go.RowKit Go.Deep
section
variable {P : Program} {α : Type} {k : Nat} {c : α → Nat → Value} (w : World)
theorem step_app_g {ops : Array Oper} {o : Oper} {a : Act} {K : Act → World → Prop} {Q : Exit → Act → World → Prop} {E : Prop} (hgd : o.guard = none) (s x : Operand) (t : TypeId)
    (ho : o.op = .call { callee := .builtin .append, args := #[s, x], argTypes := #[t, t] }) (T : TypeId) (z : Value) (bytes : Nat) (ht : P.underlying t = some (.slice T)) (hi : (P.info? T).map (fun i => (i.zero, i.size, i.bytes)) = some (some z, k, bytes)) (hzs : z.cells.size = k) (hk : 0 < k) (hby : bytes ≤ 64) (h1 : ∀ (x : α) j, (c x j).oneCell' = true)
    (v : Value) (B : Nat) (xs : List α) (hs : a.eval s = v) (hown : Own k c T w B v xs) (A : Option Addr) (m cp : Nat) (ys : List α) (hx : a.eval x = .slice A m cp) (hr : Reads k c w w.heap.size A ys) (hm : m = ys.length) (hlen : xs.length + ys.length ≤ 16777216) (hB : B ≤ w.heap.size)
    (h : ∀ v' w', Own k c T w' B v' (xs ++ ys) → w.grownBy w' v.ownBlock → (v'.ownBlock = v.ownBlock ∨ v'.ownBlock = some w.heap.size) → K (a.put o.dst v') w') :
    if Region.wanted o (yielded ops a.tmps) = true then Oper.wp P o a w K Q else E := by
  have hw : Region.wanted o (yielded ops a.tmps) = true := by simp [Region.wanted, hgd]
  rw [if_pos hw]
  exact wp_app w s x t ho T z bytes ht hi hzs hk hby h1 v B xs hs hown A m cp ys hx hr hm hlen hB h
end
end Go.Proofs.Ytdfgdeccejcpfaa
