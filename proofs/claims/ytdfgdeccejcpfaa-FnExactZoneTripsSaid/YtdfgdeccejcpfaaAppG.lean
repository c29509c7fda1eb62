/- append at an operation that may be guarded. No program is in sight here. -/
import Derived.Test.YtdfgdeccejcpfaaApp
namespace Go.Proofs.Ytdfgdeccejcpfaa
open Go.RowKit Go.Deep
set_option linter.unusedSimpArgs false
set_option linter.unusedVariables false
section
variable {α : Type} {P : Program} (w : World) {k : Nat} {c : α → Nat → Value}
theorem wpList_app_g {ops : Array Oper} {rest : List Oper} {o : Oper} {a : Act} {Q : Exit → Act → World → Prop} (hgd : Region.wanted o (yielded ops a.tmps) = true) (s x : Operand) (t : TypeId)
    (ho : o.op = .call { callee := .builtin .append, args := #[s, x], argTypes := #[t, t] }) (T : TypeId) (z : Value) (bytes : Nat) (ht : P.underlying t = some (.slice T)) (hi : (P.info? T).map (fun i => (i.zero, i.size, i.bytes)) = some (some z, k, bytes)) (hzs : z.cells.size = k) (hk : 0 < k) (hby : bytes ≤ 64) (h1 : ∀ (x : α) j, (c x j).oneCell' = true)
    (v : Value) (B : Nat) (xs : List α) (hs : a.eval s = v) (hown : Own k c T w B v xs) (A : Option Addr) (m cp : Nat) (ys : List α) (hx : a.eval x = .slice A m cp) (hr : Reads k c w w.heap.size A ys) (hm : m = ys.length) (hlen : xs.length + ys.length ≤ 16777216) (hB : B ≤ w.heap.size)
    (h : ∀ v' w', Own k c T w' B v' (xs ++ ys) → w.grownBy w' v.ownBlock → (v'.ownBlock = v.ownBlock ∨ v'.ownBlock = some w.heap.size) → wpList P ops Q rest (a.put o.dst v') w') : wpList P ops Q (o :: rest) a w :=
  wpList_step fun _ hK => by
    rw [if_pos hgd]; exact wp_app w s x t ho T z bytes ht hi hzs hk hby h1 v B xs hs hown A m cp ys hx hr hm hlen hB fun v' w' h2 h3 h4 => hK _ _ (h v' w' h2 h3 h4)
end
end Go.Proofs.Ytdfgdeccejcpfaa
