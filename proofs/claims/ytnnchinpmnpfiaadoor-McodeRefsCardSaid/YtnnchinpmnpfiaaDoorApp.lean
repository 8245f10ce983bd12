/- Append to a row of the call's own: the law that says which block may have been written. No program in sight. -/
import Derived.Test.YtnnchinpmnpfiaaDoorMem
namespace Go.Proofs.YtnnchinpmnpfiaaDoor
open Go.RowKit

theorem own_ne {w : World} {base n s : Nat} {e : TypeId} {v : Value} {xs : List Value} (h : w.ownsRow base e s v n xs) {b : Nat} (hb : b < base ∨ w.heap.size ≤ b) : some b ≠ v.ownBlock := by
  intro he
  have := h.lt b he.symm
  omega
theorem cell_far {w : World} {p : Addr} {b o : Nat} {u v : Value} (hne : p.block ≠ b) (h : w.cell? ⟨b, o, none⟩ = some v) : (w.setCell p u).cell? ⟨b, o, none⟩ = some v :=
  (World.cell?_setCell_other w p ⟨b, o, none⟩ u (fun e => hne (by rw [e]))).trans h
section
variable {P : Program} {w : World} {t e : TypeId} {size bytes base n B m c : Nat} {v : Value} {xs news : List Value} {A : Option Addr}
theorem wp_appG {o : Oper} {a : Act} {K : Act → World → Prop} {Q : Exit → Act → World → Prop} (s x : Operand) (t : TypeId)
    (ho : o.op = .call { callee := .builtin .append, args := #[s, x], argTypes := #[t, t] }) (hT : SlTy P t e size bytes)
    (hs : a.eval s = v) (hown : w.ownsRow base e size v n xs) (hx : a.eval x = .slice A m c) (hr : Reads w B size A m c news) (h1 : ∀ u ∈ news, u.oneCell' = true)
    (h63 : n + m ≤ maxLen) (hby : (n + m) * bytes ≤ 140737488355328) (hbase : base ≤ w.heap.size)
    (h : ∀ v' w', w'.ownsRow base e size v' (n + m) (xs ++ news) → w.grownBy w' v.ownBlock → K (a.put o.dst v') w') : o.wp P a w K Q := by
  obtain ⟨v', w', hrun, h2, h3⟩ := run_app (P := P) o.type hT hown hr h1 h63 hby hbase
  unfold Oper.wp
  simp [execOp, ho, resolve, invoke, builtin, hs, hx, hrun, Result.andThen]
  exact h v' w' h2 h3
theorem wpList_appG {ops : Array Oper} {rest : List Oper} {o : Oper} {a : Act} {Q : Exit → Act → World → Prop} (hgd : o.guard = none) (s x : Operand) (t : TypeId)
    (ho : o.op = .call { callee := .builtin .append, args := #[s, x], argTypes := #[t, t] }) (hT : SlTy P t e size bytes)
    (hs : a.eval s = v) (hown : w.ownsRow base e size v n xs) (hx : a.eval x = .slice A m c) (hr : Reads w B size A m c news) (h1 : ∀ u ∈ news, u.oneCell' = true)
    (h63 : n + m ≤ maxLen) (hby : (n + m) * bytes ≤ 140737488355328) (hbase : base ≤ w.heap.size)
    (h : ∀ v' w', w'.ownsRow base e size v' (n + m) (xs ++ news) → w.grownBy w' v.ownBlock → wpList P ops Q rest (a.put o.dst v') w') : wpList P ops Q (o :: rest) a w :=
  wpList_plain hgd fun _ hK => wp_appG s x t ho hT hs hown hx hr h1 h63 hby hbase fun v' w' h2 h3 => hK _ _ (h v' w' h2 h3)
theorem step_appG {ops : Array Oper} {o : Oper} {a : Act} {K : Act → World → Prop} {Q : Exit → Act → World → Prop} {E : Prop} (hgd : o.guard = none) (s x : Operand) (t : TypeId)
    (ho : o.op = .call { callee := .builtin .append, args := #[s, x], argTypes := #[t, t] }) (hT : SlTy P t e size bytes)
    (hs : a.eval s = v) (hown : w.ownsRow base e size v n xs) (hx : a.eval x = .slice A m c) (hr : Reads w B size A m c news) (h1 : ∀ u ∈ news, u.oneCell' = true)
    (h63 : n + m ≤ maxLen) (hby : (n + m) * bytes ≤ 140737488355328) (hbase : base ≤ w.heap.size)
    (h : ∀ v' w', w'.ownsRow base e size v' (n + m) (xs ++ news) → w.grownBy w' v.ownBlock → K (a.put o.dst v') w') :
    if Region.wanted o (yielded ops a.tmps) = true then Oper.wp P o a w K Q else E := by
  rw [if_pos (by simp [Region.wanted, hgd])]
  exact wp_appG s x t ho hT hs hown hx hr h1 h63 hby hbase h
end
end Go.Proofs.YtnnchinpmnpfiaaDoor
