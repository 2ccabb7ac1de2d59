/- More words of the walk's simplifier: places behind a grown part of the store. -/
import Derived.Test.YtephecognbbaoabTm
namespace Go.Proofs.Ytephecognbbaoab
open Go
set_option linter.all false
/-- Objects are made, and written, meanwhile; all of it. -/
theorem AWP_drawL {rd : Option Nat} {P : Program} {N : Nat} {ops : List Oper} {α0 : AF} {σ : Store} {Q : Post} {id : Nat} (bs pu : Bool) (hm : P.follows .mixedOrders = true) (hB : (drawB ops ops.length && edgesBack ops && noSelect ops && decide (ops.length ≤ ops.length) && loudOrd bs ops ops.length && (!pu || allPure bs ops)) = true)
    (h : greg P N ops bs pu σ (fun α σ => Q .normal α σ) ops α0 σ) : AWPr rd P N (.region id ops.toArray true) Q α0 σ :=
  AWP_drawG bs pu ops.length hm hB (by rw [List.take_length, List.drop_length]; exact h)
theorem sc1 (τ l : Store) (a : Ob) (k : Nat) : (a :: (τ ++ l))[τ.length + (k + 1)]? = l[k]? := by rw [← Nat.add_assoc, List.getElem?_cons_succ]; exact st1 τ l k
theorem sc2 (τ l : Store) (a b : Ob) (k : Nat) : (a :: b :: (τ ++ l))[τ.length + (k + 2)]? = l[k]? := by rw [← Nat.add_assoc, List.getElem?_cons_succ, ← sc1 τ l b k]; rfl
theorem sc3 (τ l : Store) (a b c : Ob) (k : Nat) : (a :: b :: c :: (τ ++ l))[τ.length + (k + 3)]? = l[k]? := by rw [← Nat.add_assoc, List.getElem?_cons_succ, ← sc2 τ l b c k]; rfl
theorem sc4 (τ l : Store) (a b c d : Ob) (k : Nat) : (a :: b :: c :: d :: (τ ++ l))[τ.length + (k + 4)]? = l[k]? := by rw [← Nat.add_assoc, List.getElem?_cons_succ, ← sc3 τ l b c d k]; rfl
theorem ss1c (τ l : Store) (a x : Ob) (k : Nat) : (a :: (τ ++ l)).set (τ.length + (k + 1)) x = a :: (τ ++ l.set k x) := by rw [← Nat.add_assoc, List.set_cons_succ, ss1]
theorem ss2c (τ l : Store) (a b x : Ob) (k : Nat) : (a :: b :: (τ ++ l)).set (τ.length + (k + 2)) x = a :: b :: (τ ++ l.set k x) := by rw [← Nat.add_assoc, List.set_cons_succ, ← ss1c τ l b x k]; rfl
theorem ss3c (τ l : Store) (a b c x : Ob) (k : Nat) : (a :: b :: c :: (τ ++ l)).set (τ.length + (k + 3)) x = a :: b :: c :: (τ ++ l.set k x) := by rw [← Nat.add_assoc, List.set_cons_succ, ← ss2c τ l b c x k]; rfl
theorem ss4c (τ l : Store) (a b c d x : Ob) (k : Nat) : (a :: b :: c :: d :: (τ ++ l)).set (τ.length + (k + 4)) x = a :: b :: c :: d :: (τ ++ l.set k x) := by rw [← Nat.add_assoc, List.set_cons_succ, ← ss3c τ l b c d x k]; rfl
attribute [go_sem] sc1 sc2 sc3 sc4 ss1c ss2c ss3c ss4c
theorem tab_elem_arr3 : arrSize Try.prog 211 = some (1, 3) := by kernel_rfl
attribute [go_sem] tab_elem_arr3
end Go.Proofs.Ytephecognbbaoab
