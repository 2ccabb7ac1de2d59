/- The words of the walk's simplifier. -/
import Derived.Test.YtephecognbbaoaaGr
namespace Go.Proofs.Ytephecognbbaoaa
open Go
set_option linter.all false
attribute [go_sem ↓] on_some splitB_true splitB_false areg_nil areg_cons kreg_nil kreg_cons mreg_nil mreg_cons greg_nil greg_cons gop_t gop_f breg_nil breg_cons gateA_none gateA_some gateV_t gateV_f gateV_u putA_some putA_none
attribute [go_sem] look lenTy Option.isSome_some List.length_map Int.toNat_natCast enterA true_and and_true List.getElem?_cons_zero List.getElem?_cons_succ List.getElem?_nil List.drop_zero List.drop_succ_cons List.drop_nil List.take_succ_cons List.take_zero Option.bind_some Option.bind_none Option.map_some decide_true decide_false Bool.not_true Bool.not_false forall_const reduceCtorEq Option.some.injEq List.cons_append List.nil_append List.append_assoc Bool.true_eq_false Bool.false_eq_true false_implies implies_true not_true_eq_false not_false_eq_true and_false false_and or_true true_or or_false false_or ne_eq true_implies List.length_cons List.length_nil List.length_append Nat.add_assoc Nat.zero_add
  decide_eq_true_eq decide_eq_false_iff_not Bool.and_eq_true Bool.or_eq_true beq_iff_eq bne_iff_ne beq_eq_false_iff_ne bne_eq_false_iff_eq Bool.not_eq_true' Bool.not_eq_false' Int.not_le Int.not_lt ge_iff_le gt_iff_lt Bool.and_eq_false_iff Bool.or_eq_false_iff Bool.not_eq_true Bool.not_eq_false
  writes dsts keep List.elem_cons List.elem_nil alls alls_app on_map binT binN nilT copyA pass_eq AOpK AOpM upto uptoA isAlloc Bool.true_and Bool.false_and Bool.and_true Bool.and_false loud eqCells keyV intCells insertA lookupA mapA ansA isMap
attribute [go_sem] AOpB AOpD loudG isWr uptoW Grown_self Grown_app Grown_pu
attribute [go_sem] Grown_f Pre_app Pre_cons Pre_nil Pre_self Pre_self2
attribute [go_sem] DK NK KK Bool.false_or Bool.true_or
attribute [go_sem] Nat.reduceLT Nat.reduceEqDiff Nat.reduceBEq Nat.reduceAdd Nat.reduceSub Nat.reduceLeDiff Nat.reduceMul Int.reduceAdd Int.reduceSub Int.reduceMul Int.reduceLT Int.reduceLE Int.reduceEq Int.reduceNe Int.reduceToNat Int.reduceNeg
attribute [go_sem ↓] reduceIte
theorem on_map0 {X : Type} [Inhabited X] (f : X → List AV) (l : List X) (K : List AV → Prop) : on (l.map f)[0]? K = (0 < l.length ∧ K (f (at0 l 0))) := on_map f l 0 K
theorem on_map1 {X : Type} [Inhabited X] (f : X → List AV) (l : List X) (K : List AV → Prop) : on (l.map f)[1]? K = (1 < l.length ∧ K (f (at0 l 1))) := on_map f l 1 K
theorem on_map2 {X : Type} [Inhabited X] (f : X → List AV) (l : List X) (K : List AV → Prop) : on (l.map f)[2]? K = (2 < l.length ∧ K (f (at0 l 2))) := on_map f l 2 K
theorem on_map3 {X : Type} [Inhabited X] (f : X → List AV) (l : List X) (K : List AV → Prop) : on (l.map f)[3]? K = (3 < l.length ∧ K (f (at0 l 3))) := on_map f l 3 K
attribute [go_sem] on_map0 on_map1 on_map2 on_map3
theorem gateV_undef {w : Bool} {d : Nat} {α : AF} {s t : AF → Prop} : gateV w (.c undef) d α s t = t α := rfl
attribute [go_sem ↓] gateV_undef
theorem on_bind {α β : Type} (o : Option α) (f : α → Option β) (K : β → Prop) : on (o.bind f) K = on o fun x => on (f x) K := by cases o <;> rfl
attribute [go_sem ↓] on_bind
theorem all_oneA_nil : ([] : List AV).all oneA = true := rfl
theorem all_oneA_cons (a : AV) (l : List AV) : (a :: l).all oneA = (oneA a && l.all oneA) := rfl
theorem oneC_int (k : IntKind) (n : Int) : (Value.int k n).oneCell' = true := rfl
theorem oneC_bool (b : Bool) : (Value.bool b).oneCell' = true := rfl
theorem oneC_str (s : ByteArray) : (Value.string s).oneCell' = true := rfl
theorem oneC_nil : (Value.slice none 0 0).oneCell' = true := rfl
attribute [go_sem] all_oneA_nil all_oneA_cons oneC_int oneC_bool oneC_str oneC_nil
end Go.Proofs.Ytephecognbbaoaa
