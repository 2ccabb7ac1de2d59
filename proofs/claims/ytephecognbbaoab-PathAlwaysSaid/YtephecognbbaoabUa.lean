/- Routes with paths, as content. -/
import Derived.Test.YtephecognbbaoabNd
import Derived.Test.YtephecognbbaoabUp
namespace Go.Proofs.Ytephecognbbaoab
open Go
set_option linter.all false
set_option maxRecDepth 100000
set_option maxHeartbeats 4000000

def rtC (r : Rt) : List AV := [intA1 r.w, intsA r.p]
def rtRow (l : List Rt) : List AV := [.sl (l.map rtC)]
def rtsC (x : List (List Rt)) : AV := .sl (x.map rtRow)
attribute [go_sem] rtC rtRow rtsC
theorem rtC_len (l : List Rt) : (∀ e', e' ∈ l.map rtC → e'.length = 2) = True := len_map (f := rtC) (fun _ => rfl) l
theorem rtC_one (l : List Rt) : (∀ e', e' ∈ l.map rtC → e'.all oneA = true) = True := one_map (f := rtC) (fun _ => rfl) l
theorem rtRow_len (l : List (List Rt)) : (∀ e', e' ∈ l.map rtRow → e'.length = 1) = True := len_map (f := rtRow) (fun _ => rfl) l
theorem rtRow_one (l : List (List Rt)) : (∀ e', e' ∈ l.map rtRow → e'.all oneA = true) = True := one_map (f := rtRow) (fun _ => rfl) l
attribute [go_sem] rtC_len rtC_one rtRow_len rtRow_one

/-- What is known of routes that came in. -/
structure RtOk (r : Rt) : Prop where
  w : I64 r.w
  p : r.p.length ≤ 17592186044000
structure RtsOk (x : List (List Rt)) : Prop where
  len : x.length ≤ 5864062014634
  row : ∀ r ∈ x, r.length ≤ 4398046510980 ∧ ∀ t ∈ r, RtOk t
end Go.Proofs.Ytephecognbbaoab
