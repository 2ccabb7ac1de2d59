/- Cycles of turns: what uses anything older, by nodes and by links; in plain Lean. -/
import Derived.Test.YtephecognbbaoabPt
import Derived.Test.YtephecognbbaoabPv
namespace Go.Proofs.Ytephecognbbaoab
open Go
set_option linter.all false

/-- Does a turn use anything older than a state: by nodes. -/
def usesA (n : Net) (u : Trn) (k e : Int) : Bool := (ints n.nodes).any fun i => (ints n.nodes).any fun to => at0 u.act i && (decide (0 ≤ edgeOf n i to) && decide (usedA u k i to < e))

theorem uses_eq {n : Net} (hc : checkN n = 0) (u : Trn) (k e : Int) : usesA n u k e = olderA n u k e := by
  have hn := netIn_of hc
  rw [Bool.eq_iff_iff, usesA, olderA, List.any_eq_true, List.any_eq_true]
  constructor
  · rintro ⟨i, hi, h⟩
    obtain ⟨to, ht, h⟩ := List.any_eq_true.1 h
    simp only [Bool.and_eq_true, decide_eq_true_eq] at h
    obtain ⟨l, hl, h1, h2, h3⟩ := edge_has h.2.1
    refine ⟨l, hl, ?_⟩
    rw [h1, h2, h.1, decide_eq_true h.2.2]
    rfl
  · rintro ⟨l, hl, h⟩
    simp only [Bool.and_eq_true, decide_eq_true_eq] at h
    have hk := hn.lnk l hl
    refine ⟨l.fr, mem_ints.2 ⟨hk.f0, hk.f1⟩, List.any_eq_true.2 ⟨l.dst, mem_ints.2 ⟨hk.d0, hk.d1⟩, ?_⟩⟩
    rw [h.1, edge_link (apart_of hc) hl, decide_eq_true hk.e0, decide_eq_true h.2]
    rfl
end Go.Proofs.Ytephecognbbaoab
