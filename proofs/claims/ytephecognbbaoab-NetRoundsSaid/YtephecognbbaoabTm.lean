/- Map types. -/
import Derived.Test.YtephecognbbaoabTab
namespace Go.Proofs.Ytephecognbbaoab
open Go
set_option linter.all false

theorem keyed_int : Go.Maps.Keyed Try.prog 3 = True := eq_true (Go.Maps.int_keyed Try.underlying3)
theorem keyK_int (n : Int) : keyK Try.prog 3 (.int .i64 n) = I64 n := by
  have h : keyOf Try.prog 3 (.int .i64 n) = if (Lit.int IntKind.i64 n).wf = true then some (.int .i64 n) else none := by simp [keyOf, mapKey, Try.underlying3]
  have h2 : (Lit.int IntKind.i64 n).wf = true ↔ I64 n := by
    simp [Lit.wf, IntKind.min, IntKind.max, IntKind.bits, IntKind.signed, I64]
  unfold keyK
  rw [h]
  apply propext
  constructor
  · rintro ⟨l, hl⟩
    split at hl
    · exact h2.1 (by assumption)
    · cases hl
  · intro h3
    exact ⟨_, if_pos (h2.2 h3)⟩
attribute [go_sem] keyed_int keyK_int
theorem tab_map_shape : mapT Try.prog 171 = some (3, 169) := by kernel_rfl
theorem tab_zv_shape : zeroV Try.prog 169 = some (.agg #[.int .i64 0, .bool false]) := by kernel_rfl
attribute [go_sem] tab_map_shape tab_zv_shape
theorem tab_map_int : mapT Try.prog 191 = some (3, 3) := by kernel_rfl
theorem tab_map_bool : mapT Try.prog 184 = some (3, 4) := by kernel_rfl
theorem tab_zv_int : zeroV Try.prog 3 = some (.int .i64 0) := by kernel_rfl
theorem tab_zv_bool : zeroV Try.prog 4 = some (.bool false) := by kernel_rfl
attribute [go_sem] tab_map_int
attribute [go_sem] tab_map_bool
attribute [go_sem] tab_zv_int tab_zv_bool Option.getD_some Option.getD_none
end Go.Proofs.Ytephecognbbaoab
