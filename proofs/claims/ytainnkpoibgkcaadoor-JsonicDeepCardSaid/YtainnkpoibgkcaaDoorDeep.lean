/- JsonicDeep in plain Lean: the kernel reckons its sixty ways. Conditions: none. -/
import Derived.Test.YtainnkpoibgkcaaDoorPAllx7
namespace Go.Proofs.YtainnkpoibgkcaaDoor
set_option linter.unusedVariables false
set_option linter.unusedSimpArgs false
open Go.RowKit Go.Proofs.YtainnkpoibgkcaaDoor.PAll Go.Proofs.YtainnkpoibgkcaaDoorW.PrintWords Go.Proofs.YtainnkpoibgkcaaDoorW.PrintLast
theorem deep_list : ∀ m : Fin 30, entrepotlaw19_JsonicDeep.j0 100 ((m.val : Int) + 1) ⟨#[91]⟩ ⟨#[93]⟩ ⟨#[]⟩ = some true := by decide +kernel
theorem deep_obj : ∀ m : Fin 30, entrepotlaw19_JsonicDeep.j0 100 ((m.val : Int) + 1) ⟨#[123, 34, 97, 34, 58]⟩ ⟨#[125]⟩ ⟨#[49]⟩ = some true := by decide +kernel
theorem deep_num (a : Int) (h0 : 0 ≤ a) (h1 : a ≤ 255) : ∃ m : Fin 30, wrap64 (1 + (Int.tmod (wrap64 a) 30)) = (m.val : Int) + 1 := by
  refine ⟨⟨a.toNat % 30, Nat.mod_lt _ (by decide)⟩, ?_⟩
  rw [show wrap64 a = a by unfold wrap64; omega, Int.tmod_eq_emod_of_nonneg h0, show wrap64 (1 + a % 30) = 1 + a % 30 by unfold wrap64; omega]
  simp only
  omega
theorem jsonicDeep_pure : entrepotlaw19_JsonicDeep.Pure := by
  intro a0 a1 h
  have hr : 0 ≤ a0 ∧ a0 ≤ 255 := by simpa [Lit.wf, IntKind.min, IntKind.max, IntKind.signed, IntKind.bits] using h
  obtain ⟨m, hm⟩ := deep_num a0 hr.1 hr.2
  refine ⟨100, ?_⟩
  unfold entrepotlaw19_JsonicDeep.f
  rw [hm]
  cases a1 with
  | true => rw [if_pos rfl]; exact deep_obj m
  | false => rw [if_neg (by decide)]; exact deep_list m
end Go.Proofs.YtainnkpoibgkcaaDoor
