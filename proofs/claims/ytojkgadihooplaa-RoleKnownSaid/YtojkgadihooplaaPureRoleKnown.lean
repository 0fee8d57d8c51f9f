/- Chapter 9's closed sentence: role's own example, several roles, none, parents that are not right. No condition. -/
import Derived.Test.YtojkgadihooplaaPRoleKnownx1
namespace Go.Proofs.Ytojkgadihooplaa.Pure
open Go.RowKit Go.Proofs.Ytojkgadihooplaa.PRoleKnown Go.Proofs.YtojkgadihooplaaW.PrintWords Go.Proofs.YtojkgadihooplaaW.PrintLast

/-- YOURS: ∃ k, pyxlaw9_RoleKnown.f k  = some true
What it reaches (each with k first where it has rounds; `.mono`: more rounds tell the same; `.l0`, ..: its loops, with `.mono_l`): role_Right.f, role_bit.f, role_All.f, pyxlaw9_known.f, role_Has.f, pyxlaw9_RoleKnown.f -/
theorem RoleKnown : pyxlaw9_RoleKnown.Pure := by
  exact ⟨40, by decide +kernel⟩

end Go.Proofs.Ytojkgadihooplaa.Pure
