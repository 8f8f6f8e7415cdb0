/- For every list of steps FoeFollows returns true (all that is made follows of what was seen, and of the stranger's own draws), and the argument reads as before. Conditions: none. -/
import Derived.Test.YtcapfnbmmdbcoaaRows
import Derived.Test.YtcapfnbmmdbcoaaF8
import Derived.Test.YtcapfnbmmdbcoaaO
set_option linter.unusedVariables false
set_option linter.unusedSimpArgs false
namespace Go.Proofs.Ytcapfnbmmdbcoaa.RFoeFollows
open Go.ChangeShapes Go.WideShapes Go.ChangeAt Go.RowKit
open Go.ChangeMaps (open_string shut_string)
theorem own : ownKnob Try.prog.godebug = none := by kernel_rfl
theorem laidOut : laidOutB Try.prog = true := by kernel_rfl
set_option maxRecDepth 100000 in
theorem walked {H : Type} (enc : TypeId × Value → H) : Walked enc Try.prog 8 Try.f8 := by
  intro W base args ds ps hval hA hfz hlt
  rw [Try.params8] at hA hval
  obtain ⟨v0, vs0, d0, ds0, p0, q0, hargs, rfl, rfl, h0, r0⟩ := trodAll_cons hA
  obtain ⟨rfl, rfl, rfl⟩ := trodAll_nil r0
  obtain rfl : args = #[v0] := by cases args; simp_all
  have V0 := hval 0 39 v0 rfl rfl
  obtain ⟨A0, cap0, cks0, rfl, hR0, hn0, hs0⟩ := opened_cks V0 h0
  exact FoeFollows8 A0 cap0 cks0 W hR0
set_option maxRecDepth 100000 in
theorem lifted (os : Os) (started : os.Started) (H : Type) (enc : TypeId × Value → H) :
    ReturnsInHanded {} Try.checked os 8 .any (Rows.foeFollowsSpec.pre6 enc Try.prog Try.f8 Rows.foeFollowsRow.domain false) (Rows.foeFollowsSpec.post enc Try.prog Try.f8 false true false false) :=
  lifted_gen (C := Try.checked) own started (by kernel_rfl) Try.func8
    (ChangeSpec.witness6 (enc := enc) (C := Try.checked) false ⟨#[], #[.slice none 0 0], []⟩ 8 (by kernel_rfl) (by kernel_rfl) (by kernel_rfl) (by kernel_rfl))
    laidOut rfl (fun ds h => by rw [Try.params8] at h; match ds, h with | [d0], _ => rfl) (by rw [Try.params8]; decide +kernel) rfl Try.underlying4 (walked enc)
theorem over : Rows.foeFollowsRow.holds Try.pinned (OpenSpec.ofChange Rows.foeFollowsSpec) :=
  OpenClaim.holds_of_wide 8 Try.f8 rfl rfl rfl rfl rfl rfl rfl ⟨rfl, rfl, rfl, rfl, rfl⟩ rfl rfl rfl rfl rfl (by kernel_rfl) Try.func8 (by kernel_rfl)
    (of_decide_eq_true (by kernel_rfl)) (by unfold Func.isWrapper; first | (rw [if_pos (by decide +kernel)]; kernel_rfl) | (rw [if_neg (by decide +kernel)]; exact ⟨rfl, rfl⟩))
    (fun os started H enc _ => lifted os started H enc)
end Go.Proofs.Ytcapfnbmmdbcoaa.RFoeFollows
namespace Go.Proofs.Ytcapfnbmmdbcoaa
/-- The statement. -/
theorem FoeFollows_holds : Rows.FoeFollowsSaid := RFoeFollows.over
#print axioms FoeFollows_holds
end Go.Proofs.Ytcapfnbmmdbcoaa
