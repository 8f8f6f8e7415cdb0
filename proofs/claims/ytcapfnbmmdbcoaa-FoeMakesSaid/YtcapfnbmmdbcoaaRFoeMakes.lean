/- For every list of steps FoeMakes returns true (all that a stranger makes, by whatever steps, is the document's), and the argument reads as before. Conditions: none. -/
import Derived.Test.YtcapfnbmmdbcoaaRows
import Derived.Test.YtcapfnbmmdbcoaaFA
import Derived.Test.YtcapfnbmmdbcoaaO
set_option linter.unusedVariables false
set_option linter.unusedSimpArgs false
namespace Go.Proofs.Ytcapfnbmmdbcoaa.RFoeMakes
open Go.ChangeShapes Go.WideShapes Go.ChangeAt Go.RowKit
open Go.ChangeMaps (open_string shut_string)
theorem own : ownKnob Try.prog.godebug = none := by kernel_rfl
theorem laidOut : laidOutB Try.prog = true := by kernel_rfl
set_option maxRecDepth 100000 in
theorem walked {H : Type} (enc : TypeId × Value → H) : Walked enc Try.prog 4 Try.f4 := by
  intro W base args ds ps hval hA hfz hlt
  rw [Try.params4] at hA hval
  obtain ⟨v0, vs0, d0, ds0, p0, q0, hargs, rfl, rfl, h0, r0⟩ := trodAll_cons hA
  obtain ⟨rfl, rfl, rfl⟩ := trodAll_nil r0
  obtain rfl : args = #[v0] := by cases args; simp_all
  have V0 := hval 0 39 v0 rfl rfl
  obtain ⟨A0, cap0, cks0, rfl, hR0, hn0, hs0⟩ := opened_cks V0 h0
  exact FoeMakes4 A0 cap0 cks0 W hR0
set_option maxRecDepth 100000 in
theorem lifted (os : Os) (started : os.Started) (H : Type) (enc : TypeId × Value → H) :
    ReturnsInHanded {} Try.checked os 4 .any (Rows.foeMakesSpec.pre6 enc Try.prog Try.f4 Rows.foeMakesRow.domain false) (Rows.foeMakesSpec.post enc Try.prog Try.f4 false true false false) :=
  lifted_gen (C := Try.checked) own started (by kernel_rfl) Try.func4
    (ChangeSpec.witness6 (enc := enc) (C := Try.checked) false ⟨#[], #[.slice none 0 0], []⟩ 8 (by kernel_rfl) (by kernel_rfl) (by kernel_rfl) (by kernel_rfl))
    laidOut rfl (fun ds h => by rw [Try.params4] at h; match ds, h with | [d0], _ => rfl) (by rw [Try.params4]; decide +kernel) rfl Try.underlying4 (walked enc)
theorem over : Rows.foeMakesRow.holds Try.pinned (OpenSpec.ofChange Rows.foeMakesSpec) :=
  OpenClaim.holds_of_wide 4 Try.f4 rfl rfl rfl rfl rfl rfl rfl ⟨rfl, rfl, rfl, rfl, rfl⟩ rfl rfl rfl rfl rfl (by kernel_rfl) Try.func4 (by kernel_rfl)
    (of_decide_eq_true (by kernel_rfl)) (by unfold Func.isWrapper; first | (rw [if_pos (by decide +kernel)]; kernel_rfl) | (rw [if_neg (by decide +kernel)]; exact ⟨rfl, rfl⟩))
    (fun os started H enc _ => lifted os started H enc)
end Go.Proofs.Ytcapfnbmmdbcoaa.RFoeMakes
namespace Go.Proofs.Ytcapfnbmmdbcoaa
/-- The statement. -/
theorem FoeMakes_holds : Rows.FoeMakesSaid := RFoeMakes.over
#print axioms FoeMakes_holds
end Go.Proofs.Ytcapfnbmmdbcoaa
