/- For every list of acts RelayKeeps returns true (there are never more than may be, what is there was posted, and what was posted last is there, as long as it wasn't taken), and the argument reads as before. Conditions: none. -/
import Derived.Test.YtbofobkpplncaaaRows
import Derived.Test.YtbofobkpplncaaaB15
import Derived.Test.YtbofobkpplncaaaB12
import Derived.Test.YtbofobkpplncaaaO
set_option linter.unusedVariables false
set_option linter.unusedSimpArgs false
namespace Go.Proofs.Ytbofobkpplncaaa.RRelayKeeps
open Go.ChangeShapes Go.WideShapes Go.ChangeAt Go.RowKit
open Go.ChangeMaps (open_string shut_string)
theorem own : ownKnob Try.prog.godebug = none := by kernel_rfl
theorem laidOut : laidOutB Try.prog = true := by kernel_rfl
set_option maxRecDepth 100000 in
theorem walked {H : Type} (enc : TypeId × Value → H) : Walked enc Try.prog 5 Try.f5 := by
  intro W base args ds ps hval hA hfz hlt
  rw [Try.params5] at hA hval
  obtain ⟨v0, vs0, d0, ds0, p0, q0, hargs, rfl, rfl, h0, r0⟩ := trodAll_cons hA
  obtain ⟨rfl, rfl, rfl⟩ := trodAll_nil r0
  obtain rfl : args = #[v0] := by cases args; simp_all
  have V0 := hval 0 22 v0 rfl rfl
  obtain ⟨A0, cap0, acts0, rfl, hR0, hn0, hs0⟩ := opened_acts V0 h0
  exact RelayKeeps5 A0 cap0 acts0 W hR0 hs0 hn0
set_option maxRecDepth 100000 in
theorem lifted (os : Os) (started : os.Started) (H : Type) (enc : TypeId × Value → H) :
    ReturnsInHanded {} Try.checked os 5 .any (Rows.relayKeepsSpec.pre6 enc Try.prog Try.f5 Rows.relayKeepsRow.domain false) (Rows.relayKeepsSpec.post enc Try.prog Try.f5 false true false false) :=
  lifted_gen (C := Try.checked) own started (by kernel_rfl) Try.func5
    (ChangeSpec.witness6 (enc := enc) (C := Try.checked) false ⟨#[], #[.slice none 0 0], []⟩ 8 (by kernel_rfl) (by kernel_rfl) (by kernel_rfl) (by kernel_rfl))
    laidOut rfl (fun ds h => by rw [Try.params5] at h; match ds, h with | [d0], _ => rfl) (by rw [Try.params5]; decide +kernel) rfl Try.underlying4 (walked enc)
theorem over : Rows.relayKeepsRow.holds Try.pinned (OpenSpec.ofChange Rows.relayKeepsSpec) :=
  OpenClaim.holds_of_wide 5 Try.f5 rfl rfl rfl rfl rfl rfl rfl ⟨rfl, rfl, rfl, rfl, rfl⟩ rfl rfl rfl rfl rfl (by kernel_rfl) Try.func5 (by kernel_rfl)
    (of_decide_eq_true (by kernel_rfl)) (by unfold Func.isWrapper; first | (rw [if_pos (by decide +kernel)]; kernel_rfl) | (rw [if_neg (by decide +kernel)]; exact ⟨rfl, rfl⟩))
    (fun os started H enc _ => lifted os started H enc)
end Go.Proofs.Ytbofobkpplncaaa.RRelayKeeps
namespace Go.Proofs.Ytbofobkpplncaaa
/-- The statement. -/
theorem RelayKeeps_holds : Rows.RelayKeepsSaid := RRelayKeeps.over
#print axioms RelayKeeps_holds
end Go.Proofs.Ytbofobkpplncaaa
