/- For every list of acts and every member's number RelayApart returns true (nothing that is done to another member's mail turns a member's), and each argument reads as before. Conditions: none. -/
import Derived.Test.YtbofobkpplncaaaRows
import Derived.Test.YtbofobkpplncaaaB13
import Derived.Test.YtbofobkpplncaaaB12
import Derived.Test.YtbofobkpplncaaaO
set_option linter.unusedVariables false
set_option linter.unusedSimpArgs false
namespace Go.Proofs.Ytbofobkpplncaaa.RRelayApart
open Go.ChangeShapes Go.WideShapes Go.ChangeAt Go.RowKit
open Go.ChangeMaps (open_string shut_string)
theorem own : ownKnob Try.prog.godebug = none := by kernel_rfl
theorem laidOut : laidOutB Try.prog = true := by kernel_rfl
set_option maxRecDepth 100000 in
theorem walked {H : Type} (enc : TypeId × Value → H) : Walked enc Try.prog 4 Try.f4 := by
  intro W base args ds ps hval hA hfz hlt
  rw [Try.params4] at hA hval
  obtain ⟨v0, vs0, d0, ds0, p0, q0, hargs, rfl, rfl, h0, r0⟩ := trodAll_cons hA
  obtain ⟨v1, vs1, d1, ds1, p1, q1, rfl, rfl, rfl, h1, r1⟩ := trodAll_cons r0
  obtain ⟨rfl, rfl, rfl⟩ := trodAll_nil r1
  obtain rfl : args = #[v0, v1] := by cases args; simp_all
  have V0 := hval 0 22 v0 rfl rfl
  obtain ⟨a1, rfl, rfl, rfl, w1⟩ := open_int Try.underlying3 (hval 1 3 v1 rfl rfl) h1
  obtain ⟨A0, cap0, acts0, rfl, hR0, hn0, hs0⟩ := opened_acts V0 h0
  exact RelayApart4 A0 cap0 acts0 a1 W hR0 hs0 hn0
set_option maxRecDepth 100000 in
theorem lifted (os : Os) (started : os.Started) (H : Type) (enc : TypeId × Value → H) :
    ReturnsInHanded {} Try.checked os 4 .any (Rows.relayApartSpec.pre6 enc Try.prog Try.f4 Rows.relayApartRow.domain false) (Rows.relayApartSpec.post enc Try.prog Try.f4 false true false false) :=
  lifted_gen (C := Try.checked) own started (by kernel_rfl) Try.func4
    (ChangeSpec.witness6 (enc := enc) (C := Try.checked) false ⟨#[], #[.slice none 0 0, .int .i64 0], []⟩ 8 (by kernel_rfl) (by kernel_rfl) (by kernel_rfl) (by kernel_rfl))
    laidOut rfl (fun ds h => by rw [Try.params4] at h; match ds, h with | [d0, d1], _ => rfl) (by rw [Try.params4]; decide +kernel) rfl Try.underlying4 (walked enc)
theorem over : Rows.relayApartRow.holds Try.pinned (OpenSpec.ofChange Rows.relayApartSpec) :=
  OpenClaim.holds_of_wide 4 Try.f4 rfl rfl rfl rfl rfl rfl rfl ⟨rfl, rfl, rfl, rfl, rfl⟩ rfl rfl rfl rfl rfl (by kernel_rfl) Try.func4 (by kernel_rfl)
    (of_decide_eq_true (by kernel_rfl)) (by unfold Func.isWrapper; first | (rw [if_pos (by decide +kernel)]; kernel_rfl) | (rw [if_neg (by decide +kernel)]; exact ⟨rfl, rfl⟩))
    (fun os started H enc _ => lifted os started H enc)
end Go.Proofs.Ytbofobkpplncaaa.RRelayApart
namespace Go.Proofs.Ytbofobkpplncaaa
/-- The statement. -/
theorem RelayApart_holds : Rows.RelayApartSaid := RRelayApart.over
#print axioms RelayApart_holds
end Go.Proofs.Ytbofobkpplncaaa
