/- For all texts a and b TermMeets returns true (two who know one another's public keys agree on one term, which follows of either secret with the other's public key, and of the public keys alone not), and each argument reads as before. Conditions: none. -/
import Derived.Test.YtcapfnbmmdbcoaaRows
import Derived.Test.YtcapfnbmmdbcoaaCB2
import Derived.Test.YtcapfnbmmdbcoaaO
set_option linter.unusedVariables false
set_option linter.unusedSimpArgs false
namespace Go.Proofs.Ytcapfnbmmdbcoaa.RTermMeets
open Go.ChangeShapes Go.WideShapes Go.ChangeAt Go.RowKit
open Go.ChangeMaps (open_string shut_string)
theorem own : ownKnob Try.prog.godebug = none := by kernel_rfl
theorem laidOut : laidOutB Try.prog = true := by kernel_rfl
set_option maxRecDepth 100000 in
theorem walked {H : Type} (enc : TypeId × Value → H) : Walked enc Try.prog 5 Try.f5 := by
  intro W base args ds ps hval hA hfz hlt
  rw [Try.params5] at hA hval
  obtain ⟨v0, vs0, d0, ds0, p0, q0, hargs, rfl, rfl, h0, r0⟩ := trodAll_cons hA
  obtain ⟨v1, vs1, d1, ds1, p1, q1, rfl, rfl, rfl, h1, r1⟩ := trodAll_cons r0
  obtain ⟨rfl, rfl, rfl⟩ := trodAll_nil r1
  obtain rfl : args = #[v0, v1] := by cases args; simp_all
  obtain ⟨s0, rfl, rfl, rfl, w0⟩ := open_string Try.underlying9 (hval 0 9 v0 rfl rfl) h0
  obtain ⟨s1, rfl, rfl, rfl, w1⟩ := open_string Try.underlying9 (hval 1 9 v1 rfl rfl) h1
  exact TermMeets5 s0 s1 W w0 w1
set_option maxRecDepth 100000 in
theorem lifted (os : Os) (started : os.Started) (H : Type) (enc : TypeId × Value → H) :
    ReturnsInHanded {} Try.checked os 5 .any (Rows.termMeetsSpec.pre6 enc Try.prog Try.f5 Rows.termMeetsRow.domain false) (Rows.termMeetsSpec.post enc Try.prog Try.f5 false true false false) :=
  lifted_gen (C := Try.checked) own started (by kernel_rfl) Try.func5
    (ChangeSpec.witness6 (enc := enc) (C := Try.checked) false ⟨#[], #[.string ⟨#[]⟩, .string ⟨#[]⟩], []⟩ 8 (by kernel_rfl) (by kernel_rfl) (by kernel_rfl) (by kernel_rfl))
    laidOut rfl (fun ds h => by rw [Try.params5] at h; match ds, h with | [d0, d1], _ => rfl) (by rw [Try.params5]; decide +kernel) rfl Try.underlying4 (walked enc)
theorem over : Rows.termMeetsRow.holds Try.pinned (OpenSpec.ofChange Rows.termMeetsSpec) :=
  OpenClaim.holds_of_wide 5 Try.f5 rfl rfl rfl rfl rfl rfl rfl ⟨rfl, rfl, rfl, rfl, rfl⟩ rfl rfl rfl rfl rfl (by kernel_rfl) Try.func5 (by kernel_rfl)
    (of_decide_eq_true (by kernel_rfl)) (by unfold Func.isWrapper; first | (rw [if_pos (by decide +kernel)]; kernel_rfl) | (rw [if_neg (by decide +kernel)]; exact ⟨rfl, rfl⟩))
    (fun os started H enc _ => lifted os started H enc)
end Go.Proofs.Ytcapfnbmmdbcoaa.RTermMeets
namespace Go.Proofs.Ytcapfnbmmdbcoaa
/-- The statement. -/
theorem TermMeets_holds : Rows.TermMeetsSaid := RTermMeets.over
#print axioms TermMeets_holds
end Go.Proofs.Ytcapfnbmmdbcoaa
