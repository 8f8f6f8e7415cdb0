/- For every list of steps TermPlays returns true (every table, step by step, has the document's terms, names and boxes), and the argument reads as before. Conditions: none. -/
import Derived.Test.YtcapfnbmmdbcoaaRows
import Derived.Test.YtcapfnbmmdbcoaaG9
import Derived.Test.YtcapfnbmmdbcoaaO
set_option linter.unusedVariables false
set_option linter.unusedSimpArgs false
namespace Go.Proofs.Ytcapfnbmmdbcoaa.RTermPlays
open Go.ChangeShapes Go.WideShapes Go.ChangeAt Go.RowKit
open Go.ChangeMaps (open_string shut_string)
theorem own : ownKnob Try.prog.godebug = none := by kernel_rfl
theorem laidOut : laidOutB Try.prog = true := by kernel_rfl
set_option maxRecDepth 100000 in
theorem walked {H : Type} (enc : TypeId × Value → H) : Walked enc Try.prog 6 Try.f6 := by
  intro W base args ds ps hval hA hfz hlt
  rw [Try.params6] at hA hval
  obtain ⟨v0, vs0, d0, ds0, p0, q0, hargs, rfl, rfl, h0, r0⟩ := trodAll_cons hA
  obtain ⟨rfl, rfl, rfl⟩ := trodAll_nil r0
  obtain rfl : args = #[v0] := by cases args; simp_all
  have V0 := hval 0 61 v0 rfl rfl
  obtain ⟨A0, cap0, sps0, rfl, hR0, hn0⟩ := opened_sps V0 h0
  exact TermPlays6 A0 cap0 sps0 W hR0
set_option maxRecDepth 100000 in
theorem lifted (os : Os) (started : os.Started) (H : Type) (enc : TypeId × Value → H) :
    ReturnsInHanded {} Try.checked os 6 .any (Rows.termPlaysSpec.pre6 enc Try.prog Try.f6 Rows.termPlaysRow.domain false) (Rows.termPlaysSpec.post enc Try.prog Try.f6 false true false false) :=
  lifted_gen (C := Try.checked) own started (by kernel_rfl) Try.func6
    (ChangeSpec.witness6 (enc := enc) (C := Try.checked) false ⟨#[], #[.slice none 0 0], []⟩ 8 (by kernel_rfl) (by kernel_rfl) (by kernel_rfl) (by kernel_rfl))
    laidOut rfl (fun ds h => by rw [Try.params6] at h; match ds, h with | [d0], _ => rfl) (by rw [Try.params6]; decide +kernel) rfl Try.underlying4 (walked enc)
theorem over : Rows.termPlaysRow.holds Try.pinned (OpenSpec.ofChange Rows.termPlaysSpec) :=
  OpenClaim.holds_of_wide 6 Try.f6 rfl rfl rfl rfl rfl rfl rfl ⟨rfl, rfl, rfl, rfl, rfl⟩ rfl rfl rfl rfl rfl (by kernel_rfl) Try.func6 (by kernel_rfl)
    (of_decide_eq_true (by kernel_rfl)) (by unfold Func.isWrapper; first | (rw [if_pos (by decide +kernel)]; kernel_rfl) | (rw [if_neg (by decide +kernel)]; exact ⟨rfl, rfl⟩))
    (fun os started H enc _ => lifted os started H enc)
end Go.Proofs.Ytcapfnbmmdbcoaa.RTermPlays
namespace Go.Proofs.Ytcapfnbmmdbcoaa
/-- The statement. -/
theorem TermPlays_holds : Rows.TermPlaysSaid := RTermPlays.over
#print axioms TermPlays_holds
end Go.Proofs.Ytcapfnbmmdbcoaa
