/- For all lists of steps and of places TermMore returns true (who knows more has more that follows, and what follows of what follows follows), and each argument reads as before. Conditions: none. -/
import Derived.Test.YtcapfnbmmdbcoaaRows
import Derived.Test.YtcapfnbmmdbcoaaGM
import Derived.Test.YtcapfnbmmdbcoaaO
set_option linter.unusedVariables false
set_option linter.unusedSimpArgs false
namespace Go.Proofs.Ytcapfnbmmdbcoaa.RTermMore
open Go.ChangeShapes Go.WideShapes Go.ChangeAt Go.RowKit
open Go.ChangeMaps (open_string shut_string)
theorem own : ownKnob Try.prog.godebug = none := by kernel_rfl
theorem laidOut : laidOutB Try.prog = true := by kernel_rfl
set_option maxRecDepth 100000 in
theorem walked {H : Type} (enc : TypeId × Value → H) : Walked enc Try.prog 7 Try.f7 := by
  intro W base args ds ps hval hA hfz hlt
  rw [Try.params7] at hA hval
  obtain ⟨v0, vs0, d0, ds0, p0, q0, hargs, rfl, rfl, h0, r0⟩ := trodAll_cons hA
  obtain ⟨v1, vs1, d1, ds1, p1, q1, rfl, rfl, rfl, h1, r1⟩ := trodAll_cons r0
  obtain ⟨v2, vs2, d2, ds2, p2, q2, rfl, rfl, rfl, h2, r2⟩ := trodAll_cons r1
  obtain ⟨rfl, rfl, rfl⟩ := trodAll_nil r2
  obtain rfl : args = #[v0, v1, v2] := by cases args; simp_all
  have V0 := hval 0 61 v0 rfl rfl
  have V1 := hval 1 53 v1 rfl rfl
  have V2 := hval 2 53 v2 rfl rfl
  obtain ⟨A0, cap0, sps0, rfl, hR0, hn0⟩ := opened_sps V0 h0
  obtain ⟨A1, cap1, zs1, rfl, hR1⟩ := opened_ints V1 h1
  obtain ⟨A2, cap2, zs2, rfl, hR2⟩ := opened_ints V2 h2
  exact TermMore7 A0 A1 A2 cap0 cap1 cap2 sps0 zs1 zs2 W hR0 hR1 hR2
set_option maxRecDepth 100000 in
theorem lifted (os : Os) (started : os.Started) (H : Type) (enc : TypeId × Value → H) :
    ReturnsInHanded {} Try.checked os 7 .any (Rows.termMoreSpec.pre6 enc Try.prog Try.f7 Rows.termMoreRow.domain false) (Rows.termMoreSpec.post enc Try.prog Try.f7 false true false false) :=
  lifted_gen (C := Try.checked) own started (by kernel_rfl) Try.func7
    (ChangeSpec.witness6 (enc := enc) (C := Try.checked) false ⟨#[], #[.slice none 0 0, .slice none 0 0, .slice none 0 0], []⟩ 8 (by kernel_rfl) (by kernel_rfl) (by kernel_rfl) (by kernel_rfl))
    laidOut rfl (fun ds h => by rw [Try.params7] at h; match ds, h with | [d0, d1, d2], _ => rfl) (by rw [Try.params7]; decide +kernel) rfl Try.underlying4 (walked enc)
theorem over : Rows.termMoreRow.holds Try.pinned (OpenSpec.ofChange Rows.termMoreSpec) :=
  OpenClaim.holds_of_wide 7 Try.f7 rfl rfl rfl rfl rfl rfl rfl ⟨rfl, rfl, rfl, rfl, rfl⟩ rfl rfl rfl rfl rfl (by kernel_rfl) Try.func7 (by kernel_rfl)
    (of_decide_eq_true (by kernel_rfl)) (by unfold Func.isWrapper; first | (rw [if_pos (by decide +kernel)]; kernel_rfl) | (rw [if_neg (by decide +kernel)]; exact ⟨rfl, rfl⟩))
    (fun os started H enc _ => lifted os started H enc)
end Go.Proofs.Ytcapfnbmmdbcoaa.RTermMore
namespace Go.Proofs.Ytcapfnbmmdbcoaa
/-- The statement. -/
theorem TermMore_holds : Rows.TermMoreSaid := RTermMore.over
#print axioms TermMore_holds
end Go.Proofs.Ytcapfnbmmdbcoaa
