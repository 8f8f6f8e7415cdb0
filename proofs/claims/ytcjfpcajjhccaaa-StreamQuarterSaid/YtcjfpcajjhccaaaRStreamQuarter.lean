/- For every four words StreamQuarter returns true (the reference's quarter round can be undone), and each argument reads as before. Conditions: none. -/
import Derived.Test.YtcjfpcajjhccaaaRows
import Derived.Test.YtcjfpcajjhccaaaL3
import Derived.Test.YtcjfpcajjhccaaaO
set_option linter.unusedVariables false
set_option linter.unusedSimpArgs false
namespace Go.Proofs.Ytcjfpcajjhccaaa.RStreamQuarter
open Go.ChangeShapes Go.WideShapes Go.ChangeAt Go.RowKit
open Go.ChangeMaps (open_string shut_string)
theorem own : ownKnob Try.prog.godebug = none := by kernel_rfl
theorem laidOut : laidOutB Try.prog = true := by kernel_rfl
set_option maxRecDepth 100000 in
theorem walked {H : Type} (enc : TypeId × Value → H) : Walked enc Try.prog 4 Try.f4 := by
  intro W base args ds ps hval hA hfz hlt
  rw [Try.params4] at hA hval
  obtain ⟨v0, vs0, d0, ds0, p0, q0, hargs, rfl, rfl, h0, r0⟩ := trodAll_cons hA
  obtain ⟨v1, vs1, d1, ds1, p1, q1, rfl, rfl, rfl, h1, r1⟩ := trodAll_cons r0
  obtain ⟨v2, vs2, d2, ds2, p2, q2, rfl, rfl, rfl, h2, r2⟩ := trodAll_cons r1
  obtain ⟨v3, vs3, d3, ds3, p3, q3, rfl, rfl, rfl, h3, r3⟩ := trodAll_cons r2
  obtain ⟨rfl, rfl, rfl⟩ := trodAll_nil r3
  obtain rfl : args = #[v0, v1, v2, v3] := by cases args; simp_all
  obtain ⟨a0, rfl, rfl, rfl, w0⟩ := open_int Try.underlying24 (hval 0 24 v0 rfl rfl) h0
  obtain ⟨a1, rfl, rfl, rfl, w1⟩ := open_int Try.underlying24 (hval 1 24 v1 rfl rfl) h1
  obtain ⟨a2, rfl, rfl, rfl, w2⟩ := open_int Try.underlying24 (hval 2 24 v2 rfl rfl) h2
  obtain ⟨a3, rfl, rfl, rfl, w3⟩ := open_int Try.underlying24 (hval 3 24 v3 rfl rfl) h3
  exact StreamQuarter4 a0 a1 a2 a3 W (wf_u32 w0) (wf_u32 w1) (wf_u32 w2) (wf_u32 w3)
set_option maxRecDepth 100000 in
theorem lifted (os : Os) (started : os.Started) (H : Type) (enc : TypeId × Value → H) :
    ReturnsInHanded {} Try.checked os 4 .any (Rows.streamQuarterSpec.pre6 enc Try.prog Try.f4 Rows.streamQuarterRow.domain false) (Rows.streamQuarterSpec.post enc Try.prog Try.f4 false true false false) :=
  lifted_gen (C := Try.checked) own started (by kernel_rfl) Try.func4
    (ChangeSpec.witness6 (enc := enc) (C := Try.checked) false ⟨#[], #[.int .u32 0, .int .u32 0, .int .u32 0, .int .u32 0], []⟩ 8 (by kernel_rfl) (by kernel_rfl) (by kernel_rfl) (by kernel_rfl))
    laidOut rfl (fun ds h => by rw [Try.params4] at h; match ds, h with | [d0, d1, d2, d3], _ => rfl) (by rw [Try.params4]; decide +kernel) rfl Try.underlying4 (walked enc)
theorem over : Rows.streamQuarterRow.holds Try.pinned (OpenSpec.ofChange Rows.streamQuarterSpec) :=
  OpenClaim.holds_of_wide 4 Try.f4 rfl rfl rfl rfl rfl rfl rfl ⟨rfl, rfl, rfl, rfl, rfl⟩ rfl rfl rfl rfl rfl (by kernel_rfl) Try.func4 (by kernel_rfl)
    (of_decide_eq_true (by kernel_rfl)) (by unfold Func.isWrapper; first | (rw [if_pos (by decide +kernel)]; kernel_rfl) | (rw [if_neg (by decide +kernel)]; exact ⟨rfl, rfl⟩))
    (fun os started H enc _ => lifted os started H enc)
end Go.Proofs.Ytcjfpcajjhccaaa.RStreamQuarter
namespace Go.Proofs.Ytcjfpcajjhccaaa
/-- The statement. -/
theorem StreamQuarter_holds : Rows.StreamQuarterSaid := RStreamQuarter.over
#print axioms StreamQuarter_holds
end Go.Proofs.Ytcjfpcajjhccaaa
