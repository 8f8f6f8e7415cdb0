/- For every key and every two blocks OnetimeSums returns true (the tag of a block under a key whose second half is zero is the document's product, and two equal blocks have equal tags), and each argument reads as before. Conditions: none. -/
import Derived.Test.YtcjfpcajjhccaaaRows
import Derived.Test.YtcjfpcajjhccaaaO7
import Derived.Test.YtcjfpcajjhccaaaO
set_option linter.unusedVariables false
set_option linter.unusedSimpArgs false
namespace Go.Proofs.Ytcjfpcajjhccaaa.ROnetimeSums
open Go.ChangeShapes Go.WideShapes Go.ChangeAt Go.RowKit
open Go.ChangeMaps (open_string shut_string)
theorem own : ownKnob Try.prog.godebug = none := by kernel_rfl
theorem laidOut : laidOutB Try.prog = true := by kernel_rfl
set_option maxRecDepth 100000 in
theorem walked {H : Type} (enc : TypeId × Value → H) : Walked enc Try.prog 10 Try.f10 := by
  intro W base args ds ps hval hA hfz hlt
  rw [Try.params10] at hA hval
  obtain ⟨v0, vs0, d0, ds0, p0, q0, hargs, rfl, rfl, h0, r0⟩ := trodAll_cons hA
  obtain ⟨v1, vs1, d1, ds1, p1, q1, rfl, rfl, rfl, h1, r1⟩ := trodAll_cons r0
  obtain ⟨v2, vs2, d2, ds2, p2, q2, rfl, rfl, rfl, h2, r2⟩ := trodAll_cons r1
  obtain ⟨rfl, rfl, rfl⟩ := trodAll_nil r2
  obtain rfl : args = #[v0, v1, v2] := by cases args; simp_all
  obtain ⟨z0, rfl, l0, w0⟩ := open_nums Try.underlying23 Try.underlying5 (by kernel_rfl) (by kernel_rfl) (hval 0 23 v0 rfl rfl) h0
  obtain ⟨z1, rfl, l1, w1⟩ := open_nums Try.underlying49 Try.underlying5 (by kernel_rfl) (by kernel_rfl) (hval 1 49 v1 rfl rfl) h1
  obtain ⟨z2, rfl, l2, w2⟩ := open_nums Try.underlying49 Try.underlying5 (by kernel_rfl) (by kernel_rfl) (hval 2 49 v2 rfl rfl) h2
  exact OnetimeSums10 z0 z1 z2 W l0 (fun x hx => wf_u8 (w0 x hx)) l1 (fun x hx => wf_u8 (w1 x hx)) l2 (fun x hx => wf_u8 (w2 x hx))
set_option maxRecDepth 100000 in
theorem lifted (os : Os) (started : os.Started) (H : Type) (enc : TypeId × Value → H) :
    ReturnsInHanded {} Try.checked os 10 .any (Rows.onetimeSumsSpec.pre6 enc Try.prog Try.f10 Rows.onetimeSumsRow.domain false) (Rows.onetimeSumsSpec.post enc Try.prog Try.f10 false true false false) :=
  lifted_gen (C := Try.checked) own started (by kernel_rfl) Try.func10
    (ChangeSpec.witness6 (enc := enc) (C := Try.checked) false ⟨#[], #[.agg #[.int .u8 0, .int .u8 0, .int .u8 0, .int .u8 0, .int .u8 0, .int .u8 0, .int .u8 0, .int .u8 0, .int .u8 0, .int .u8 0, .int .u8 0, .int .u8 0, .int .u8 0, .int .u8 0, .int .u8 0, .int .u8 0, .int .u8 0, .int .u8 0, .int .u8 0, .int .u8 0, .int .u8 0, .int .u8 0, .int .u8 0, .int .u8 0, .int .u8 0, .int .u8 0, .int .u8 0, .int .u8 0, .int .u8 0, .int .u8 0, .int .u8 0, .int .u8 0], .agg #[.int .u8 0, .int .u8 0, .int .u8 0, .int .u8 0, .int .u8 0, .int .u8 0, .int .u8 0, .int .u8 0, .int .u8 0, .int .u8 0, .int .u8 0, .int .u8 0, .int .u8 0, .int .u8 0, .int .u8 0, .int .u8 0], .agg #[.int .u8 0, .int .u8 0, .int .u8 0, .int .u8 0, .int .u8 0, .int .u8 0, .int .u8 0, .int .u8 0, .int .u8 0, .int .u8 0, .int .u8 0, .int .u8 0, .int .u8 0, .int .u8 0, .int .u8 0, .int .u8 0]], []⟩ 8 (by kernel_rfl) (by kernel_rfl) (by kernel_rfl) (by kernel_rfl))
    laidOut rfl (fun ds h => by rw [Try.params10] at h; match ds, h with | [d0, d1, d2], _ => rfl) (by rw [Try.params10]; decide +kernel) rfl Try.underlying4 (walked enc)
theorem over : Rows.onetimeSumsRow.holds Try.pinned (OpenSpec.ofChange Rows.onetimeSumsSpec) :=
  OpenClaim.holds_of_wide 10 Try.f10 rfl rfl rfl rfl rfl rfl rfl ⟨rfl, rfl, rfl, rfl, rfl⟩ rfl rfl rfl rfl rfl (by kernel_rfl) Try.func10 (by kernel_rfl)
    (of_decide_eq_true (by kernel_rfl)) (by unfold Func.isWrapper; first | (rw [if_pos (by decide +kernel)]; kernel_rfl) | (rw [if_neg (by decide +kernel)]; exact ⟨rfl, rfl⟩))
    (fun os started H enc _ => lifted os started H enc)
end Go.Proofs.Ytcjfpcajjhccaaa.ROnetimeSums
namespace Go.Proofs.Ytcjfpcajjhccaaa
/-- The statement. -/
theorem OnetimeSums_holds : Rows.OnetimeSumsSaid := ROnetimeSums.over
#print axioms OnetimeSums_holds
end Go.Proofs.Ytcjfpcajjhccaaa
