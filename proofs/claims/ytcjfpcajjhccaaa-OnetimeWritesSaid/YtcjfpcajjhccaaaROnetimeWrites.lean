/- For every key and every slice of texts OnetimeWrites returns true (a tag that is written in parts is at each place the document's, and a nil tag is the zero key's), and each argument reads as before. Conditions: none. -/
import Derived.Test.YtcjfpcajjhccaaaRows
import Derived.Test.YtcjfpcajjhccaaaO5
import Derived.Test.YtcjfpcajjhccaaaO
set_option linter.unusedVariables false
set_option linter.unusedSimpArgs false
namespace Go.Proofs.Ytcjfpcajjhccaaa.ROnetimeWrites
open Go.ChangeShapes Go.WideShapes Go.ChangeAt Go.RowKit
open Go.ChangeMaps (open_string shut_string)
theorem own : ownKnob Try.prog.godebug = none := by kernel_rfl
theorem laidOut : laidOutB Try.prog = true := by kernel_rfl
set_option maxRecDepth 100000 in
theorem walked {H : Type} (enc : TypeId × Value → H) : Walked enc Try.prog 11 Try.f11 := by
  intro W base args ds ps hval hA hfz hlt
  rw [Try.params11] at hA hval
  obtain ⟨v0, vs0, d0, ds0, p0, q0, hargs, rfl, rfl, h0, r0⟩ := trodAll_cons hA
  obtain ⟨v1, vs1, d1, ds1, p1, q1, rfl, rfl, rfl, h1, r1⟩ := trodAll_cons r0
  obtain ⟨rfl, rfl, rfl⟩ := trodAll_nil r1
  obtain rfl : args = #[v0, v1] := by cases args; simp_all
  obtain ⟨z0, rfl, l0, w0⟩ := open_nums Try.underlying23 Try.underlying5 (by kernel_rfl) (by kernel_rfl) (hval 0 23 v0 rfl rfl) h0
  have V1 := hval 1 41 v1 rfl rfl
  obtain ⟨A1, cap1, ps1, rfl, hR1, hn1, hs1⟩ := opened_strings V1 h1
  exact OnetimeWrites11 z0 A1 cap1 ps1 W l0 (fun x hx => wf_u8 (w0 x hx)) hR1 hn1 hs1
set_option maxRecDepth 100000 in
theorem lifted (os : Os) (started : os.Started) (H : Type) (enc : TypeId × Value → H) :
    ReturnsInHanded {} Try.checked os 11 .any (Rows.onetimeWritesSpec.pre6 enc Try.prog Try.f11 Rows.onetimeWritesRow.domain false) (Rows.onetimeWritesSpec.post enc Try.prog Try.f11 false true false false) :=
  lifted_gen (C := Try.checked) own started (by kernel_rfl) Try.func11
    (ChangeSpec.witness6 (enc := enc) (C := Try.checked) false ⟨#[], #[.agg #[.int .u8 0, .int .u8 0, .int .u8 0, .int .u8 0, .int .u8 0, .int .u8 0, .int .u8 0, .int .u8 0, .int .u8 0, .int .u8 0, .int .u8 0, .int .u8 0, .int .u8 0, .int .u8 0, .int .u8 0, .int .u8 0, .int .u8 0, .int .u8 0, .int .u8 0, .int .u8 0, .int .u8 0, .int .u8 0, .int .u8 0, .int .u8 0, .int .u8 0, .int .u8 0, .int .u8 0, .int .u8 0, .int .u8 0, .int .u8 0, .int .u8 0, .int .u8 0], .slice none 0 0], []⟩ 8 (by kernel_rfl) (by kernel_rfl) (by kernel_rfl) (by kernel_rfl))
    laidOut rfl (fun ds h => by rw [Try.params11] at h; match ds, h with | [d0, d1], _ => rfl) (by rw [Try.params11]; decide +kernel) rfl Try.underlying4 (walked enc)
theorem over : Rows.onetimeWritesRow.holds Try.pinned (OpenSpec.ofChange Rows.onetimeWritesSpec) :=
  OpenClaim.holds_of_wide 11 Try.f11 rfl rfl rfl rfl rfl rfl rfl ⟨rfl, rfl, rfl, rfl, rfl⟩ rfl rfl rfl rfl rfl (by kernel_rfl) Try.func11 (by kernel_rfl)
    (of_decide_eq_true (by kernel_rfl)) (by unfold Func.isWrapper; first | (rw [if_pos (by decide +kernel)]; kernel_rfl) | (rw [if_neg (by decide +kernel)]; exact ⟨rfl, rfl⟩))
    (fun os started H enc _ => lifted os started H enc)
end Go.Proofs.Ytcjfpcajjhccaaa.ROnetimeWrites
namespace Go.Proofs.Ytcjfpcajjhccaaa
/-- The statement. -/
theorem OnetimeWrites_holds : Rows.OnetimeWritesSaid := ROnetimeWrites.over
#print axioms OnetimeWrites_holds
end Go.Proofs.Ytcjfpcajjhccaaa
