/- For every key, text and slice of numbers OnetimePieces returns true (a tag of a text that is written in pieces is the tag of the whole), and each argument reads as before. Conditions: none. -/
import Derived.Test.YtcjfpcajjhccaaaRows
import Derived.Test.YtcjfpcajjhccaaaO6
import Derived.Test.YtcjfpcajjhccaaaO
set_option linter.unusedVariables false
set_option linter.unusedSimpArgs false
namespace Go.Proofs.Ytcjfpcajjhccaaa.ROnetimePieces
open Go.ChangeShapes Go.WideShapes Go.ChangeAt Go.RowKit
open Go.ChangeMaps (open_string shut_string)
theorem own : ownKnob Try.prog.godebug = none := by kernel_rfl
theorem laidOut : laidOutB Try.prog = true := by kernel_rfl
set_option maxRecDepth 100000 in
theorem walked {H : Type} (enc : TypeId × Value → H) : Walked enc Try.prog 12 Try.f12 := by
  intro W base args ds ps hval hA hfz hlt
  rw [Try.params12] at hA hval
  obtain ⟨v0, vs0, d0, ds0, p0, q0, hargs, rfl, rfl, h0, r0⟩ := trodAll_cons hA
  obtain ⟨v1, vs1, d1, ds1, p1, q1, rfl, rfl, rfl, h1, r1⟩ := trodAll_cons r0
  obtain ⟨v2, vs2, d2, ds2, p2, q2, rfl, rfl, rfl, h2, r2⟩ := trodAll_cons r1
  obtain ⟨rfl, rfl, rfl⟩ := trodAll_nil r2
  obtain rfl : args = #[v0, v1, v2] := by cases args; simp_all
  obtain ⟨z0, rfl, l0, w0⟩ := open_nums Try.underlying23 Try.underlying5 (by kernel_rfl) (by kernel_rfl) (hval 0 23 v0 rfl rfl) h0
  obtain ⟨s1, rfl, rfl, rfl, w1⟩ := open_string Try.underlying9 (hval 1 9 v1 rfl rfl) h1
  have V2 := hval 2 60 v2 rfl rfl
  obtain ⟨A2, cap2, xs2, rfl, hR2, hn2, hs2⟩ := opened_u16 V2 h2
  exact OnetimePieces12 z0 s1 A2 cap2 xs2 W l0 (fun x hx => wf_u8 (w0 x hx)) w1 hR2 hn2 (fun x hx => wf_u16 (hs2 x hx))
set_option maxRecDepth 100000 in
theorem lifted (os : Os) (started : os.Started) (H : Type) (enc : TypeId × Value → H) :
    ReturnsInHanded {} Try.checked os 12 .any (Rows.onetimePiecesSpec.pre6 enc Try.prog Try.f12 Rows.onetimePiecesRow.domain false) (Rows.onetimePiecesSpec.post enc Try.prog Try.f12 false true false false) :=
  lifted_gen (C := Try.checked) own started (by kernel_rfl) Try.func12
    (ChangeSpec.witness6 (enc := enc) (C := Try.checked) false ⟨#[], #[.agg #[.int .u8 0, .int .u8 0, .int .u8 0, .int .u8 0, .int .u8 0, .int .u8 0, .int .u8 0, .int .u8 0, .int .u8 0, .int .u8 0, .int .u8 0, .int .u8 0, .int .u8 0, .int .u8 0, .int .u8 0, .int .u8 0, .int .u8 0, .int .u8 0, .int .u8 0, .int .u8 0, .int .u8 0, .int .u8 0, .int .u8 0, .int .u8 0, .int .u8 0, .int .u8 0, .int .u8 0, .int .u8 0, .int .u8 0, .int .u8 0, .int .u8 0, .int .u8 0], .string ⟨#[]⟩, .slice none 0 0], []⟩ 8 (by kernel_rfl) (by kernel_rfl) (by kernel_rfl) (by kernel_rfl))
    laidOut rfl (fun ds h => by rw [Try.params12] at h; match ds, h with | [d0, d1, d2], _ => rfl) (by rw [Try.params12]; decide +kernel) rfl Try.underlying4 (walked enc)
theorem over : Rows.onetimePiecesRow.holds Try.pinned (OpenSpec.ofChange Rows.onetimePiecesSpec) :=
  OpenClaim.holds_of_wide 12 Try.f12 rfl rfl rfl rfl rfl rfl rfl ⟨rfl, rfl, rfl, rfl, rfl⟩ rfl rfl rfl rfl rfl (by kernel_rfl) Try.func12 (by kernel_rfl)
    (of_decide_eq_true (by kernel_rfl)) (by unfold Func.isWrapper; first | (rw [if_pos (by decide +kernel)]; kernel_rfl) | (rw [if_neg (by decide +kernel)]; exact ⟨rfl, rfl⟩))
    (fun os started H enc _ => lifted os started H enc)
end Go.Proofs.Ytcjfpcajjhccaaa.ROnetimePieces
namespace Go.Proofs.Ytcjfpcajjhccaaa
/-- The statement. -/
theorem OnetimePieces_holds : Rows.OnetimePiecesSaid := ROnetimePieces.over
#print axioms OnetimePieces_holds
end Go.Proofs.Ytcjfpcajjhccaaa
