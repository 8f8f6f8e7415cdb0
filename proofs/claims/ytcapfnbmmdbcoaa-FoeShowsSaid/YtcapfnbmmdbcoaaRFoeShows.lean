/- For every frame and every list of steps FoeShows returns true (all keys that every frame shows, and whether it is fair, are the document's), and each argument reads as before. Conditions: none. -/
import Derived.Test.YtcapfnbmmdbcoaaRows
import Derived.Test.YtcapfnbmmdbcoaaJ5
import Derived.Test.YtcapfnbmmdbcoaaO
set_option linter.unusedVariables false
set_option linter.unusedSimpArgs false
namespace Go.Proofs.Ytcapfnbmmdbcoaa.RFoeShows
open Go.ChangeShapes Go.WideShapes Go.ChangeAt Go.RowKit
open Go.ChangeMaps (open_string shut_string)
theorem own : ownKnob Try.prog.godebug = none := by kernel_rfl
theorem laidOut : laidOutB Try.prog = true := by kernel_rfl
set_option maxRecDepth 100000 in
theorem walked {H : Type} (enc : TypeId × Value → H) : Walked enc Try.prog 9 Try.f9 := by
  intro W base args ds ps hval hA hfz hlt
  rw [Try.params9] at hA hval
  obtain ⟨v0, vs0, d0, ds0, p0, q0, hargs, rfl, rfl, h0, r0⟩ := trodAll_cons hA
  obtain ⟨v1, vs1, d1, ds1, p1, q1, rfl, rfl, rfl, h1, r1⟩ := trodAll_cons r0
  obtain ⟨rfl, rfl, rfl⟩ := trodAll_nil r1
  obtain rfl : args = #[v0, v1] := by cases args; simp_all
  have V0 := hval 0 77 v0 rfl rfl
  have V1 := hval 1 39 v1 rfl rfl
  obtain ⟨fr0, fx0, rfl, hO0, hF0⟩ := opened_frame V0 h0
  obtain ⟨A1, cap1, cks1, rfl, hR1, hn1, hs1⟩ := opened_cks V1 h1
  exact FoeShows9 A1 cap1 cks1 fr0 fx0 W hR1 hO0 hF0
set_option maxRecDepth 100000 in
theorem lifted (os : Os) (started : os.Started) (H : Type) (enc : TypeId × Value → H) :
    ReturnsInHanded {} Try.checked os 9 .any (Rows.foeShowsSpec.pre6 enc Try.prog Try.f9 Rows.foeShowsRow.domain false) (Rows.foeShowsSpec.post enc Try.prog Try.f9 false true false false) :=
  lifted_gen (C := Try.checked) own started (by kernel_rfl) Try.func9
    (ChangeSpec.witness6 (enc := enc) (C := Try.checked) false ⟨#[], #[.agg #[.int .i64 0, .int .i64 0, .int .i64 0, .int .u32 0, .slice none 0 0, .int .i64 0, .slice none 0 0, .int .u8 0, .int .u8 0, .int .u8 0, .int .u8 0, .int .u8 0, .int .u8 0, .int .u8 0, .int .u8 0, .int .u8 0, .int .u8 0, .int .u8 0, .int .u8 0, .int .u8 0, .int .u8 0, .int .u8 0, .int .u8 0, .int .u8 0, .int .u8 0, .int .u8 0, .int .u8 0, .int .u8 0, .int .u8 0, .int .u8 0, .int .u8 0, .int .u8 0, .int .u8 0, .int .u8 0, .int .u8 0, .int .u8 0, .int .u8 0, .int .u8 0, .int .u8 0, .int .u8 0, .int .u8 0, .int .u8 0, .int .u8 0, .int .u8 0, .int .u8 0, .int .u8 0, .int .u8 0, .int .u8 0, .int .u8 0, .int .u8 0, .int .u8 0, .int .u8 0, .int .u8 0, .int .u8 0, .int .u8 0, .int .u8 0, .int .u8 0, .int .u8 0, .int .u8 0, .int .u8 0, .int .u8 0, .int .u8 0, .int .u8 0, .int .u8 0, .int .u8 0, .int .u8 0, .int .u8 0, .int .u8 0, .int .u8 0, .int .u8 0, .int .u8 0, .string ⟨#[]⟩, .slice none 0 0, .slice none 0 0], .slice none 0 0], []⟩ 8 (by kernel_rfl) (by kernel_rfl) (by kernel_rfl) (by kernel_rfl))
    laidOut rfl (fun ds h => by rw [Try.params9] at h; match ds, h with | [d0, d1], _ => rfl) (by rw [Try.params9]; decide +kernel) rfl Try.underlying4 (walked enc)
theorem over : Rows.foeShowsRow.holds Try.pinned (OpenSpec.ofChange Rows.foeShowsSpec) :=
  OpenClaim.holds_of_wide 9 Try.f9 rfl rfl rfl rfl rfl rfl rfl ⟨rfl, rfl, rfl, rfl, rfl⟩ rfl rfl rfl rfl rfl (by kernel_rfl) Try.func9 (by kernel_rfl)
    (of_decide_eq_true (by kernel_rfl)) (by unfold Func.isWrapper; first | (rw [if_pos (by decide +kernel)]; kernel_rfl) | (rw [if_neg (by decide +kernel)]; exact ⟨rfl, rfl⟩))
    (fun os started H enc _ => lifted os started H enc)
end Go.Proofs.Ytcapfnbmmdbcoaa.RFoeShows
namespace Go.Proofs.Ytcapfnbmmdbcoaa
/-- The statement. -/
theorem FoeShows_holds : Rows.FoeShowsSaid := RFoeShows.over
#print axioms FoeShows_holds
end Go.Proofs.Ytcapfnbmmdbcoaa
