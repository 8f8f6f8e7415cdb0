/- Walks of the relay layer's laws: what every right program answers; no relay; acts that came in. -/
import Derived.Test.YtbofobkpplncaaaB8
set_option linter.unusedVariables false
set_option linter.unusedSimpArgs false
namespace Go.Proofs.Ytbofobkpplncaaa
open Go.RowKit
def nil8 : List Value := List.replicate 8 (.slice none 0 0)
def boxes0 : Boxes := List.replicate 8 []
theorem z28 : (Try.prog.info? 28).map (·.zero) = some (some (.agg nil8.toArray)) := by kernel_rfl
theorem z31 : (Try.prog.info? 31).map (·.zero) = some (some (.agg nil8.toArray)) := by kernel_rfl
theorem b28 : ∀ w : World, (Instr.build 28 #[]).run Try.prog w = .ok (.agg nil8.toArray) w := fun w => by kernel_rfl
theorem b31 : ∀ w : World, (Instr.build 31 #[]).run Try.prog w = .ok (.agg nil8.toArray) w := fun w => by kernel_rfl
theorem RS.zero {w : World} {g : Nat} {t : TypeId} (h : w.heap[g]? = some (cellsO t nil8)) : RS w g t boxes0 nil8 := by
  refine ⟨h, rfl, rfl, fun i L hL => ?_⟩
  have hi : i < 8 := by
    have := (List.getElem?_eq_some_iff.1 hL).1
    simpa [boxes0] using this
  have hLe : L = [] := by
    rw [boxes0, List.getElem?_replicate_of_lt hi] at hL
    injection hL with hL
    exact hL.symm
  subst hLe
  exact ⟨none, 0, by rw [nil8, List.getElem?_replicate_of_lt hi]; rfl, by simp, fun _ => rfl, RowT.nil, by simp⟩
def aA : ByteArray := ⟨#[97]⟩
def aB : ByteArray := ⟨#[98]⟩
def L1 : Boxes := boxes0.set 1 (postL (boxes0.getD 1 []) aA)
def L2 : Boxes := L1.set 1 (postL (L1.getD 1 []) aB)
def L3 : Boxes := L2.set 1 (insL (takeL (L2.getD 1 []) 1) 0 aB)
def L4 : Boxes := L3.set 1 (takeL (L3.getD 1 []) 0)
set_option maxRecDepth 100000 in
theorem alive6 (w : World) : Calls Try.prog 6 #[] w (NilR w (.bool true)) := by
  have M0 := Mem.start w
  have h1 : ∀ (g : Nat) (vs : List Value) (w' : World), RS w' g 28 boxes0 vs → Calls Try.prog 14 #[.pointer (some ⟨g, 0, none⟩), .int .i64 1, .string ⟨#[97]⟩] w' (ActR w' g 28 vs L1 (.int .i64 0)) := fun g vs w' h => Post14_in g 1 aA boxes0 vs w' h (by decide)
  have H1 := hid h1
  have h2 : ∀ (g : Nat) (vs : List Value) (w' : World), RS w' g 28 L1 vs → Calls Try.prog 14 #[.pointer (some ⟨g, 0, none⟩), .int .i64 1, .string ⟨#[98]⟩] w' (ActR w' g 28 vs L2 (.int .i64 0)) := fun g vs w' h => Post14_in g 1 aB L1 vs w' h (by decide)
  have H2 := hid h2
  have h3 : ∀ (g : Nat) (vs : List Value) (w' : World), RS w' g 28 L2 vs → Calls Try.prog 15 #[.pointer (some ⟨g, 0, none⟩), .int .i64 1, .int .i64 1, .int .i64 0] w' (ActR w' g 28 vs L3 (.int .i64 0)) := fun g vs w' h => Move15_in g 1 1 0 aB L2 vs w' h (by decide) rfl (by decide)
  have H3 := hid h3
  have h4 : ∀ (g : Nat) (vs : List Value) (w' : World), RS w' g 28 L3 vs → Calls Try.prog 16 #[.pointer (some ⟨g, 0, none⟩), .int .i64 1, .int .i64 0] w' (ActR w' g 28 vs L4 (.tuple #[.string ⟨#[98]⟩, .int .i64 0])) := fun g vs w' h => Take16_in g 1 0 aB L3 vs w' h (by decide) rfl
  have H4 := hid h4
  have h5 : ∀ (g : Nat) (vs : List Value) (w' : World), RS w' g 28 L4 vs → Calls Try.prog 12 #[.pointer (some ⟨g, 0, none⟩), .int .i64 1] w' (MailR w' [aA]) := fun g vs w' h => Mail12_in g 1 L4 vs w' h (by decide)
  have H5 := hid h5
  clear h1 h2 h3 h4 h5
  go_enter Try.func6, Try.ntmps6
  go_wp2_with (first | (refine wpList_al rfl rfl M0 z28 rfl (fun b1 w1 M1 => ?_); (conv => arg 5; simp only [Act.put, List.setIfInBounds_toArray, List.set_cons_succ, List.set_cons_zero]); have hS := RS.zero (M1.holds _ List.mem_cons_self); have hb1 := (M1.fresh _ List.mem_cons_self b1 rfl).resolve_left (by simp)) | (go_at_call 14; refine (H1.out _ _ _ hS).mono ?_; rintro e w2 ⟨vs2, rfl, hS2, hg2, _⟩; clear H1) | (go_at_call 14; refine (H2.out _ _ _ hS2).mono ?_; rintro e w3 ⟨vs3, rfl, hS3, hg3, _⟩; clear H2) | (go_at_call 15; refine (H3.out _ _ _ hS3).mono ?_; rintro e w4 ⟨vs4, rfl, hS4, hg4, _⟩; clear H3) | (go_at_call 16; refine (H4.out _ _ _ hS4).mono ?_; rintro e w5 ⟨vs5, rfl, hS5, hg5, _⟩; clear H4) | (apply wpList_wantCall; (· rfl)) | (go_at_call 12; refine (H5.out _ _ _ hS5).mono ?_; rintro e w6 ⟨A6, c6, rfl, _, _, _, hb6, _⟩; clear H5))
  go_ret
  refine ⟨rfl, ?_⟩
  have hg := ((hg2.trans hg3).trans hg4).trans hg5
  have B1 : Below w.heap.size w w5 := ⟨hg.os.trans M1.os, hg.tape.trans M1.tape, hg.output.trans M1.output, Nat.le_trans M1.size hg.size, fun i hi => (hg.block i (Nat.lt_of_lt_of_le hi M1.size) (by simp; omega)).trans (M1.below.block i hi)⟩
  exact (M0.call B1).call hb6
end Go.Proofs.Ytbofobkpplncaaa
