/- Walks of the relay layer's laws: no relay; acts that came in; RelayPlays. -/
import Derived.Test.YtbofobkpplncaaaB9
set_option linter.unusedVariables false
set_option linter.unusedSimpArgs false
namespace Go.Proofs.Ytbofobkpplncaaa
open Go.RowKit
def nilE (kind : Int) : Int := if kind.tmod 5 = 0 then 1 else if 0 < kind.tmod 5 then 22 else 0
theorem NilR.meth {w w1 : World} {v : Value} (hb : Below w.heap.size w w1) : ∀ e w', NilR w1 v e w' → MethR v (fun w' => Below w.heap.size w w') e w' := fun e w' ⟨h1, M⟩ =>
  ⟨h1, ((Mem.start w).call hb |>.call M.below).below⟩
theorem Do7_nil (kind to i k : Int) (s : ByteArray) (w : World) :
    Calls Try.prog 7 #[.pointer none, .agg (actC kind to i k s).toArray] w (MethR (.tuple #[.string ⟨#[]⟩, .int .i64 (nilE kind)]) (fun w' => Below w.heap.size w w')) := by
  have h5 := Int.tmod_lt_of_pos kind (show (0 : Int) < 5 by decide)
  unfold nilE
  by_cases h0 : kind.tmod 5 = 0
  · rw [if_pos h0]
    exact do7_k0 _ kind to i k s w _ h0 fun w' hb => (Post14_nil to s w').mono (NilR.meth hb)
  rw [if_neg h0]
  by_cases hp : 0 < kind.tmod 5
  · rw [if_pos hp]
    rcases (show kind.tmod 5 = 1 ∨ kind.tmod 5 = 2 ∨ kind.tmod 5 = 3 ∨ kind.tmod 5 = 4 by omega) with h | h | h | h
    · exact do7_k1 _ kind to i k s w _ h fun w' hb => (Take16_nil to i w').mono (NilR.meth hb)
    · exact do7_k2 _ kind to i k s w _ h fun w' hb => (Drop17_nil to i w').mono (NilR.meth hb)
    · exact do7_k3 _ kind to i k s w _ h fun w' hb => (Double18_nil to i w').mono (NilR.meth hb)
    · exact do7_k4 _ kind to i k s w _ h fun w' hb => (Move15_nil to i k w').mono (NilR.meth hb)
  · rw [if_neg hp]
    exact do7_no _ kind to i k s w _ (by omega) fun w' hb => hb
structure ActV where
  kind : Int
  to : Int
  i : Int
  k : Int
  s : ByteArray
abbrev ActV.cs (a : ActV) : List Value := actC a.kind a.to a.i a.k a.s
/-- A slice that reads as some acts. -/
def ActsR (w : World) (A : Option Addr) (acts : List ActV) : Prop :=
  ∀ (j : Nat) (a : ActV), acts[j]? = some a → ∃ b off, A = some ⟨b, off, none⟩ ∧ ∀ (f : Nat) (v : Value), a.cs[f]? = some v → w.cell? ⟨b, off + j * 5 + f, none⟩ = some v
theorem below_cell {w w' : World} (hb : Below w.heap.size w w') {ad : Addr} {v : Value} (h : w.cell? ad = some v) : w'.cell? ad = some v := ((Mem.start w).call hb).cell0 h
theorem below_grown {n : Nat} {w w1 w2 : World} {g : Nat} (B : Below n w w1) (hn : n = w.heap.size) (hg : w1.grownBy w2 (some g)) (hle : w.heap.size ≤ g) : Below w.heap.size w w2 := by
  subst hn
  exact ⟨hg.os.trans B.os, hg.tape.trans B.tape, hg.output.trans B.output, Nat.le_trans B.size hg.size, fun i hi => (hg.block i (Nat.lt_of_lt_of_le hi B.size) (by simp; omega)).trans (B.block i hi)⟩
theorem z33 : (Try.prog.info? 33).map (·.zero) = some (some (.agg (actC 0 0 0 0 ByteArray.empty).toArray)) := by kernel_rfl
theorem sz33 : (Try.prog.info? 33).map (·.size) = some 5 := by kernel_rfl
def actAt (w : World) (b : Nat) (a : ActV) : Prop := w.heap[b]? = some (cellsO 33 a.cs)
theorem actAt.cell {w : World} {b : Nat} {a : ActV} (h : actAt w b a) (f : Nat) (v : Value) (hv : a.cs[f]? = some v) : w.cell? ⟨b, f, none⟩ = some v := RS.cell h hv
theorem actAt.below {w w' : World} {b : Nat} {a : ActV} (h : actAt w b a) (hb : Below w.heap.size w w') : actAt w' b a := by
  unfold actAt at *
  rw [hb.block b (Array.getElem?_eq_some_iff.1 h).1, h]
theorem actAt.grown {w w' : World} {b g : Nat} {a : ActV} (h : actAt w b a) (hg : w.grownBy w' (some g)) (hne : b ≠ g) : actAt w' b a := by
  unfold actAt at *
  rw [hg.block b (Array.getElem?_eq_some_iff.1 h).1 (by simpa using hne), h]
theorem MailRS {wx : World} {g k : Nat} {Ls : Boxes} {vs : List Value} {L : List ByteArray} (h : RS wx g 28 Ls vs) (hL : Ls[k]? = some L) (hk : k < 8) (w' : World) (M : Mem wx [] w' []) :
    Calls Try.prog 12 #[.pointer (some ⟨g, 0, none⟩), .int .i64 k] w' (MailR w' L) := by
  have hm := Mail12_in g k Ls vs w' (h.below M.below) hk
  rw [List.getD_eq_getElem?_getD, hL, Option.getD_some] at hm
  exact hm
end Go.Proofs.Ytbofobkpplncaaa
