/- Walks of the relay layer's laws: what an act does, as one function; what every right program answers. -/
import Derived.Test.YtbofobkpplncaaaB7
set_option linter.unusedVariables false
set_option linter.unusedSimpArgs false
namespace Go.Proofs.Ytbofobkpplncaaa
open Go.RowKit
abbrev Boxes : Type := List (List ByteArray)
def inA (to : Int) : Prop := 0 ≤ to ∧ to < 8
instance decIn (to : Int) : Decidable (inA to) := by unfold inA; exact inferInstance
instance decHas (Ls : Boxes) (to i : Int) : Decidable (hasA Ls to i) := by unfold hasA; exact inferInstance
def getA (Ls : Boxes) (to i : Int) : ByteArray := (Ls.getD to.toNat []).getD i.toNat ByteArray.empty
def postA (Ls : Boxes) (to : Int) (s : ByteArray) : Boxes × Int := if inA to then (Ls.set to.toNat (postL (Ls.getD to.toNat []) s), 0) else (Ls, 1)
def takeA (Ls : Boxes) (to i : Int) : Boxes × ByteArray × Int := if hasA Ls to i then (Ls.set to.toNat (takeL (Ls.getD to.toNat []) i.toNat), getA Ls to i, 0) else (Ls, ⟨#[]⟩, 22)
def doubleA (Ls : Boxes) (to i : Int) : Boxes × Int := if hasA Ls to i then (Ls.set to.toNat (postL (Ls.getD to.toNat []) (getA Ls to i)), 0) else (Ls, 22)
def moveA (Ls : Boxes) (to i k : Int) : Boxes × Int :=
  if hasA Ls to i then if 0 ≤ k ∧ k < ((Ls.getD to.toNat []).length : Nat) then (Ls.set to.toNat (insL (takeL (Ls.getD to.toNat []) i.toNat) k.toNat (getA Ls to i)), 0) else (Ls, 1) else (Ls, 22)
def stepA (Ls : Boxes) (kind to i k : Int) (s : ByteArray) : Boxes × ByteArray × Int :=
  if kind.tmod 5 = 0 then ((postA Ls to s).1, ⟨#[]⟩, (postA Ls to s).2)
  else if kind.tmod 5 = 1 then takeA Ls to i
  else if kind.tmod 5 = 2 then ((takeA Ls to i).1, ⟨#[]⟩, (takeA Ls to i).2.2)
  else if kind.tmod 5 = 3 then ((doubleA Ls to i).1, ⟨#[]⟩, (doubleA Ls to i).2)
  else if kind.tmod 5 = 4 then ((moveA Ls to i k).1, ⟨#[]⟩, (moveA Ls to i k).2)
  else (Ls, ⟨#[]⟩, 0)
theorem hasA_nat {Ls : Boxes} {to i : Int} (h : hasA Ls to i) : ∃ k n : Nat, to = k ∧ i = n ∧ k < 8 ∧ (Ls.getD k [])[n]? = some (getA Ls to i) ∧ n < (Ls.getD k []).length := by
  obtain ⟨h1, h2, h3, h4⟩ := h
  obtain ⟨k, rfl⟩ := Int.eq_ofNat_of_zero_le h1
  obtain ⟨n, rfl⟩ := Int.eq_ofNat_of_zero_le h3
  rw [Int.toNat_natCast] at h4
  have hn : n < (Ls.getD k []).length := by omega
  refine ⟨k, n, rfl, rfl, by omega, ?_, hn⟩
  rw [getA, Int.toNat_natCast, Int.toNat_natCast]
  generalize Ls.getD k [] = L at hn
  rw [List.getD_eq_getElem?_getD, List.getElem?_eq_getElem hn, Option.getD_some]
theorem Post14_any (g : Nat) (to : Int) (s : ByteArray) (Ls : Boxes) (vs : List Value) (w : World) (h : RS w g 28 Ls vs) : Calls Try.prog 14 #[.pointer (some ⟨g, 0, none⟩), .int .i64 to, .string s] w (ActR w g 28 vs (postA Ls to s).1 (.int .i64 (postA Ls to s).2)) := by
  unfold postA
  by_cases hto : inA to
  · rw [if_pos hto]
    obtain ⟨k, rfl⟩ := Int.eq_ofNat_of_zero_le hto.1
    exact Post14_in g k s Ls vs w h (by have := hto.2; omega)
  · rw [if_neg hto]
    exact Post14_out g to s Ls vs w h (by unfold inA at hto; omega)
theorem Post8_any (g : Nat) (to : Int) (s : ByteArray) (Ls : Boxes) (vs : List Value) (w : World) (h : RS w g 31 Ls vs) : Calls Try.prog 8 #[.pointer (some ⟨g, 0, none⟩), .int .i64 to, .string s] w (ActR w g 31 vs (postA Ls to s).1 (.int .i64 (postA Ls to s).2)) := by
  unfold postA
  by_cases hto : inA to
  · rw [if_pos hto]
    obtain ⟨k, rfl⟩ := Int.eq_ofNat_of_zero_le hto.1
    exact Post8_in g k s Ls vs w h (by have := hto.2; omega)
  · rw [if_neg hto]
    exact Post8_out g to s Ls vs w h (by unfold inA at hto; omega)
theorem Take16_any (g : Nat) (to i : Int) (Ls : Boxes) (vs : List Value) (w : World) (h : RS w g 28 Ls vs) : Calls Try.prog 16 #[.pointer (some ⟨g, 0, none⟩), .int .i64 to, .int .i64 i] w (ActR w g 28 vs (takeA Ls to i).1 (.tuple #[.string (takeA Ls to i).2.1, .int .i64 (takeA Ls to i).2.2])) := by
  unfold takeA
  by_cases hh : hasA Ls to i
  · rw [if_pos hh]
    obtain ⟨k, n, rfl, rfl, hk, hn, _⟩ := hasA_nat hh
    exact Take16_in g k n _ Ls vs w h hk hn
  · rw [if_neg hh]
    exact Take16_no g to i Ls vs w h hh
theorem Take9_any (g : Nat) (to i : Int) (Ls : Boxes) (vs : List Value) (w : World) (h : RS w g 31 Ls vs) : Calls Try.prog 9 #[.pointer (some ⟨g, 0, none⟩), .int .i64 to, .int .i64 i] w (ActR w g 31 vs (takeA Ls to i).1 (.tuple #[.string (takeA Ls to i).2.1, .int .i64 (takeA Ls to i).2.2])) := by
  unfold takeA
  by_cases hh : hasA Ls to i
  · rw [if_pos hh]
    obtain ⟨k, n, rfl, rfl, hk, hn, _⟩ := hasA_nat hh
    exact Take9_in g k n _ Ls vs w h hk hn
  · rw [if_neg hh]
    exact Take9_no g to i Ls vs w h hh
theorem Drop17_any (g : Nat) (to i : Int) (Ls : Boxes) (vs : List Value) (w : World) (h : RS w g 28 Ls vs) : Calls Try.prog 17 #[.pointer (some ⟨g, 0, none⟩), .int .i64 to, .int .i64 i] w (ActR w g 28 vs (takeA Ls to i).1 (.int .i64 (takeA Ls to i).2.2)) := by
  unfold takeA
  by_cases hh : hasA Ls to i
  · rw [if_pos hh]
    obtain ⟨k, n, rfl, rfl, hk, hn, _⟩ := hasA_nat hh
    exact Drop17_in g k n _ Ls vs w h hk hn
  · rw [if_neg hh]
    exact Drop17_no g to i Ls vs w h hh
theorem Double18_any (g : Nat) (to i : Int) (Ls : Boxes) (vs : List Value) (w : World) (h : RS w g 28 Ls vs) : Calls Try.prog 18 #[.pointer (some ⟨g, 0, none⟩), .int .i64 to, .int .i64 i] w (ActR w g 28 vs (doubleA Ls to i).1 (.int .i64 (doubleA Ls to i).2)) := by
  unfold doubleA
  by_cases hh : hasA Ls to i
  · rw [if_pos hh]
    obtain ⟨k, n, rfl, rfl, hk, hn, _⟩ := hasA_nat hh
    exact Double18_in g k n _ Ls vs w h hk hn
  · rw [if_neg hh]
    exact Double18_no g to i Ls vs w h hh
theorem Double10_any (g : Nat) (to i : Int) (Ls : Boxes) (vs : List Value) (w : World) (h : RS w g 31 Ls vs) : Calls Try.prog 10 #[.pointer (some ⟨g, 0, none⟩), .int .i64 to, .int .i64 i] w (ActR w g 31 vs (doubleA Ls to i).1 (.int .i64 (doubleA Ls to i).2)) := by
  unfold doubleA
  by_cases hh : hasA Ls to i
  · rw [if_pos hh]
    obtain ⟨k, n, rfl, rfl, hk, hn, _⟩ := hasA_nat hh
    exact Double10_in g k n _ Ls vs w h hk hn
  · rw [if_neg hh]
    exact Double10_no g to i Ls vs w h hh
theorem Move15_any (g : Nat) (to i k : Int) (Ls : Boxes) (vs : List Value) (w : World) (h : RS w g 28 Ls vs) : Calls Try.prog 15 #[.pointer (some ⟨g, 0, none⟩), .int .i64 to, .int .i64 i, .int .i64 k] w (ActR w g 28 vs (moveA Ls to i k).1 (.int .i64 (moveA Ls to i k).2)) := by
  unfold moveA
  by_cases hh : hasA Ls to i
  · rw [if_pos hh]
    obtain ⟨m, n, rfl, rfl, hm, hn, _⟩ := hasA_nat hh
    by_cases hk : 0 ≤ k ∧ k < ((Ls.getD (m : Int).toNat []).length : Nat)
    · rw [if_pos hk]
      obtain ⟨q, rfl⟩ := Int.eq_ofNat_of_zero_le hk.1
      exact Move15_in g m n q _ Ls vs w h hm hn (by have := hk.2; rw [Int.toNat_natCast] at this; omega)
    · rw [if_neg hk]
      exact Move15_far g m n k _ Ls vs w h hm hn (by rw [Int.toNat_natCast] at hk; omega)
  · rw [if_neg hh]
    exact Move15_no g to i k Ls vs w h hh
theorem Move11_any (g : Nat) (to i k : Int) (Ls : Boxes) (vs : List Value) (w : World) (h : RS w g 31 Ls vs) : Calls Try.prog 11 #[.pointer (some ⟨g, 0, none⟩), .int .i64 to, .int .i64 i, .int .i64 k] w (ActR w g 31 vs (moveA Ls to i k).1 (.int .i64 (moveA Ls to i k).2)) := by
  unfold moveA
  by_cases hh : hasA Ls to i
  · rw [if_pos hh]
    obtain ⟨m, n, rfl, rfl, hm, hn, _⟩ := hasA_nat hh
    by_cases hk : 0 ≤ k ∧ k < ((Ls.getD (m : Int).toNat []).length : Nat)
    · rw [if_pos hk]
      obtain ⟨q, rfl⟩ := Int.eq_ofNat_of_zero_le hk.1
      exact Move11_in g m n q _ Ls vs w h hm hn (by have := hk.2; rw [Int.toNat_natCast] at this; omega)
    · rw [if_neg hk]
      exact Move11_far g m n k _ Ls vs w h hm hn (by rw [Int.toNat_natCast] at hk; omega)
  · rw [if_neg hh]
    exact Move11_no g to i k Ls vs w h hh
def ActW (w : World) (g : Nat) (t : TypeId) (vs : List Value) (Ls' : Boxes) (w' : World) : Prop := ∃ vs', RS w' g t Ls' vs' ∧ w.grownBy w' (some g) ∧ FreshV w.heap.size vs vs'
theorem ActR.meth {w w1 : World} {g : Nat} {t : TypeId} {vs : List Value} {Ls' : Boxes} {v : Value} (hb : Below w.heap.size w w1) : ∀ e w', ActR w1 g t vs Ls' v e w' → MethR v (ActW w g t vs Ls') e w' := fun e w' ⟨vs', h1, h2, h3, h4⟩ =>
  ⟨h1, vs', h2, (grown_of_below hb _).trans h3, fun i v hv => (h4 i v hv).imp id (fun h A m c e ad hA => Nat.le_trans hb.size (h A m c e ad hA))⟩
/-- What a law does to a relay. -/
theorem Do7 (g : Nat) (kind to i k : Int) (s : ByteArray) (Ls : Boxes) (vs : List Value) (w : World) (h : RS w g 28 Ls vs) :
    Calls Try.prog 7 #[.pointer (some ⟨g, 0, none⟩), .agg (actC kind to i k s).toArray] w (MethR (.tuple #[.string (stepA Ls kind to i k s).2.1, .int .i64 (stepA Ls kind to i k s).2.2]) (ActW w g 28 vs (stepA Ls kind to i k s).1)) := by
  unfold stepA
  by_cases h0 : kind.tmod 5 = 0
  · simp only [if_pos h0]
    exact do7_k0 _ kind to i k s w _ h0 fun w' hb => (Post14_any g to s Ls vs w' (h.below hb)).mono (ActR.meth hb)
  simp only [if_neg h0]
  by_cases h1 : kind.tmod 5 = 1
  · simp only [if_pos h1]
    exact do7_k1 _ kind to i k s w _ h1 fun w' hb => (Take16_any g to i Ls vs w' (h.below hb)).mono (ActR.meth hb)
  simp only [if_neg h1]
  by_cases h2 : kind.tmod 5 = 2
  · simp only [if_pos h2]
    exact do7_k2 _ kind to i k s w _ h2 fun w' hb => (Drop17_any g to i Ls vs w' (h.below hb)).mono (ActR.meth hb)
  simp only [if_neg h2]
  by_cases h3 : kind.tmod 5 = 3
  · simp only [if_pos h3]
    exact do7_k3 _ kind to i k s w _ h3 fun w' hb => (Double18_any g to i Ls vs w' (h.below hb)).mono (ActR.meth hb)
  simp only [if_neg h3]
  by_cases h4 : kind.tmod 5 = 4
  · simp only [if_pos h4]
    exact do7_k4 _ kind to i k s w _ h4 fun w' hb => (Move15_any g to i k Ls vs w' (h.below hb)).mono (ActR.meth hb)
  simp only [if_neg h4]
  have h5 := Int.tmod_lt_of_pos kind (show (0 : Int) < 5 by decide)
  have h6 := Int.lt_tmod_of_pos kind (show (0 : Int) < 5 by decide)
  exact do7_no _ kind to i k s w _ (by omega) fun w' hb => ⟨vs, h.below hb, grown_of_below hb _, FreshV.refl _ _⟩
end Go.Proofs.Ytbofobkpplncaaa
