/- Plain laws: what follows, as the least set that is closed. No walk. -/
import Derived.Test.YtcapfnbmmdbcoaaC11
set_option linter.unusedVariables false
set_option linter.unusedSimpArgs false
namespace Go.Proofs.Ytcapfnbmmdbcoaa
open Go.RowKit
/-- What a knows b knows. -/
structure LeB (a b : List Bool) : Prop where
  len : a.length = b.length
  le : ∀ i : Nat, a.getD i false = true → b.getD i false = true
theorem LeB.refl (a : List Bool) : LeB a a := ⟨rfl, fun _ h => h⟩
theorem LeB.trans {a b c : List Bool} (h : LeB a b) (h' : LeB b c) : LeB a c := ⟨h.len.trans h'.len, fun i hi => h'.le i (h.le i hi)⟩
theorem getD_set (bs : List Bool) (i j : Nat) : (bs.set i true).getD j false = (bs.getD j false || (decide (i = j) && decide (i < bs.length))) := by
  rw [List.getD_eq_getElem?_getD, List.getD_eq_getElem?_getD, List.getElem?_set]
  by_cases h : i = j
  · subst h
    by_cases hl : i < bs.length
    · simp [hl]
    · simp [hl]
  · simp [h]
theorem LeB.set {a b : List Bool} (h : LeB a b) {i : Nat} (hi : b.getD i false = true) : LeB (a.set i true) b :=
  ⟨by rw [List.length_set]; exact h.len, fun j hj => by
    rw [getD_set] at hj
    simp only [Bool.or_eq_true, Bool.and_eq_true, decide_eq_true_eq] at hj
    rcases hj with hj | ⟨rfl, _⟩
    · exact h.le j hj
    · exact hi⟩
theorem LeB.setR {a : List Bool} (i : Nat) : LeB a (a.set i true) :=
  ⟨by rw [List.length_set], fun j hj => by rw [getD_set, hj]; rfl⟩
theorem has_mono {a b : List Bool} (h : LeB a b) {k : List Int} (hk : hasM a k = true) : hasM b k = true := by
  unfold hasM at hk ⊢
  rw [← h.len]
  split at hk
  · rename_i h0
    rw [if_pos h0]
    exact h.le _ hk
  · rename_i h0
    rw [if_neg h0]
    exact hk
theorem pub_mono {ts : List Tm} {a b : List Bool} (h : LeB a b) {k : List Int} (hk : pubM ts a k = true) : pubM ts b k = true := by
  unfold pubM at hk ⊢
  simp only [Bool.or_eq_true, Bool.and_eq_true] at hk ⊢
  rcases hk with hk | ⟨h1, h2⟩
  · exact .inl (has_mono h hk)
  · exact .inr ⟨h1, h.le _ h2⟩
theorem made_mono {ts : List Tm} {a b : List Bool} (h : LeB a b) {t : Tm} (hk : madeM ts a t = true) : madeM ts b t = true := by
  unfold madeM at hk ⊢
  split at hk
  · cases hk
  · rename_i h1
    rw [if_neg h1]
    split at hk
    · rename_i h4
      rw [if_pos h4]
      simp only [Bool.or_eq_true, Bool.and_eq_true] at hk ⊢
      rcases hk with ⟨h2, h3⟩ | ⟨h2, h3⟩
      · exact .inl ⟨has_mono h h2, pub_mono h h3⟩
      · exact .inr ⟨has_mono h h2, pub_mono h h3⟩
    · rename_i h4
      rw [if_neg h4]
      rw [List.all_eq_true] at hk ⊢
      exact fun k hk' => has_mono h (hk k hk')
/-- Key k is known (or is no name of a term that is there). -/
def knownK (bs : List Bool) (k : List Int) : Prop := 0 ≤ numT bs.length k → bs.getD (numT bs.length k).toNat false = true
/-- Whatever follows of what is known is known: of term i. -/
structure ClosedAt (ts : List Tm) (bs : List Bool) (i : Nat) (t : Tm) : Prop where
  make : madeM ts bs t = true → bs.getD i false = true
  unbox : bs.getD i false = true → t.kind = 6 → hasM bs (t.keys.getD 0 []) = true → ∀ k ∈ t.keys.drop 2, knownK bs k
def Closed (ts : List Tm) (bs : List Bool) : Prop := ∀ (i : Nat) (t : Tm), ts[i]? = some t → ClosedAt ts bs i t
theorem learn_le {a b : List Bool} (h : LeB a b) {k : List Int} (hk : knownK b k) : LeB (learnL a k) b := by
  unfold learnL
  split
  · rename_i h0
    exact h.set (by rw [h.len]; rw [h.len] at h0; exact hk h0)
  · exact h
theorem learn_ge (a : List Bool) (k : List Int) : LeB a (learnL a k) := by
  unfold learnL
  split
  · exact LeB.setR _
  · exact LeB.refl _
theorem learn_no {a : List Bool} {k : List Int} (h : learnB a k = false) : learnL a k = a ∧ knownK a k := by
  unfold learnB at h
  by_cases h0 : 0 ≤ numT a.length k
  · rw [decide_eq_true h0, Bool.true_and, Bool.not_eq_false'] at h
    refine ⟨?_, fun _ => h⟩
    rw [learnL, if_pos h0]
    rw [List.getD_eq_getElem?_getD] at h
    cases hg : a[(numT a.length k).toNat]? with
    | none => rw [hg] at h; cases h
    | some b =>
      rw [hg] at h
      obtain rfl : b = true := h
      exact set_same hg
  · exact ⟨by rw [learnL, if_neg h0], fun h1 => absurd h1 h0⟩
/-- How much isn't known. -/
def blank (bs : List Bool) : Nat := bs.countP (· == false)
theorem blank_set : ∀ {bs : List Bool} {i : Nat}, bs[i]? = some false → blank (bs.set i true) + 1 = blank bs
  | b :: bs, 0, h => by
    simp only [List.getElem?_cons_zero, Option.some.injEq] at h
    subst h
    simp [blank]
  | b :: bs, i + 1, h => by
    simp only [List.getElem?_cons_succ] at h
    have := blank_set h
    simp only [blank, List.set_cons_succ, List.countP_cons] at this ⊢
    omega
end Go.Proofs.Ytcapfnbmmdbcoaa
