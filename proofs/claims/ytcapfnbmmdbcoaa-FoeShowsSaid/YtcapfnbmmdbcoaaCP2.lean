/- Plain laws: the keys of an opened box are learnt. No walk. -/
import Derived.Test.YtcapfnbmmdbcoaaCP
set_option linter.unusedVariables false
set_option linter.unusedSimpArgs false
namespace Go.Proofs.Ytcapfnbmmdbcoaa
open Go.RowKit
/-- What the inner loop keeps: of the keys ks the first j are learnt. -/
structure InnerI (ts : List Tm) (bs bs' bs1 : List Bool) (more more1 : Bool) (ks : List (List Int)) (j : Nat) : Prop where
  ge : LeB bs' bs1
  le : ∀ X, LeB bs X → Closed ts X → LeB bs1 X
  no : more1 = false → more = false ∧ bs1 = bs' ∧ ∀ k ∈ ks.take j, knownK bs' k
  yes : more1 = true → blank bs1 < blank bs
  all : blank bs1 ≤ blank bs
theorem learn_blank {bs : List Bool} {k : List Int} (hk : learnB bs k = true) (hn : numT bs.length k < bs.length) : blank (learnL bs k) + 1 = blank bs := by
  unfold learnB at hk
  simp only [Bool.and_eq_true, decide_eq_true_eq, Bool.not_eq_true'] at hk
  obtain ⟨h0, h1⟩ := hk
  rw [learnL, if_pos h0]
  refine blank_set ?_
  have hl : (numT bs.length k).toNat < bs.length := by omega
  rw [List.getD_eq_getElem?_getD, List.getElem?_eq_getElem hl] at h1
  rw [List.getElem?_eq_getElem hl]
  exact congrArg some h1
theorem InnerI.step {ts : List Tm} {bs bs' bs1 : List Bool} {more more1 : Bool} {ks : List (List Int)} {j : Nat} {k : List Int} (h : InnerI ts bs bs' bs1 more more1 ks j) (hk : ks[j]? = some k) (hn : numT bs1.length k < bs1.length) (hX : ∀ X, LeB bs X → Closed ts X → knownK X k) :
    InnerI ts bs bs' (learnL bs1 k) more (learnB bs1 k || more1) ks (j + 1) := by
  refine ⟨h.ge.trans (learn_ge _ _), fun X hb hc => learn_le (h.le X hb hc) (hX X hb hc), fun hm => ?_, fun hm => ?_, ?_⟩
  · simp only [Bool.or_eq_false_iff] at hm
    obtain ⟨h1, h2⟩ := hm
    obtain ⟨a1, a2, a3⟩ := h.no h2
    obtain ⟨b1, b2⟩ := learn_no h1
    refine ⟨a1, by rw [b1, a2], fun q hq => ?_⟩
    obtain ⟨hl, rfl⟩ := List.getElem?_eq_some_iff.1 hk
    rw [List.take_succ_eq_append_getElem hl] at hq
    rcases List.mem_append.1 hq with hq | hq
    · exact a3 q hq
    · rw [List.mem_singleton] at hq
      subst hq
      rw [← a2]
      exact b2
  · cases hb : learnB bs1 k
    · rw [hb, Bool.false_or] at hm
      rw [(learn_no hb).1]
      exact h.yes hm
    · have := learn_blank hb hn
      have := h.all
      omega
  · cases hb : learnB bs1 k
    · rw [(learn_no hb).1]
      exact h.all
    · have := learn_blank hb hn
      have := h.all
      omega
end Go.Proofs.Ytcapfnbmmdbcoaa
