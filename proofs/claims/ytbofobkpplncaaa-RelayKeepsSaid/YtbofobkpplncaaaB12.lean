/- A slice of acts among a law's arguments. -/
import Derived.Test.YtbofobkpplncaaaB10
import Derived.Test.YtbofobkpplncaaaO
import Derived.Deep.Slices
import Derived.Deep.Fields
import Derived.ChangeSame
import Derived.ChangeSlices
set_option linter.unusedVariables false
set_option linter.unusedSimpArgs false
namespace Go.Proofs.Ytbofobkpplncaaa
open Go.RowKit Go.ChangeShapes Go.WideShapes Go.Deep
section
variable {H : Type} {enc : TypeId × Value → H} {P : Program} {w : World} {base : Nat} {spare : Nat → Bool} {held : Bool}
theorem open_slice_fields {t e : TypeId} {fs : Array Field} {fuel : Nat} {cs : List Value} {x : DataW H × List MemPlace} (ht : P.underlying t = some (.slice e)) (he : P.underlying e = some (.struct fs))
    (hone : oneCellFields P fs = true) (hC : P.cellsOf e = fs.size) (h : DataW.trod enc P w base spare held fuel t cs = some x) :
    (cs = [.slice none 0 0] ∧ x = (.nil, [])) ∨
    ∃ (a : Addr) (len cap m : Nat), cs = [.slice (some a) len cap] ∧ len ≤ cap ∧ cap ≤ maxLen ∧ m = (if spare a.block then cap else len) ∧
      ∀ i, i < m → ∃ (n : Nat), ∀ (j : Nat) (f : Field), fs[j]? = some f → ∃ (v : Value) (y : DataW H × List MemPlace), w.cell? (a.add (i * fs.size + j)) = some v ∧ DataW.trod enc P w base spare held n f.type [v] = some y := by
  rcases open_slice ht h with h0 | ⟨a, len, cap, m, n, D, Pl, hcs, hb, hl, hm, hmm, hx, hi⟩
  · exact .inl h0
  · refine .inr ⟨a, len, cap, m, hcs, hl, hm, hmm, fun i him => ?_⟩
    obtain ⟨cs', hc, ht'⟩ := hi i him
    rw [hC] at hc
    obtain ⟨ys, n', hn', hy, hlen, hyl, hf⟩ := DataW.trod_struct he ht'
    obtain ⟨_, hcl, hat⟩ := World.cells?_some hc
    refine ⟨n', fun j f hj => ?_⟩
    obtain ⟨ho, hk⟩ := hone_of hone j f hj
    have hjl : j < fs.size := (Array.getElem?_eq_some_iff.1 hj).1
    have hcell := hat j hjl
    have hv : cs'[j]? = some (cs'[j]'(by omega)) := List.getElem?_eq_getElem (by omega)
    have h1 := hf j f hj
    rw [ho, hk] at h1
    have hone' : (cs'.drop j).take 1 = [cs'[j]'(by omega)] := by
      rw [List.drop_eq_getElem_cons (by omega)]
      rfl
    rw [hone'] at h1
    have hys : ys[j]? = some (ys[j]'(by omega)) := List.getElem?_eq_getElem (by omega)
    refine ⟨_, _, ?_, h1.trans hys⟩
    rw [← Go.Deep.add_add, hcell, hv]
end
theorem list_of {α : Type} {p : Nat → α → Prop} : ∀ n : Nat, (∀ i, i < n → ∃ a, p i a) → ∃ l : List α, l.length = n ∧ ∀ (i : Nat) (a : α), l[i]? = some a → p i a
  | 0, _ => ⟨[], rfl, fun i a h => by simp at h⟩
  | n + 1, h => by
    obtain ⟨l, hl, hp⟩ := list_of n (fun i hi => h i (by omega))
    obtain ⟨a, ha⟩ := h n (by omega)
    refine ⟨l ++ [a], by simp [hl], fun i b hb => ?_⟩
    by_cases hi : i < n
    · rw [List.getElem?_append_left (by omega)] at hb
      exact hp i b hb
    · rw [List.getElem?_append_right (by omega)] at hb
      have h0 : i - l.length = 0 := by
        have := (List.getElem?_eq_some_iff.1 hb).1
        simp at this
        omega
      rw [h0] at hb
      simp only [List.getElem?_cons_zero, Option.some.injEq] at hb
      subst hb
      obtain rfl : i = n := by omega
      exact ha
/-- A slice of acts among the arguments. -/
theorem opened_acts {H : Type} {enc : TypeId × Value → H} {W : World} {base : Nat} {v : Value} {d : DataW H} {p : List MemPlace} (hv : Value.okWide Try.prog W Reach.any base 22 v) (h : DataW.Trod enc Try.prog W 0 (fun _ => true) true 22 v d p) :
    ∃ (A : Option Addr) (cap : Nat) (acts : List ActV), v = .slice A acts.length cap ∧ ActsR W A acts ∧ acts.length ≤ maxLen ∧ ∀ a ∈ acts, a.s.size ≤ maxLen := by
  obtain ⟨a0, len0, cap0, rfl⟩ := Go.WideShapes.okWide_slice Try.underlying22 hv
  obtain ⟨fuel, hf⟩ := h
  rcases open_slice_fields Try.underlying22 Try.underlying33 (by kernel_rfl) (by kernel_rfl) hf with ⟨hcs, hx⟩ | ⟨ad, len, cap, m, hcs, hl, hm, hmm, hi⟩
  · have hcs' : Value.slice a0 len0 cap0 = .slice none 0 0 := by simpa [Value.cells] using hcs
    injection hcs' with h1 h2 h3
    subst h1 h2 h3
    exact ⟨none, 0, [], rfl, fun i s h => by simp at h, by decide, fun p hp => by simp at hp⟩
  · have hcs' : Value.slice a0 len0 cap0 = .slice (some ad) len cap := by simpa [Value.cells] using hcs
    injection hcs' with h1 h2 h3
    subst h1 h2 h3
    rw [if_pos rfl] at hmm
    have key : ∀ i, i < len0 → ∃ a : ActV, a.s.size ≤ maxLen ∧ ∃ b off, ad = ⟨b, off, none⟩ ∧ ∀ (f : Nat) (v : Value), a.cs[f]? = some v → W.cell? ⟨b, off + i * 5 + f, none⟩ = some v := by
      intro i hil
      obtain ⟨n, hf⟩ := hi i (by omega)
      obtain ⟨v0, y0, c0, t0⟩ := hf 0 _ rfl
      obtain ⟨v1, y1, c1, t1⟩ := hf 1 _ rfl
      obtain ⟨v2, y2, c2, t2⟩ := hf 2 _ rfl
      obtain ⟨v3, y3, c3, t3⟩ := hf 3 _ rfl
      obtain ⟨v4, y4, c4, t4⟩ := hf 4 _ rfl
      obtain ⟨kind, e0, _, _⟩ := DataW.trod_int Try.underlying3 t0
      obtain ⟨to, e1, _, _⟩ := DataW.trod_int Try.underlying3 t1
      obtain ⟨j, e2, _, _⟩ := DataW.trod_int Try.underlying3 t2
      obtain ⟨k, e3, _, _⟩ := DataW.trod_int Try.underlying3 t3
      obtain ⟨s, e4, _, hs⟩ := DataW.trod_string Try.underlying9 t4
      simp only [List.cons.injEq, and_true] at e0 e1 e2 e3 e4
      subst e0 e1 e2 e3 e4
      obtain ⟨b, off, spot⟩ := ad
      obtain ⟨n0, hf0⟩ := hi 0 (by omega)
      obtain ⟨_, _, c00, _⟩ := hf0 0 _ rfl
      have hspot : spot = none := by simpa [Addr.add] using World.cell?_spot c00
      subst hspot
      refine ⟨⟨kind, to, j, k, s⟩, hs, b, off, rfl, fun f v hv => ?_⟩
      have e5 : ∀ q, (⟨b, off, none⟩ : Addr).add (i * 5 + q) = ⟨b, off + i * 5 + q, none⟩ := fun q => by rw [Addr.add_lit, Nat.add_assoc]
      match f, hv with
      | 0, hv => injection hv with hv; subst hv; rw [← e5]; exact c0
      | 1, hv => injection hv with hv; subst hv; rw [← e5]; exact c1
      | 2, hv => injection hv with hv; subst hv; rw [← e5]; exact c2
      | 3, hv => injection hv with hv; subst hv; rw [← e5]; exact c3
      | 4, hv => injection hv with hv; subst hv; rw [← e5]; exact c4
      | f + 5, hv => cases hv
    obtain ⟨acts, hal, hap⟩ := list_of len0 key
    refine ⟨some ad, cap0, acts, by rw [hal], fun j a hja => ?_, by rw [hal]; omega, fun a ha => ?_⟩
    · obtain ⟨_, b, off, rfl, hc⟩ := hap j a hja
      exact ⟨b, off, rfl, hc⟩
    · obtain ⟨j, hj, rfl⟩ := List.getElem_of_mem ha
      exact (hap j _ (List.getElem?_eq_getElem hj)).1
end Go.Proofs.Ytbofobkpplncaaa
