/- Plain laws: names are known by their numbers; what follows, reckoned by rounds. No walk. -/
import Derived.Test.YtcapfnbmmdbcoaaCT
set_option linter.unusedVariables false
set_option linter.unusedSimpArgs false
namespace Go.Proofs.Ytcapfnbmmdbcoaa
open Go.RowKit
/-- The name of term i. -/
def kn (i : Nat) : List Int := nameL (i : Int)
theorem kn_ok (i : Nat) : KeyOk (kn i) := nameL_ok _
theorem kn_len (i : Nat) : (kn i).length = 32 := (kn_ok i).1
theorem numK_kn {i : Nat} (h : i < 4294967296) : numK (kn i) = i := by
  simp only [kn, numK, nameL, fourL, rd, List.cons_append, List.nil_append, List.getD_cons_succ, List.getD_cons_zero]
  omega
theorem numT_kn {n i : Nat} (h : i < 4294967296) : numT n (kn i) = if i < n then (i : Int) else -1 := by
  rw [numT, numK_kn h]
  by_cases hi : i < n
  · rw [if_pos hi, if_pos ⟨by omega, rfl⟩]
  · rw [if_neg hi, if_neg (fun h => hi (by omega))]
theorem kn_inj {i j : Nat} (hi : i < 4294967296) (hj : j < 4294967296) (h : kn i = kn j) : i = j := by
  have h1 := numK_kn hi
  rw [h, numK_kn hj] at h1
  omega
theorem hasM_kn {bs : List Bool} {i : Nat} (h : i < bs.length) (hb : bs.length ≤ 1000000) : hasM bs (kn i) = bs.getD i false := by
  rw [hasM, numT_kn (by omega), if_pos h, if_pos (by omega), Int.toNat_natCast]
theorem knownK_kn {bs : List Bool} {i : Nat} (h : i < bs.length) (hb : bs.length ≤ 1000000) : knownK bs (kn i) ↔ bs.getD i false = true := by
  rw [knownK, numT_kn (by omega), if_pos h, Int.toNat_natCast]
  exact ⟨fun h => h (by omega), fun h _ => h⟩
/-! ### Reckoning -/
def knownB (bs : List Bool) (k : List Int) : Bool := !(decide (0 ≤ numT bs.length k)) || bs.getD (numT bs.length k).toNat false
theorem knownB_iff (bs : List Bool) (k : List Int) : knownB bs k = true ↔ knownK bs k := by
  unfold knownB knownK
  by_cases h : 0 ≤ numT bs.length k
  · simp [h]
  · simp [h]
def closedB (ts : List Tm) (X : List Bool) : Bool :=
  (List.range ts.length).all fun i => match ts[i]? with
    | some t => (!(madeM ts X t) || X.getD i false) && (!(X.getD i false && (t.kind == 6 && hasM X (t.keys.getD 0 []))) || (t.keys.drop 2).all (knownB X))
    | none => true
theorem closed_of {ts : List Tm} {X : List Bool} (h : closedB ts X = true) : Closed ts X := fun i t hi => by
  have hl := (List.getElem?_eq_some_iff.1 hi).1
  have := List.all_eq_true.1 h i (by simpa using hl)
  simp only [hi, Bool.and_eq_true, Bool.or_eq_true, Bool.not_eq_true'] at this
  obtain ⟨h1, h2⟩ := this
  refine ⟨fun hm => ?_, fun hk h6 hh k hkk => ?_⟩
  · rcases h1 with h1 | h1
    · rw [hm] at h1; cases h1
    · exact h1
  · rcases h2 with h2 | h2
    · rw [hk, hh, h6] at h2
      cases h2
    · exact (knownB_iff _ _).1 (List.all_eq_true.1 h2 k hkk)
/-- Nothing follows but what X has. -/
theorem Follows.not {ts : List Tm} {seen : List (List Int)} {bs : List Bool} (F : Follows ts seen bs) (X : List Bool) (hl : X.length = ts.length) (hs : seen.all (knownB X) = true) (hc : closedB ts X = true) {i : Nat} (hi : X.getD i false = false) : bs.getD i false = false := by
  have h := F.least X hl (fun k hk => (knownB_iff _ _).1 (List.all_eq_true.1 hs k hk)) (closed_of hc)
  cases hb : bs.getD i false
  · rfl
  · have := h.le i hb
    rw [hi] at this
    cases this
def stepL (ts : List Tm) (Y : List Bool) (i : Nat) : List Bool :=
  match ts[i]? with
  | some t =>
    let Y1 := if madeM ts Y t then Y.set i true else Y
    if Y1.getD i false && (t.kind == 6 && hasM Y1 (t.keys.getD 0 [])) then (t.keys.drop 2).foldl learnL Y1 else Y1
  | none => Y
def roundL (ts : List Tm) (Y : List Bool) : List Bool := (List.range ts.length).foldl (stepL ts) Y
theorem foldl_learn {bs : List Bool} : ∀ (ks : List (List Int)) (Y : List Bool), LeB Y bs → (∀ k ∈ ks, knownK bs k) → LeB (ks.foldl learnL Y) bs
  | [], Y, h, _ => h
  | k :: ks, Y, h, hk => foldl_learn ks _ (learn_le h (hk k (by simp))) (fun k h => hk k (by simp [h]))
theorem stepL_le {ts : List Tm} {bs Y : List Bool} (hc : Closed ts bs) (h : LeB Y bs) (i : Nat) : LeB (stepL ts Y i) bs := by
  unfold stepL
  cases hi : ts[i]? with
  | none => exact h
  | some t =>
    simp only
    have h1 : LeB (if madeM ts Y t then Y.set i true else Y) bs := by
      split
      · rename_i hm
        exact h.set ((hc i t hi).make (made_mono h hm))
      · exact h
    generalize (if madeM ts Y t then Y.set i true else Y) = Y1 at *
    split
    · rename_i hu
      simp only [Bool.and_eq_true, beq_iff_eq] at hu
      exact foldl_learn _ _ h1 ((hc i t hi).unbox (h1.le i hu.1) hu.2.1 (has_mono h1 hu.2.2))
    · exact h1
theorem roundL_le {ts : List Tm} {bs Y : List Bool} (hc : Closed ts bs) (h : LeB Y bs) : LeB (roundL ts Y) bs := by
  unfold roundL
  generalize List.range ts.length = is
  induction is generalizing Y with
  | nil => exact h
  | cons i is ih => exact ih (stepL_le hc h i)
/-- What some rounds bring follows. -/
theorem Follows.yes {ts : List Tm} {seen : List (List Int)} {bs : List Bool} (F : Follows ts seen bs) (Y : List Bool) (hY : roundL ts (roundL ts (seen.foldl learnL (List.replicate ts.length false))) = Y) {i : Nat} (hi : Y.getD i false = true) : bs.getD i false = true := by
  subst hY
  refine (roundL_le F.closed (roundL_le F.closed (foldl_learn seen _ ⟨by simp [F.len], fun j hj => ?_⟩ F.has))).le i hi
  rw [List.getD_eq_getElem?_getD, List.getElem?_replicate] at hj
  split at hj <;> cases hj
theorem strKey {k : List Int} (h : KeyOk k) : (strOfNums k).size = 32 ∧ bytesOf (strOfNums k) = k := ⟨by rw [strOfNums_size, h.1], bytesOf_str k h.2⟩
theorem kn_ne (i j : Nat) (hi : i < 4294967296) (hj : j < 4294967296) (h : i ≠ j) : kn i ≠ kn j := fun e => h (kn_inj hi hj e)
theorem kn_zK (i : Nat) : kn i ≠ zK := fun h => by
  have : rd (kn i) 0 = rd zK 0 := by rw [h]
  rw [show rd (kn i) 0 = 116 from rfl, show rd zK 0 = 0 from rfl] at this
  cases this
theorem nm_kn (ts : List Tm) (t : Tm) : nm ts t = kn (ts.idxOf t) := rfl
attribute [irreducible] kn
/-! ### What alive makes -/
def aT0 : Tm := ⟨1, ⟨#[107]⟩, []⟩
def aT1 : Tm := ⟨1, ⟨#[120]⟩, []⟩
def aT2 : Tm := ⟨6, ⟨#[116, 101, 120, 116]⟩, [kn 0, zK, kn 1]⟩
theorem al0 : nm [] aT0 = kn 0 ∧ putL [] aT0 = [aT0] := ⟨by kernel_rfl, by kernel_rfl⟩
theorem al1 : nm [aT0] aT1 = kn 1 ∧ putL [aT0] aT1 = [aT0, aT1] := ⟨by kernel_rfl, by kernel_rfl⟩
theorem al2 : nm [aT0, aT1] aT2 = kn 2 ∧ putL [aT0, aT1] aT2 = [aT0, aT1, aT2] := ⟨by kernel_rfl, by kernel_rfl⟩
theorem alW : ∀ t ∈ [aT0, aT1, aT2], TmW t := by
  intro t ht
  simp only [List.mem_cons, List.not_mem_nil, or_false] at ht
  rcases ht with rfl | rfl | rfl <;> exact ⟨fun h => by revert h; decide, fun h => by revert h; decide⟩
theorem alO : openM [aT0, aT1, aT2] (kn 0) zK (strOfNums (kn 2)) = some (⟨#[116, 101, 120, 116]⟩, [kn 1]) := by kernel_rfl
theorem alF {bs : List Bool} (F : Follows [aT0, aT1, aT2] [kn 2, kn 0] bs) : hasM bs (kn 1) = true := by
  rw [hasM_kn (by rw [F.len]; decide) (by rw [F.len]; decide)]
  exact F.yes [true, true, true] (by kernel_rfl) rfl
theorem alN {bs : List Bool} (F : Follows [aT0, aT1, aT2] [kn 2] bs) : hasM bs (kn 1) = false := by
  rw [hasM_kn (by rw [F.len]; decide) (by rw [F.len]; decide)]
  exact F.not [false, false, true] rfl (by kernel_rfl) (by kernel_rfl) rfl
end Go.Proofs.Ytcapfnbmmdbcoaa
