/- Walks of the reference of the onetime layer: high, Plus, Clamped. -/
import Derived.Test.YtcjfpcajjhccaaaR1
set_option linter.unusedVariables false
set_option linter.unusedSimpArgs false
namespace Go.Proofs.Ytcjfpcajjhccaaa
open Go.RowKit
theorem dv_split (B : Int) (xs : List Int) (i : Nat) (h : i ≤ xs.length) : dv B xs = dv B (xs.take i) + B ^ i * dv B (xs.drop i) := by
  have := dv_append B (xs.take i) (xs.drop i)
  rw [List.take_append_drop, List.length_take, Nat.min_eq_left h] at this
  exact this
theorem drop_rd (xs : List Int) (i : Nat) (h : i < xs.length) : xs.drop i = rd xs i :: xs.drop (i + 1) := by
  rw [List.drop_eq_getElem_cons h]
  simp [rd, List.getD_eq_getElem?_getD, List.getElem?_eq_getElem h]
theorem dv_pos {B : Int} (hB : 0 < B) : ∀ xs, digOk B xs → (0 < dv B xs ↔ ∃ j, j < xs.length ∧ 0 < rd xs j)
  | [], _ => by simp [dv]
  | x :: xs, h => by
    obtain ⟨hx, hs⟩ := digOk_cons h
    have ih := dv_pos hB xs hs
    have hb := dv_bound hB xs hs
    constructor
    · intro hp
      by_cases h0 : 0 < x
      · exact ⟨0, by simp, by simpa [rd] using h0⟩
      · have hx0 : x = 0 := by omega
        rw [dv, hx0, Int.zero_add] at hp
        have : 0 < dv B xs := by
          rcases Int.lt_or_le 0 (dv B xs) with h1 | h1
          · exact h1
          · have : dv B xs = 0 := by omega
            rw [this] at hp; simp at hp
        obtain ⟨j, hj, hr⟩ := ih.1 this
        exact ⟨j + 1, by simp; exact hj, by simpa [rd] using hr⟩
    · rintro ⟨j, hj, hr⟩
      rw [dv]
      cases j with
      | zero =>
        have h1 : 0 < x := by simpa [rd] using hr
        have := Int.mul_nonneg (Int.le_of_lt hB) hb.1
        omega
      | succ j =>
        have h1 : 0 < dv B xs := ih.2 ⟨j, by simpa using hj, by simpa [rd] using hr⟩
        have := Int.mul_pos hB h1
        omega
def hiAt (xs : List Int) (j : Nat) : Prop := (j = 16 ∧ 3 < rd xs j) ∨ (16 < j ∧ 0 < rd xs j)
def highB (xs : List Int) : Bool := decide ((2 : Int) ^ 130 ≤ dv 256 xs)
theorem pow256_le (n m : Nat) (h : n ≤ m) : (256 : Int) ^ n ≤ 256 ^ m := by
  have h1 : (256 : Nat) ^ n ≤ 256 ^ m := Nat.pow_le_pow_right (by decide) h
  have h2 := Int.ofNat_le.2 h1
  rw [Int.natCast_pow, Int.natCast_pow] at h2
  exact h2
theorem high_iff (xs : List Int) (h : digOk 256 xs) : (2 : Int) ^ 130 ≤ dv 256 xs ↔ ∃ j, 16 ≤ j ∧ j < xs.length ∧ hiAt xs j := by
  by_cases hl : 16 < xs.length
  · have e1 := dv_split 256 xs 16 (by omega)
    have e2 : xs.drop 16 = rd xs 16 :: xs.drop 17 := drop_rd xs 16 hl
    rw [e2, dv] at e1
    have b1 := dv_bound (B := 256) (by decide) _ (digOk_take h 16)
    rw [List.length_take, Nat.min_eq_left (by omega)] at b1
    have b2 := dv_bound (B := 256) (by decide) _ (digOk_drop h 17)
    have p := dv_pos (B := 256) (by decide) _ (digOk_drop h 17)
    have r16 := digOk_rd (B := 256) (by decide) h 16
    have ep : (2 : Int) ^ 130 = 256 ^ 16 * 4 := by decide
    have key : (2 : Int) ^ 130 ≤ dv 256 xs ↔ (3 < rd xs 16 ∨ 0 < dv 256 (xs.drop 17)) := by
      rw [ep, e1]
      simp only [Int.reducePow] at b1 ⊢
      omega
    rw [key, p]
    constructor
    · rintro (h3 | ⟨j, hj, hr⟩)
      · exact ⟨16, by omega, hl, .inl ⟨rfl, h3⟩⟩
      · simp at hj
        refine ⟨17 + j, by omega, by omega, .inr ⟨by omega, ?_⟩⟩
        simpa [rd, List.getD_eq_getElem?_getD] using hr
    · rintro ⟨j, h16, hj, ⟨rfl, h3⟩ | ⟨h1, h2⟩⟩
      · exact .inl h3
      · refine .inr ⟨j - 17, by simp; omega, ?_⟩
        have e : 17 + (j - 17) = j := by omega
        simpa [rd, List.getD_eq_getElem?_getD, e] using h2
  · constructor
    · intro hp
      have b1 := dv_bound (B := 256) (by decide) xs h
      have := pow256_le xs.length 16 (by omega)
      have e : (2 : Int) ^ 130 = 256 ^ 16 * 4 := by decide
      have e0 : (0 : Int) < 256 ^ 16 := by decide
      rw [e] at hp
      generalize (256 : Int) ^ 16 = z at *
      omega
    · rintro ⟨j, h16, hj, _⟩
      omega
set_option maxRecDepth 100000 in
theorem high48 (A : Option Addr) (cap : Nat) (xs : List Int) (w : World) (hA : RowR .u64 w A xs) (hd : digOk 256 xs) (hn : xs.length ≤ 1000000) :
    Calls Try.prog 48 #[.slice A xs.length cap] w fun e w' => e = .returned (.bool (highB xs)) ∧ w' = w := by
  have hiff := hid (high_iff xs hd)
  obtain ⟨hb, hhb⟩ : ∃ x, x = highB xs := ⟨_, rfl⟩
  rw [← hhb]
  have HB := hid hhb
  clear hhb
  go_enter Try.func48, Try.ntmps48
  go_wp2_with fail
  go_loop [3] (fun n => ∃ i : Nat, 16 ≤ i ∧ (i ≤ xs.length ∨ i = 16) ∧ n = .int .i64 i ∧ Hid (∀ j, 16 ≤ j → j < i → ¬ hiAt xs j)) (fun n => xs.length - (intOf n).toNat)
  case atStart => exact ⟨16, by omega, .inr rfl, rfl, hid (fun j h1 h2 => by omega)⟩
  case round =>
    obtain ⟨i, hi16, hi, rfl, hno⟩ := hrel
    by_cases hlt : i < xs.length
    · have hltI : (i : Int) < (xs.length : Int) := by omega
      obtain ⟨b, off, rfl, hc⟩ := hA.at hlt
      obtain ⟨x, hx⟩ : ∃ x, x = rd xs i := ⟨_, rfl⟩
      rw [← hx] at hc
      have HX := hid hx
      by_cases he : i = 16
      · have heB : ((i : Int) == 16) = true := by rw [beq_iff_eq]; omega
        have heI : ¬ (16 : Int) < (i : Int) := by omega
        by_cases h3 : 3 < x
        · have htrue : hb = true := by
            rw [HB.out, highB, decide_eq_true_eq, hiff.out]
            exact ⟨i, hi16, hlt, .inl ⟨he, by rw [← hx]; exact h3⟩⟩
          subst htrue
          clear hx he hA
          go_wp2_with fail
          go_ret
          exact ⟨rfl, rfl⟩
        · have hnx := hid (show ∀ j, 16 ≤ j → j < i + 1 → ¬ hiAt xs j from fun j h1 h2 => by
            by_cases e : j = i
            · subst e; rintro (⟨_, h⟩ | ⟨h, _⟩) <;> omega
            · exact hno.out j h1 (by omega))
          clear hx he hA
          go_wp2_with fail
          go_round
          case rel => exact ⟨i + 1, by omega, by omega, by go_num, hnx⟩
          case measure => simp [intOf]; omega
      · have heB : ((i : Int) == 16) = false := by rw [beq_eq_false_iff_ne]; omega
        have heI : (16 : Int) < (i : Int) := by omega
        by_cases h3 : 0 < x
        · have htrue : hb = true := by
            rw [HB.out, highB, decide_eq_true_eq, hiff.out]
            exact ⟨i, hi16, hlt, .inr ⟨by omega, by rw [← hx]; exact h3⟩⟩
          subst htrue
          clear hx he hA
          go_wp2_with fail
          go_ret
          exact ⟨rfl, rfl⟩
        · have hnx := hid (show ∀ j, 16 ≤ j → j < i + 1 → ¬ hiAt xs j from fun j h1 h2 => by
            by_cases e : j = i
            · subst e; rintro (⟨h, _⟩ | ⟨_, h⟩) <;> omega
            · exact hno.out j h1 (by omega))
          clear hx he hA
          go_wp2_with fail
          go_round
          case rel => exact ⟨i + 1, by omega, by omega, by go_num, hnx⟩
          case measure => simp [intOf]; omega
    · have hltI : ¬ (i : Int) < (xs.length : Int) := by omega
      have hfalse : hb = false := by
        rw [HB.out, highB, decide_eq_false_iff_not, hiff.out]
        rintro ⟨j, h1, h2, h3⟩
        exact hno.out j h1 (by omega) h3
      subst hfalse
      go_wp2_with fail
      go_ret
      exact ⟨rfl, rfl⟩
end Go.Proofs.Ytcjfpcajjhccaaa
