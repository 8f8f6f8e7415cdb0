/- What the limbs reckon, modulo 2^130 - 5: carries and products. Plain laws; no program is named. -/
import Derived.Test.YtcjfpcajjhccaaaP5
import Derived.Test.YtcjfpcajjhccaaaR6
set_option linter.unusedVariables false
set_option linter.unusedSimpArgs false
namespace Go.Proofs.Ytcjfpcajjhccaaa
open Go.RowKit
theorem and26 (x : Int) (h0 : 0 ≤ x) (h1 : x < 18446744073709551616) : bits .and .u64 x 67108863 = x % 67108864 := by
  obtain ⟨n, rfl⟩ := Int.eq_ofNat_of_zero_le h0
  have hn : n < 18446744073709551616 := by omega
  have e1 : (BitVec.ofInt 64 (n : Int)).toNat = n := by rw [BitVec.ofInt_natCast, BitVec.toNat_ofNat]; exact Nat.mod_eq_of_lt (by omega)
  show IntKind.u64.wrap ((BitVec.ofInt 64 (n : Int) &&& BitVec.ofInt 64 (67108863 : Int)).toNat : Int) = _
  have e2 : (BitVec.ofInt 64 (67108863 : Int)).toNat = 2 ^ 26 - 1 := by decide
  rw [BitVec.toNat_and, e1, e2, Nat.and_two_pow_sub_one_eq_mod, IntKind.wrap_u64]
  omega
theorem rd5 (a b c d e : Int) : rd [a, b, c, d, e] 0 = a ∧ rd [a, b, c, d, e] 1 = b ∧ rd [a, b, c, d, e] 2 = c ∧ rd [a, b, c, d, e] 3 = d ∧ rd [a, b, c, d, e] 4 = e := ⟨rfl, rfl, rfl, rfl, rfl⟩
theorem cstep_eq (xs : List Int) (c : Int) (i : Nat) (h0 : 0 ≤ rd xs i + c) (h1 : rd xs i + c < 18446744073709551616) :
    cstep (xs, c) i = (xs.set i ((rd xs i + c) % 67108864), (rd xs i + c) / 67108864) := by
  rw [cstep]
  simp only []
  rw [u64_id _ h0 h1, and26 _ h0 h1]
def c1f (a b c d e : Int) : List Int :=
  let c0 := a / 67108864
  let c1 := (b + c0) / 67108864
  let c2 := (c + c1) / 67108864
  let c3 := (d + c2) / 67108864
  let c4 := (e + c3) / 67108864
  [a % 67108864 + 5 * c4, (b + c0) % 67108864, (c + c1) % 67108864, (d + c2) % 67108864, (e + c3) % 67108864]
theorem carry1_eq (a b c d e : Int) (ha : 0 ≤ a ∧ a < 4611686018427387904) (hb : 0 ≤ b ∧ b < 4611686018427387904) (hc : 0 ≤ c ∧ c < 4611686018427387904) (hd : 0 ≤ d ∧ d < 4611686018427387904) (he : 0 ≤ e ∧ e < 4611686018427387904) :
    carry1 [a, b, c, d, e] = c1f a b c d e := by
  obtain ⟨c0, hc0⟩ : ∃ x, x = a / 67108864 := ⟨_, rfl⟩
  obtain ⟨c1, hc1⟩ : ∃ x, x = (b + c0) / 67108864 := ⟨_, rfl⟩
  obtain ⟨c2, hc2⟩ : ∃ x, x = (c + c1) / 67108864 := ⟨_, rfl⟩
  obtain ⟨c3, hc3⟩ : ∃ x, x = (d + c2) / 67108864 := ⟨_, rfl⟩
  obtain ⟨c4, hc4⟩ : ∃ x, x = (e + c3) / 67108864 := ⟨_, rfl⟩
  have s0 : cst [a, b, c, d, e] 0 = ([a, b, c, d, e], 0) := rfl
  have s1 : cst [a, b, c, d, e] 1 = ([a % 67108864, b, c, d, e], c0) := by
    rw [cst_succ, s0, cstep_eq _ _ _ (by show 0 ≤ a + 0; omega) (by show a + 0 < _; omega)]
    show ([(a + 0) % 67108864, b, c, d, e], (a + 0) / 67108864) = _
    rw [Int.add_zero, hc0]
  have s2 : cst [a, b, c, d, e] 2 = ([a % 67108864, (b + c0) % 67108864, c, d, e], c1) := by
    rw [cst_succ, s1, cstep_eq _ _ _ (by show 0 ≤ b + c0; omega) (by show b + c0 < _; omega)]
    show ([a % 67108864, (b + c0) % 67108864, c, d, e], (b + c0) / 67108864) = _
    rw [hc1]
  have s3 : cst [a, b, c, d, e] 3 = ([a % 67108864, (b + c0) % 67108864, (c + c1) % 67108864, d, e], c2) := by
    rw [cst_succ, s2, cstep_eq _ _ _ (by show 0 ≤ c + c1; omega) (by show c + c1 < _; omega)]
    show ([a % 67108864, (b + c0) % 67108864, (c + c1) % 67108864, d, e], (c + c1) / 67108864) = _
    rw [hc2]
  have s4 : cst [a, b, c, d, e] 4 = ([a % 67108864, (b + c0) % 67108864, (c + c1) % 67108864, (d + c2) % 67108864, e], c3) := by
    rw [cst_succ, s3, cstep_eq _ _ _ (by show 0 ≤ d + c2; omega) (by show d + c2 < _; omega)]
    show ([a % 67108864, (b + c0) % 67108864, (c + c1) % 67108864, (d + c2) % 67108864, e], (d + c2) / 67108864) = _
    rw [hc3]
  have s5 : cst [a, b, c, d, e] 5 = ([a % 67108864, (b + c0) % 67108864, (c + c1) % 67108864, (d + c2) % 67108864, (e + c3) % 67108864], c4) := by
    rw [cst_succ, s4, cstep_eq _ _ _ (by show 0 ≤ e + c3; omega) (by show e + c3 < _; omega)]
    show ([a % 67108864, (b + c0) % 67108864, (c + c1) % 67108864, (d + c2) % 67108864, (e + c3) % 67108864], (e + c3) / 67108864) = _
    rw [hc4]
  have hw : IntKind.u64.wrap (a % 67108864 + IntKind.u64.wrap (5 * c4)) = a % 67108864 + 5 * c4 := by
    rw [u64_id (5 * c4) (by omega) (by omega), u64_id _ (by omega) (by omega)]
  rw [carry1, s5]
  show [IntKind.u64.wrap (a % 67108864 + IntKind.u64.wrap (5 * c4)), (b + c0) % 67108864, (c + c1) % 67108864, (d + c2) % 67108864, (e + c3) % 67108864] = _
  rw [hw, c1f, ← hc0, ← hc1, ← hc2, ← hc3, ← hc4]
/-- A row of five limbs, each below a bound of its own. -/
def Lim (A B : Int) (xs : List Int) : Prop := ∃ a b c d e : Int, xs = [a, b, c, d, e] ∧ (0 ≤ a ∧ a < A) ∧ (0 ≤ b ∧ b < B) ∧ (0 ≤ c ∧ c < B) ∧ (0 ≤ d ∧ d < B) ∧ (0 ≤ e ∧ e < B)
theorem dv5 (a b c d e : Int) : dv 67108864 [a, b, c, d, e] = a + 67108864 * b + 4503599627370496 * c + 302231454903657293676544 * d + 20282409603651670423947251286016 * e := by
  simp only [dv]
  omega
theorem pp_lit : pp = 1361129467683753853853498429727072845819 := by decide
/-- What one carry does: the value sinks by a multiple of 2^130 - 5. -/
theorem carry1_val (a b c d e : Int) : ∃ q, dv 67108864 (c1f a b c d e) + pp * q = dv 67108864 [a, b, c, d, e] := by
  refine ⟨(e + (d + (c + (b + a / 67108864) / 67108864) / 67108864) / 67108864) / 67108864, ?_⟩
  rw [c1f, dv5, dv5, pp_lit]
  omega
theorem mod_of_sub {x y q : Int} (h : x + pp * q = y) : x % pp = y % pp := by rw [← h, Int.add_mul_emod_self_left]
theorem carry_wide (xs : List Int) (h : Lim 1152921504606846976 1152921504606846976 xs) : Lim 343597383680 67108864 (carry1 xs) ∧ dv 67108864 (carry1 xs) % pp = dv 67108864 xs % pp := by
  obtain ⟨a, b, c, d, e, rfl, ha, hb, hc, hd, he⟩ := h
  rw [carry1_eq a b c d e (by omega) (by omega) (by omega) (by omega) (by omega)]
  obtain ⟨q, hq⟩ := carry1_val a b c d e
  refine ⟨⟨_, _, _, _, _, rfl, ?_, ?_, ?_, ?_, ?_⟩, mod_of_sub hq⟩ <;> omega
theorem carry_mid (xs : List Int) (h : Lim 343597383680 67108864 xs) : Lim 67108872 67108864 (carry1 xs) ∧ dv 67108864 (carry1 xs) % pp = dv 67108864 xs % pp := by
  obtain ⟨a, b, c, d, e, rfl, ha, hb, hc, hd, he⟩ := h
  rw [carry1_eq a b c d e (by omega) (by omega) (by omega) (by omega) (by omega)]
  obtain ⟨q, hq⟩ := carry1_val a b c d e
  refine ⟨⟨_, _, _, _, _, rfl, ?_, ?_, ?_, ?_, ?_⟩, mod_of_sub hq⟩ <;> omega
theorem carry_tight (xs : List Int) (h : Lim 67108872 67108864 xs) : Lim 67108864 67108864 (carry1 xs) ∧ dv 67108864 (carry1 xs) % pp = dv 67108864 xs % pp := by
  obtain ⟨a, b, c, d, e, rfl, ha, hb, hc, hd, he⟩ := h
  rw [carry1_eq a b c d e (by omega) (by omega) (by omega) (by omega) (by omega)]
  obtain ⟨q, hq⟩ := carry1_val a b c d e
  refine ⟨⟨_, _, _, _, _, rfl, ?_, ?_, ?_, ?_, ?_⟩, mod_of_sub hq⟩ <;> omega
theorem Lim.wide {A B A' B' : Int} {xs : List Int} (h : Lim A B xs) (hA : A ≤ A') (hB : B ≤ B') : Lim A' B' xs := by
  obtain ⟨a, b, c, d, e, rfl, ha, hb, hc, hd, he⟩ := h
  exact ⟨a, b, c, d, e, rfl, by omega, by omega, by omega, by omega, by omega⟩
theorem carry2_wide (xs : List Int) (h : Lim 1152921504606846976 1152921504606846976 xs) : Lim 67108872 67108864 (carryN xs 2) ∧ dv 67108864 (carryN xs 2) % pp = dv 67108864 xs % pp := by
  obtain ⟨h1, h2⟩ := carry_wide xs h
  obtain ⟨h3, h4⟩ := carry_mid _ h1
  exact ⟨h3, by show dv _ (carry1 (carry1 xs)) % _ = _; rw [h4, h2]⟩
theorem carry2_tight (xs : List Int) (h : Lim 67108872 67108864 xs) : Lim 67108864 67108864 (carryN xs 2) ∧ dv 67108864 (carryN xs 2) % pp = dv 67108864 xs % pp := by
  obtain ⟨h1, h2⟩ := carry_tight xs h
  obtain ⟨h3, h4⟩ := carry_tight _ (h1.wide (by decide) (by decide))
  exact ⟨h3, by show dv _ (carry1 (carry1 xs)) % _ = _; rw [h4, h2]⟩
end Go.Proofs.Ytcjfpcajjhccaaa
