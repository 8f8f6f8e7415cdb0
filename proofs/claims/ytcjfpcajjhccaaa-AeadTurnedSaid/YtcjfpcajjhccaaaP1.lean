/- Numbers as digits. Plain laws; no program is named. -/
import Derived.Test.YtcjfpcajjhccaaaM
import Derived.Laws.BitsLemmas
set_option linter.unusedVariables false
set_option linter.unusedSimpArgs false
namespace Go.Proofs.Ytcjfpcajjhccaaa
open Go.RowKit
def dv (B : Int) : List Int → Int
  | [] => 0
  | x :: xs => x + B * dv B xs
def digOk (B : Int) (xs : List Int) : Prop := ∀ x ∈ xs, 0 ≤ x ∧ x < B
def digs (B : Int) : Nat → Int → List Int
  | 0, _ => []
  | n + 1, v => v % B :: digs B n (v / B)
theorem emod_mul' (v b c : Int) (hb : 0 ≤ b) : v % (b * c) = v % b + b * (v / b % c) := by
  rw [Int.emod_def v (b * c), Int.emod_def v b, Int.emod_def (v / b) c, Int.ediv_ediv_of_nonneg hb]
  grind
theorem digOk_cons {B x : Int} {xs : List Int} (h : digOk B (x :: xs)) : (0 ≤ x ∧ x < B) ∧ digOk B xs := ⟨h x (by simp), fun y hy => h y (by simp [hy])⟩
theorem digOk_append {B : Int} {xs ys : List Int} (h : digOk B xs) (k : digOk B ys) : digOk B (xs ++ ys) := fun x hx => by
  rcases List.mem_append.1 hx with hx | hx
  · exact h x hx
  · exact k x hx
theorem digOk_take {B : Int} {xs : List Int} (h : digOk B xs) (n : Nat) : digOk B (xs.take n) := fun x hx => h x (List.mem_of_mem_take hx)
theorem digOk_drop {B : Int} {xs : List Int} (h : digOk B xs) (n : Nat) : digOk B (xs.drop n) := fun x hx => h x (List.mem_of_mem_drop hx)
theorem digOk_zeros {B : Int} (hB : 0 < B) (n : Nat) : digOk B (List.replicate n 0) := fun x hx => by
  have := List.eq_of_mem_replicate hx
  omega
theorem digOk_set {B : Int} {xs : List Int} (h : digOk B xs) (i : Nat) {v : Int} (hv : 0 ≤ v ∧ v < B) : digOk B (xs.set i v) := fun x hx => by
  rcases List.mem_or_eq_of_mem_set hx with hx | hx
  · exact h x hx
  · exact hx ▸ hv
theorem digOk_rd {B : Int} (hB : 0 < B) {xs : List Int} (h : digOk B xs) (i : Nat) : 0 ≤ rd xs i ∧ rd xs i < B := by
  by_cases hi : i < xs.length
  · have : rd xs i ∈ xs := by
      rw [rd, List.getD_eq_getElem?_getD, List.getElem?_eq_getElem hi]
      exact List.getElem_mem hi
    exact h _ this
  · rw [rd_out _ _ (by omega)]
    omega
theorem dv_append (B : Int) (xs ys : List Int) : dv B (xs ++ ys) = dv B xs + B ^ xs.length * dv B ys := by
  induction xs with
  | nil => simp [dv]
  | cons x xs ih => rw [List.cons_append, dv, dv, ih, List.length_cons, Int.pow_succ]; grind
theorem dv_zeros (B : Int) (n : Nat) : dv B (List.replicate n 0) = 0 := by
  induction n with
  | zero => rfl
  | succ n ih => rw [List.replicate_succ, dv, ih]; simp
theorem dv_bound {B : Int} (hB : 0 < B) : ∀ xs, digOk B xs → 0 ≤ dv B xs ∧ dv B xs < B ^ xs.length
  | [], _ => ⟨Int.le_refl _, by simp [dv]⟩
  | x :: xs, h => by
    obtain ⟨hx, hs⟩ := digOk_cons h
    obtain ⟨h0, h1⟩ := dv_bound hB xs hs
    have a1 := Int.mul_nonneg (Int.le_of_lt hB) h0
    have a2 : B * dv B xs ≤ B * (B ^ xs.length - 1) := Int.mul_le_mul_of_nonneg_left (by omega) (by omega)
    rw [Int.mul_sub, Int.mul_one] at a2
    rw [dv, List.length_cons, Int.pow_succ, Int.mul_comm _ B]
    omega
theorem digs_length (B : Int) (n : Nat) (v : Int) : (digs B n v).length = n := by
  induction n generalizing v with
  | zero => rfl
  | succ n ih => simp [digs, ih]
theorem digs_ok {B : Int} (hB : 0 < B) (n : Nat) (v : Int) : digOk B (digs B n v) := by
  induction n generalizing v with
  | zero => intro x hx; simp [digs] at hx
  | succ n ih =>
    intro x hx
    simp only [digs, List.mem_cons] at hx
    rcases hx with rfl | hx
    · exact ⟨Int.emod_nonneg _ (by omega), Int.emod_lt_of_pos _ hB⟩
    · exact ih _ x hx
theorem digs_rd {B : Int} (hB : 0 < B) (n : Nat) (v : Int) (j : Nat) (hj : j < n) : rd (digs B n v) j = v / B ^ j % B := by
  induction n generalizing v j with
  | zero => omega
  | succ n ih =>
    cases j with
    | zero => simp [digs, rd]
    | succ j =>
      have := ih (v / B) j (by omega)
      rw [digs]
      show rd (digs B n (v / B)) j = _
      rw [this, Int.pow_succ, Int.mul_comm, Int.ediv_ediv_of_nonneg (by omega)]
theorem dv_digs {B : Int} (hB : 0 < B) (n : Nat) (v : Int) : dv B (digs B n v) = v % B ^ n := by
  induction n generalizing v with
  | zero => simp [digs, dv, Int.emod_one]
  | succ n ih =>
    rw [digs, dv, ih, Int.pow_succ, Int.mul_comm _ B, emod_mul' _ _ _ (by omega)]
theorem digs_dv {B : Int} (hB : 0 < B) (xs : List Int) (h : digOk B xs) : digs B xs.length (dv B xs) = xs := by
  induction xs with
  | nil => rfl
  | cons x xs ih =>
    obtain ⟨hx, hs⟩ := digOk_cons h
    rw [List.length_cons, digs, dv, Int.add_mul_emod_self_left, Int.emod_eq_of_lt hx.1 hx.2, Int.add_mul_ediv_left _ _ (by omega), Int.ediv_eq_zero_of_lt hx.1 hx.2, Int.zero_add, ih hs]
theorem dv_digit {B : Int} (hB : 0 < B) {xs : List Int} (h : digOk B xs) (j : Nat) (hj : j < xs.length) : dv B xs / B ^ j % B = rd xs j := by
  rw [← digs_rd hB xs.length _ j hj, digs_dv hB xs h]
/-- Two rows of digits of one length and one value are one. -/
theorem dv_inj {B : Int} (hB : 0 < B) {xs ys : List Int} (hx : digOk B xs) (hy : digOk B ys) (hl : xs.length = ys.length) (h : dv B xs = dv B ys) : xs = ys := by
  rw [← digs_dv hB xs hx, ← digs_dv hB ys hy, hl, h]
theorem rd_ext {xs ys : List Int} (hl : xs.length = ys.length) (h : ∀ j, j < xs.length → rd xs j = rd ys j) : xs = ys := by
  apply List.ext_getElem hl
  intro j h1 h2
  have := h j h1
  simpa [rd, List.getD_eq_getElem?_getD, List.getElem?_eq_getElem h1, List.getElem?_eq_getElem h2] using this

/-! ### Bits into limbs -/
theorem pow_pos2 (n : Nat) : (0 : Int) < 2 ^ n := by
  have : (0 : Nat) < 2 ^ n := Nat.two_pow_pos n
  exact_mod_cast this
/-- The bit i of a row of bytes, as the program takes it. -/
def bitAt (b : List Int) (i : Nat) : Int := IntKind.u64.wrap (bits .and .u8 (rd b (i / 8) / 2 ^ (i % 8)) 1)
def lstep (b xs : List Int) (i : Nat) : List Int := xs.set (i / 26) (bits .or .u64 (rd xs (i / 26)) (IntKind.u64.wrap (bitAt b i * 2 ^ (i % 26))))
theorem and_one (x : Int) (h0 : 0 ≤ x) (h1 : x < 256) : bits .and .u8 x 1 = x % 2 := by
  obtain ⟨n, rfl⟩ := Int.eq_ofNat_of_zero_le h0
  have hn : n < 256 := by omega
  have e1 : (BitVec.ofInt 8 (n : Int)).toNat = n := by rw [BitVec.ofInt_natCast, BitVec.toNat_ofNat]; exact Nat.mod_eq_of_lt (by omega)
  show IntKind.u8.wrap ((BitVec.ofInt 8 (n : Int) &&& BitVec.ofInt 8 (1 : Int)).toNat : Int) = _
  have e2 : (BitVec.ofInt 8 (1 : Int)).toNat = 1 := by decide
  rw [BitVec.toNat_and, e1, e2, Nat.and_one_is_mod, IntKind.wrap_u8]
  omega
theorem u64_id (n : Int) (h0 : 0 ≤ n) (h1 : n < 18446744073709551616) : IntKind.u64.wrap n = n := by rw [IntKind.wrap_u64]; omega
theorem u64_id' (n : Int) (h0 : 0 ≤ n) (h1 : n < 2 ^ 64) : IntKind.u64.wrap n = n := u64_id n h0 (by omega)
theorem ediv_lt_self {x d : Int} (h0 : 0 ≤ x) (hd : 0 < d) : 0 ≤ x / d ∧ x / d ≤ x := ⟨Int.ediv_nonneg h0 (Int.le_of_lt hd), Int.ediv_le_self _ h0⟩
theorem bitAt_eq {b : List Int} (hb : digOk 256 b) (i : Nat) (hi : i / 8 < b.length) : bitAt b i = dv 256 b / 2 ^ i % 2 := by
  have hr := digOk_rd (B := 256) (by decide) hb (i / 8)
  have hq := ediv_lt_self hr.1 (pow_pos2 (i % 8))
  rw [bitAt, and_one _ hq.1 (by omega), u64_id _ (by omega) (by omega), ← dv_digit (by decide) hb (i / 8) hi]
  have e1 : (256 : Int) ^ (i / 8) = 2 ^ (8 * (i / 8)) := by rw [Int.pow_mul]; rfl
  have e2 : (2 : Int) ^ i = 2 ^ (8 * (i / 8)) * 2 ^ (i % 8) := by rw [← Int.pow_add]; congr 1; omega
  rw [e1, e2]
  obtain ⟨v, hv⟩ : ∃ v, v = dv 256 b / 2 ^ (8 * (i / 8)) := ⟨_, rfl⟩
  have e3 : dv 256 b / (2 ^ (8 * (i / 8)) * 2 ^ (i % 8)) = v / 2 ^ (i % 8) := by rw [hv, Int.ediv_ediv_of_nonneg (by have := pow_pos2 (8 * (i / 8)); omega)]
  rw [e3, ← hv]
  have h8 : i % 8 < 8 := Nat.mod_lt _ (by decide)
  generalize i % 8 = r at h8
  have : r = 0 ∨ r = 1 ∨ r = 2 ∨ r = 3 ∨ r = 4 ∨ r = 5 ∨ r = 6 ∨ r = 7 := by omega
  rcases this with rfl | rfl | rfl | rfl | rfl | rfl | rfl | rfl <;> simp only [Int.pow_zero, Int.reducePow] <;> omega
theorem mod_two_pow_succ (v : Int) (i : Nat) : v % 2 ^ (i + 1) = v % 2 ^ i + (v / 2 ^ i % 2) * 2 ^ i := by
  rw [Int.pow_succ, emod_mul' _ _ _ (by have := pow_pos2 i; omega), Int.mul_comm (2 ^ i)]
theorem limb_step (x : Int) (i : Nat) (bt : Int) (hx0 : 0 ≤ x) (hx1 : x < 2 ^ i) (hb : bt = 0 ∨ bt = 1) (hi : i < 130) :
    (digs 67108864 5 x).set (i / 26) (bits .or .u64 (rd (digs 67108864 5 x) (i / 26)) (IntKind.u64.wrap (bt * 2 ^ (i % 26)))) = digs 67108864 5 (x + bt * 2 ^ i) := by
  have hB : (0 : Int) < 67108864 := by decide
  have pw : ∀ j : Nat, (67108864 : Int) ^ j = 2 ^ (26 * j) := fun j => by rw [Int.pow_mul]; rfl
  refine rd_ext (by simp [digs_length]) fun j hj => ?_
  rw [List.length_set, digs_length] at hj
  obtain ⟨q, hq⟩ : ∃ q, q = i / 26 := ⟨_, rfl⟩
  obtain ⟨r, hr⟩ : ∃ r, r = i % 26 := ⟨_, rfl⟩
  have hir : i = 26 * q + r := by omega
  have hr26 : r < 26 := by omega
  have hq5 : q < 5 := by omega
  rw [← hq, ← hr]
  have e2 : (2 : Int) ^ i = 2 ^ (26 * q) * 2 ^ r := by rw [← Int.pow_add, hir]
  have pq := pow_pos2 (26 * q)
  have pr := pow_pos2 r
  rcases Nat.lt_trichotomy j q with h | h | h
  · rw [rd_set_other _ _ _ _ (by omega), digs_rd hB _ _ _ hj, digs_rd hB _ _ _ hj, pw]
    have e3 : (2 : Int) ^ i = 2 ^ (26 * j) * (67108864 * 2 ^ (i - 26 * j - 26)) := by
      have : (67108864 : Int) = 2 ^ 26 := rfl
      rw [this, ← Int.pow_add, ← Int.pow_add]
      congr 1; omega
    rw [e3, show bt * (2 ^ (26 * j) * (67108864 * 2 ^ (i - 26 * j - 26))) = 2 ^ (26 * j) * (67108864 * (bt * 2 ^ (i - 26 * j - 26))) from by grind, Int.add_mul_ediv_left _ _ (by have := pow_pos2 (26 * j); omega), Int.add_mul_emod_self_left]
  · subst h
    rw [rd_set_same _ _ _ (by rw [digs_length]; omega), digs_rd hB _ _ _ hj, digs_rd hB _ _ _ hj, pw, e2]
    have y0 : 0 ≤ x / 2 ^ (26 * j) := Int.ediv_nonneg hx0 (Int.le_of_lt pq)
    have y1 : x / 2 ^ (26 * j) < 2 ^ r := Int.ediv_lt_of_lt_mul pq (by rw [Int.mul_comm, ← e2]; exact hx1)
    have r26 : (2 : Int) ^ r ≤ 33554432 := by
      have : (2 : Nat) ^ r ≤ 2 ^ 25 := Nat.pow_le_pow_right (by decide) (by omega)
      have h2 : ((2 ^ r : Nat) : Int) ≤ ((2 ^ 25 : Nat) : Int) := by exact_mod_cast this
      simpa using h2
    rw [show bt * (2 ^ (26 * j) * 2 ^ r) = 2 ^ (26 * j) * (bt * 2 ^ r) from by grind, Int.add_mul_ediv_left _ _ (by omega)]
    obtain ⟨y, hy⟩ : ∃ y, y = x / 2 ^ (26 * j) := ⟨_, rfl⟩
    rw [← hy] at y0 y1 ⊢
    obtain ⟨p, hp⟩ : ∃ p, p = (2 : Int) ^ r := ⟨_, rfl⟩
    have hp' := hp
    rw [← hp] at y1 r26 pr ⊢
    have hbp : 0 ≤ bt * p ∧ bt * p ≤ p := by rcases hb with rfl | rfl <;> omega
    rw [Int.emod_eq_of_lt y0 (by omega), Int.emod_eq_of_lt (by omega) (by omega), u64_id _ (by omega) (by omega)]
    have hor : ∀ a b : Int, bits .or .u64 a b = bits .or .u64 b a := fun a b => by simp [bits, BitVec.or_comm]
    rw [hor, bits_join .u64 64 (by decide) u64_id' r (bt * p) y hbp.1 (by rw [← hp']; exact Int.mul_emod_left _ _) (by omega) y0 (by rw [← hp']; exact y1) (by omega), Int.add_comm]
  · rw [rd_set_other _ _ _ _ (by omega), digs_rd hB _ _ _ hj, digs_rd hB _ _ _ hj, pw]
    have h26 : (2 : Int) ^ (i + 1) ≤ 2 ^ (26 * j) := by
      have : (2 : Nat) ^ (i + 1) ≤ 2 ^ (26 * j) := Nat.pow_le_pow_right (by decide) (by omega)
      exact_mod_cast this
    rw [Int.pow_succ] at h26
    have hbp : 0 ≤ bt * 2 ^ i ∧ bt * 2 ^ i ≤ 2 ^ i := by
      have := pow_pos2 i
      rcases hb with rfl | rfl <;> omega
    rw [Int.ediv_eq_zero_of_lt hx0 (by omega), Int.ediv_eq_zero_of_lt (by omega) (by omega)]
theorem lstep_eq {b : List Int} (hb : digOk 256 b) (hl : b.length = 17) (i : Nat) (hi : i < 130) :
    lstep b (digs 67108864 5 (dv 256 b % 2 ^ i)) i = digs 67108864 5 (dv 256 b % 2 ^ (i + 1)) := by
  have hp := pow_pos2 i
  have hbt := bitAt_eq hb i (by omega)
  rw [lstep, limb_step (dv 256 b % 2 ^ i) i (bitAt b i) (Int.emod_nonneg _ (by omega)) (Int.emod_lt_of_pos _ hp) (by rw [hbt]; omega) hi, hbt, mod_two_pow_succ]
theorem digs_mod {B : Int} (hB : 0 < B) (n : Nat) (v : Int) : digs B n (v % B ^ n) = digs B n v := by
  have h := dv_digs hB n v
  rw [← h]
  have := digs_dv hB (digs B n v) (digs_ok hB n v)
  rwa [digs_length] at this
/-- The limbs of 17 bytes. -/
def limbsL (b : List Int) : List Int := digs 67108864 5 (dv 256 b)
theorem limbsL_length (b : List Int) : (limbsL b).length = 5 := digs_length _ _ _
theorem limbs_end (b : List Int) : digs 67108864 5 (dv 256 b % 2 ^ 130) = limbsL b := digs_mod (B := 67108864) (by decide) 5 (dv 256 b)
end Go.Proofs.Ytcjfpcajjhccaaa
