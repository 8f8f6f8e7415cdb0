/- What the limbs reckon: the least number, and the bytes of the tag. Plain laws; no program is named. -/
import Derived.Test.YtcjfpcajjhccaaaQ2
import Derived.Test.YtcjfpcajjhccaaaP10
set_option linter.unusedVariables false
set_option linter.unusedSimpArgs false
namespace Go.Proofs.Ytcjfpcajjhccaaa
open Go.RowKit
theorem Lim.dig {xs : List Int} (h : Lim 67108864 67108864 xs) : digOk 67108864 xs ∧ xs.length = 5 := by
  obtain ⟨a, b, c, d, e, rfl, ha, hb, hc, hd, he⟩ := h
  refine ⟨fun x hx => ?_, rfl⟩
  simp only [List.mem_cons, List.not_mem_nil, or_false] at hx
  rcases hx with rfl | rfl | rfl | rfl | rfl <;> assumption
theorem Lim.digs {v : Int} : Lim 67108864 67108864 (digs 67108864 5 v) := by
  refine ⟨_, _, _, _, _, rfl, ?_, ?_, ?_, ?_, ?_⟩ <;> omega
theorem lnext_eq (xs : List Int) (i : Nat) (hi : i + 1 < xs.length) (h0 : 0 ≤ rd xs i ∧ rd xs i < 268435456) (h1 : 0 ≤ rd xs (i + 1) ∧ rd xs (i + 1) < 268435456) :
    lnext xs i = (xs.set (i + 1) (rd xs (i + 1) + rd xs i / 67108864)).set i (rd xs i % 67108864) := by
  unfold lnext
  try simp only []
  rw [u64_id _ (by omega) (by omega), rd_set_other _ _ _ _ (by omega), and26 _ (by omega) (by omega)]
theorem lfold_eq (a b c d e : Int) (ha : 0 ≤ a ∧ a < 67108872) (hb : 0 ≤ b ∧ b < 67108864) (hc : 0 ≤ c ∧ c < 67108864) (hd : 0 ≤ d ∧ d < 67108864) (he : 0 ≤ e ∧ e < 67108864) :
    lfold [a, b, c, d, e] 4 = [a % 67108864, (b + a / 67108864) % 67108864, (c + (b + a / 67108864) / 67108864) % 67108864, (d + (c + (b + a / 67108864) / 67108864) / 67108864) % 67108864, e + (d + (c + (b + a / 67108864) / 67108864) / 67108864) / 67108864] := by
  obtain ⟨c0, hc0⟩ : ∃ x, x = a / 67108864 := ⟨_, rfl⟩
  obtain ⟨c1, hc1⟩ : ∃ x, x = (b + c0) / 67108864 := ⟨_, rfl⟩
  obtain ⟨c2, hc2⟩ : ∃ x, x = (c + c1) / 67108864 := ⟨_, rfl⟩
  obtain ⟨c3, hc3⟩ : ∃ x, x = (d + c2) / 67108864 := ⟨_, rfl⟩
  rw [← hc0, ← hc1, ← hc2, ← hc3]
  have s0 : lfold [a, b, c, d, e] 0 = [a, b, c, d, e] := rfl
  have s1 : lfold [a, b, c, d, e] 1 = [a % 67108864, b + c0, c, d, e] := by
    rw [lfold_succ, s0, lnext_eq _ _ (by simp) (by show 0 ≤ a ∧ a < _; omega) (by show 0 ≤ b ∧ b < _; omega)]
    show [a % 67108864, b + a / 67108864, c, d, e] = _
    rw [hc0]
  have s2 : lfold [a, b, c, d, e] 2 = [a % 67108864, (b + c0) % 67108864, c + c1, d, e] := by
    rw [lfold_succ, s1, lnext_eq _ _ (by simp) (by show 0 ≤ b + c0 ∧ b + c0 < _; omega) (by show 0 ≤ c ∧ c < _; omega)]
    show [a % 67108864, (b + c0) % 67108864, c + (b + c0) / 67108864, d, e] = _
    rw [hc1]
  have s3 : lfold [a, b, c, d, e] 3 = [a % 67108864, (b + c0) % 67108864, (c + c1) % 67108864, d + c2, e] := by
    rw [lfold_succ, s2, lnext_eq _ _ (by simp) (by show 0 ≤ c + c1 ∧ c + c1 < _; omega) (by show 0 ≤ d ∧ d < _; omega)]
    show [a % 67108864, (b + c0) % 67108864, (c + c1) % 67108864, d + (c + c1) / 67108864, e] = _
    rw [hc2]
  rw [lfold_succ, s3, lnext_eq _ _ (by simp) (by show 0 ≤ d + c2 ∧ d + c2 < _; omega) (by show 0 ≤ e ∧ e < _; omega)]
  show [a % 67108864, (b + c0) % 67108864, (c + c1) % 67108864, (d + c2) % 67108864, e + (d + c2) / 67108864] = _
  rw [hc3]
/-- The least number that is the same. -/
theorem least_spec (n : List Int) (h : Lim 67108872 67108864 n) : leastL n = digs 67108864 5 (dv 67108864 n % pp) := by
  obtain ⟨h1, h2⟩ := carry2_tight n h
  obtain ⟨dg, dl⟩ := h1.dig
  rw [leastL, ← h2]
  generalize carryN n 2 = x at *
  obtain ⟨a, b, c, d, e, rfl, ha, hb, hc, hd, he⟩ := h1
  have hp : lplus [a, b, c, d, e] = [a + 5, b, c, d, e] := by
    show [IntKind.u64.wrap (a + 5), b, c, d, e] = _
    rw [u64_id _ (by omega) (by omega)]
  rw [hp, lfold_eq (a + 5) b c d e (by omega) hb hc hd he]
  obtain ⟨c0, hc0⟩ : ∃ x, x = (a + 5) / 67108864 := ⟨_, rfl⟩
  obtain ⟨c1, hc1⟩ : ∃ x, x = (b + c0) / 67108864 := ⟨_, rfl⟩
  obtain ⟨c2, hc2⟩ : ∃ x, x = (c + c1) / 67108864 := ⟨_, rfl⟩
  obtain ⟨c3, hc3⟩ : ∃ x, x = (d + c2) / 67108864 := ⟨_, rfl⟩
  rw [← hc0, ← hc1, ← hc2, ← hc3]
  have r4 : rd [(a + 5) % 67108864, (b + c0) % 67108864, (c + c1) % 67108864, (d + c2) % 67108864, e + c3] 4 = e + c3 := rfl
  have st : [(a + 5) % 67108864, (b + c0) % 67108864, (c + c1) % 67108864, (d + c2) % 67108864, e + c3].set 4 (bits .and .u64 (e + c3) 67108863) = [(a + 5) % 67108864, (b + c0) % 67108864, (c + c1) % 67108864, (d + c2) % 67108864, (e + c3) % 67108864] := by
    rw [and26 _ (by omega) (by omega)]
    rfl
  rw [r4]
  split
  · rename_i hz
    have hlt : dv 67108864 [a, b, c, d, e] % pp = dv 67108864 [a, b, c, d, e] := by
      rw [Int.emod_eq_of_lt]
      · rw [dv5]; omega
      · rw [dv5, pp_lit]; omega
    rw [hlt]
    exact (digs_dv (by decide) _ dg).symm
  · rename_i hz
    rw [st]
    obtain ⟨ys, hys⟩ : ∃ y, y = [(a + 5) % 67108864, (b + c0) % 67108864, (c + c1) % 67108864, (d + c2) % 67108864, (e + c3) % 67108864] := ⟨_, rfl⟩
    have hv : dv 67108864 [a, b, c, d, e] % pp = dv 67108864 ys := by
      have hsub : dv 67108864 [a, b, c, d, e] - pp = dv 67108864 ys := by
        rw [hys, dv5, dv5, pp_lit]; omega
      rw [← hsub, ← Int.sub_emod_right, Int.emod_eq_of_lt]
      · rw [hsub, hys, dv5]; omega
      · rw [dv5, pp_lit]; omega
    have hl : Lim 67108864 67108864 ys := ⟨_, _, _, _, _, hys, by omega, by omega, by omega, by omega, by omega⟩
    rw [hv, ← hys]
    have hh := digs_dv (B := 67108864) (by decide) _ hl.dig.1
    rw [hl.dig.2] at hh
    exact hh.symm
/-! ### The bytes of the tag -/
theorem and_one64 (x : Int) (h0 : 0 ≤ x) (h1 : x < 18446744073709551616) : bits .and .u64 x 1 = x % 2 := by
  obtain ⟨n, rfl⟩ := Int.eq_ofNat_of_zero_le h0
  have hn : n < 18446744073709551616 := by omega
  have e1 : (BitVec.ofInt 64 (n : Int)).toNat = n := by rw [BitVec.ofInt_natCast, BitVec.toNat_ofNat]; exact Nat.mod_eq_of_lt (by omega)
  show IntKind.u64.wrap ((BitVec.ofInt 64 (n : Int) &&& BitVec.ofInt 64 (1 : Int)).toNat : Int) = _
  have e2 : (BitVec.ofInt 64 (1 : Int)).toNat = 1 := by decide
  rw [BitVec.toNat_and, e1, e2, Nat.and_one_is_mod, IntKind.wrap_u64]
  omega
theorem bitN_eq {n : List Int} (hn : digOk 67108864 n) (k : Nat) (hk : k / 26 < n.length) : bitN n k = dv 67108864 n / 2 ^ k % 2 := by
  have hr := digOk_rd (B := 67108864) (by decide) hn (k / 26)
  have hq := ediv_lt_self hr.1 (pow_pos2 (k % 26))
  rw [bitN, and_one64 _ hq.1 (by omega), ← dv_digit (by decide) hn (k / 26) hk]
  have e1 : (67108864 : Int) ^ (k / 26) = 2 ^ (26 * (k / 26)) := by rw [Int.pow_mul]; rfl
  have e2 : (2 : Int) ^ k = 2 ^ (26 * (k / 26)) * 2 ^ (k % 26) := by rw [← Int.pow_add]; congr 1; omega
  rw [e1, e2]
  obtain ⟨v, hv⟩ : ∃ v, v = dv 67108864 n / 2 ^ (26 * (k / 26)) := ⟨_, rfl⟩
  have e3 : dv 67108864 n / (2 ^ (26 * (k / 26)) * 2 ^ (k % 26)) = v / 2 ^ (k % 26) := by rw [hv, Int.ediv_ediv_of_nonneg (by have := pow_pos2 (26 * (k / 26)); omega)]
  rw [e3, ← hv]
  have h8 : k % 26 < 26 := Nat.mod_lt _ (by decide)
  have e4 : (67108864 : Int) = 2 ^ (k % 26) * 2 ^ (26 - k % 26) := by
    rw [← Int.pow_add, show k % 26 + (26 - k % 26) = 26 from by omega]
    rfl
  have e5 : (2 : Int) ^ (26 - k % 26) = 2 * 2 ^ (25 - k % 26) := by
    rw [show 26 - k % 26 = (25 - k % 26) + 1 from by omega, Int.pow_succ, Int.mul_comm]
  have p := pow_pos2 (k % 26)
  have e6 := emod_mul' v (2 ^ (k % 26)) (2 ^ (26 - k % 26)) (by omega)
  rw [← e4] at e6
  rw [e6, Int.add_mul_ediv_left _ _ (by omega), Int.ediv_eq_zero_of_lt (Int.emod_nonneg _ (by omega)) (Int.emod_lt_of_pos _ p), Int.zero_add, e5, Int.emod_emod_of_dvd _ (Int.dvd_mul_right 2 _)]
theorem byteTo_eq {n : List Int} (hn : digOk 67108864 n) (hl : n.length = 5) (i : Nat) (hi : i < 16) (c : Nat) (hc : c ≤ 8) : byteTo n i c = dv 67108864 n / 2 ^ (8 * i) % 2 ^ c := by
  induction c with
  | zero => rw [byteTo_zero, Int.pow_zero, Int.emod_one]
  | succ c ih =>
    have hv := (dv_bound (B := 67108864) (by decide) n hn).1
    have p8 := pow_pos2 (8 * i)
    have pc := pow_pos2 c
    have e2 : (2 : Int) ^ (8 * i + c) = 2 ^ (8 * i) * 2 ^ c := Int.pow_add _ _ _
    rw [byteTo_succ, byteStep, ih (by omega), bitN_eq hn _ (by omega), mod_two_pow_succ, e2, ← Int.ediv_ediv_of_nonneg (by omega)]
    obtain ⟨y, hy⟩ : ∃ y, y = dv 67108864 n / 2 ^ (8 * i) := ⟨_, rfl⟩
    rw [← hy]
    have hbt : y / 2 ^ c % 2 = 0 ∨ y / 2 ^ c % 2 = 1 := by omega
    generalize y / 2 ^ c % 2 = bt at *
    have c128 : (2 : Int) ^ c ≤ 128 := by
      have : (2 : Nat) ^ c ≤ 2 ^ 7 := Nat.pow_le_pow_right (by decide) (by omega)
      have h2 : ((2 ^ c : Nat) : Int) ≤ ((2 ^ 7 : Nat) : Int) := by exact_mod_cast this
      simpa using h2
    have y0 := Int.emod_nonneg y (show (2 : Int) ^ c ≠ 0 by omega)
    have y1 := Int.emod_lt_of_pos y pc
    obtain ⟨p, hp⟩ : ∃ p, p = (2 : Int) ^ c := ⟨_, rfl⟩
    have hp' := hp
    rw [← hp] at y0 y1 c128 pc ⊢
    have hbp : 0 ≤ bt * p ∧ bt * p ≤ p := by rcases hbt with rfl | rfl <;> omega
    have hor : ∀ a b : Int, bits .or .u64 a b = bits .or .u64 b a := fun a b => by simp [bits, BitVec.or_comm]
    rw [u64_id (bt * p) (by omega) (by omega), hor, bits_join .u64 64 (by decide) u64_id' c (bt * p) (y % p) hbp.1 (by rw [← hp']; exact Int.mul_emod_left _ _) (by omega) y0 (by rw [← hp']; exact y1) (by omega), Int.add_comm]
theorem digs_succ (B : Int) (hB : 0 < B) (n : Nat) (v : Int) : digs B (n + 1) v = digs B n v ++ [v / B ^ n % B] := by
  induction n generalizing v with
  | zero => simp [digs]
  | succ n ih =>
    rw [digs, ih (v / B), digs, List.cons_append, Int.pow_succ, Int.mul_comm _ B, Int.ediv_ediv_of_nonneg (by omega)]
/-- The sum's bytes. -/
theorem outTo_eq (n s : List Int) (hn : digOk 67108864 n) (hl : n.length = 5) (hs : digOk 256 s) (hsl : s.length = 16) (c : Nat) (hc : c ≤ 16) :
    (0 ≤ (outTo n s c).1 ∧ (outTo n s c).1 ≤ 2) ∧ (dv 67108864 n + dv 256 s) / 256 ^ c = (outTo n s c).1 + dv 67108864 n / 256 ^ c + dv 256 s / 256 ^ c ∧ (outTo n s c).2 = digs 256 c (dv 67108864 n + dv 256 s) ++ List.replicate (16 - c) 0 := by
  induction c with
  | zero => simp [outTo, digs]
  | succ c ih =>
    obtain ⟨⟨h0, h1⟩, h2, h3⟩ := ih (by omega)
    have hb := byteTo_eq hn hl c (by omega) 8 (by omega)
    have e8 : (2 : Int) ^ (8 * c) = 256 ^ c := by rw [Int.pow_mul]; rfl
    rw [e8, show (2 : Int) ^ 8 = 256 from rfl] at hb
    have hd := dv_digit (B := 256) (by decide) hs c (by omega)
    have hr := digOk_rd (B := 256) (by decide) hs c
    have hp : (0 : Int) < 256 ^ c := Int.pow_pos (by decide)
    rw [outTo_succ, outStep]
    simp only []
    rw [hb, ← hd]
    have ed : ∀ x : Int, x / 256 ^ (c + 1) = x / 256 ^ c / 256 := fun x => by rw [Int.pow_succ, Int.ediv_ediv_of_nonneg (by omega)]
    rw [ed, ed, ed, digs_succ 256 (by decide), h2, h3]
    generalize (outTo n s c).1 = q at *
    generalize dv 67108864 n / 256 ^ c = x at *
    generalize dv 256 s / 256 ^ c = y at *
    rw [u64_id (y % 256) (by omega) (by omega), u64_id (x % 256 + y % 256) (by omega) (by omega), u64_id (q + (x % 256 + y % 256)) (by omega) (by omega)]
    refine ⟨by omega, by omega, ?_⟩
    rw [fill_set _ _ _ _ (by rw [digs_length]) (by omega), show 16 - c - 1 = 16 - (c + 1) from by omega, show (q + (x % 256 + y % 256)) % 256 = (q + x + y) % 256 from by omega]
theorem out_spec (n s : List Int) (hn : digOk 67108864 n) (hl : n.length = 5) (hs : digOk 256 s) (hsl : s.length = 16) : (outTo n s 16).2 = digs 256 16 (dv 67108864 n + dv 256 s) := by
  have h := (outTo_eq n s hn hl hs hsl 16 (by omega)).2.2
  rw [h]
  simp
end Go.Proofs.Ytcjfpcajjhccaaa
