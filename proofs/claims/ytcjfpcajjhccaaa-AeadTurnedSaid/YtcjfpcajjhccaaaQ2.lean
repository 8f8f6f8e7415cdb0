/- What the limbs reckon: sums and products of limbs (printed by mkQ2.py). -/
import Derived.Test.YtcjfpcajjhccaaaQ1
set_option linter.unusedVariables false
set_option linter.unusedSimpArgs false
namespace Go.Proofs.Ytcjfpcajjhccaaa
open Go.RowKit
theorem addTo_eq (n0 n1 n2 n3 n4 m0 m1 m2 m3 m4 : Int) : addTo [n0, n1, n2, n3, n4] [m0, m1, m2, m3, m4] 5 = [IntKind.u64.wrap (n0 + m0), IntKind.u64.wrap (n1 + m1), IntKind.u64.wrap (n2 + m2), IntKind.u64.wrap (n3 + m3), IntKind.u64.wrap (n4 + m4)] := by
  simp only [addTo]
  rfl
theorem trow_eq0 (n0 n1 n2 n3 n4 m0 m1 m2 m3 m4 z0 z1 z2 z3 z4 : Int) : trow [n0, n1, n2, n3, n4] [m0, m1, m2, m3, m4] 0 [z0, z1, z2, z3, z4] 5 = [IntKind.u64.wrap (z0 + IntKind.u64.wrap (n0 * m0)), IntKind.u64.wrap (z1 + IntKind.u64.wrap (n0 * m1)), IntKind.u64.wrap (z2 + IntKind.u64.wrap (n0 * m2)), IntKind.u64.wrap (z3 + IntKind.u64.wrap (n0 * m3)), IntKind.u64.wrap (z4 + IntKind.u64.wrap (n0 * m4))] := by
  simp only [trow]
  rfl
theorem trow_eq1 (n0 n1 n2 n3 n4 m0 m1 m2 m3 m4 z0 z1 z2 z3 z4 : Int) : trow [n0, n1, n2, n3, n4] [m0, m1, m2, m3, m4] 1 [z0, z1, z2, z3, z4] 5 = [IntKind.u64.wrap (z0 + IntKind.u64.wrap (IntKind.u64.wrap (n1 * m4) * 5)), IntKind.u64.wrap (z1 + IntKind.u64.wrap (n1 * m0)), IntKind.u64.wrap (z2 + IntKind.u64.wrap (n1 * m1)), IntKind.u64.wrap (z3 + IntKind.u64.wrap (n1 * m2)), IntKind.u64.wrap (z4 + IntKind.u64.wrap (n1 * m3))] := by
  simp only [trow]
  rfl
theorem trow_eq2 (n0 n1 n2 n3 n4 m0 m1 m2 m3 m4 z0 z1 z2 z3 z4 : Int) : trow [n0, n1, n2, n3, n4] [m0, m1, m2, m3, m4] 2 [z0, z1, z2, z3, z4] 5 = [IntKind.u64.wrap (z0 + IntKind.u64.wrap (IntKind.u64.wrap (n2 * m3) * 5)), IntKind.u64.wrap (z1 + IntKind.u64.wrap (IntKind.u64.wrap (n2 * m4) * 5)), IntKind.u64.wrap (z2 + IntKind.u64.wrap (n2 * m0)), IntKind.u64.wrap (z3 + IntKind.u64.wrap (n2 * m1)), IntKind.u64.wrap (z4 + IntKind.u64.wrap (n2 * m2))] := by
  simp only [trow]
  rfl
theorem trow_eq3 (n0 n1 n2 n3 n4 m0 m1 m2 m3 m4 z0 z1 z2 z3 z4 : Int) : trow [n0, n1, n2, n3, n4] [m0, m1, m2, m3, m4] 3 [z0, z1, z2, z3, z4] 5 = [IntKind.u64.wrap (z0 + IntKind.u64.wrap (IntKind.u64.wrap (n3 * m2) * 5)), IntKind.u64.wrap (z1 + IntKind.u64.wrap (IntKind.u64.wrap (n3 * m3) * 5)), IntKind.u64.wrap (z2 + IntKind.u64.wrap (IntKind.u64.wrap (n3 * m4) * 5)), IntKind.u64.wrap (z3 + IntKind.u64.wrap (n3 * m0)), IntKind.u64.wrap (z4 + IntKind.u64.wrap (n3 * m1))] := by
  simp only [trow]
  rfl
theorem trow_eq4 (n0 n1 n2 n3 n4 m0 m1 m2 m3 m4 z0 z1 z2 z3 z4 : Int) : trow [n0, n1, n2, n3, n4] [m0, m1, m2, m3, m4] 4 [z0, z1, z2, z3, z4] 5 = [IntKind.u64.wrap (z0 + IntKind.u64.wrap (IntKind.u64.wrap (n4 * m1) * 5)), IntKind.u64.wrap (z1 + IntKind.u64.wrap (IntKind.u64.wrap (n4 * m2) * 5)), IntKind.u64.wrap (z2 + IntKind.u64.wrap (IntKind.u64.wrap (n4 * m3) * 5)), IntKind.u64.wrap (z3 + IntKind.u64.wrap (IntKind.u64.wrap (n4 * m4) * 5)), IntKind.u64.wrap (z4 + IntKind.u64.wrap (n4 * m0))] := by
  simp only [trow]
  rfl
theorem tall_eq (n0 n1 n2 n3 n4 m0 m1 m2 m3 m4 : Int) : tall [n0, n1, n2, n3, n4] [m0, m1, m2, m3, m4] 5 = [IntKind.u64.wrap (IntKind.u64.wrap (IntKind.u64.wrap (IntKind.u64.wrap (IntKind.u64.wrap (0 + IntKind.u64.wrap (n0 * m0)) + IntKind.u64.wrap (IntKind.u64.wrap (n1 * m4) * 5)) + IntKind.u64.wrap (IntKind.u64.wrap (n2 * m3) * 5)) + IntKind.u64.wrap (IntKind.u64.wrap (n3 * m2) * 5)) + IntKind.u64.wrap (IntKind.u64.wrap (n4 * m1) * 5)),
    IntKind.u64.wrap (IntKind.u64.wrap (IntKind.u64.wrap (IntKind.u64.wrap (IntKind.u64.wrap (0 + IntKind.u64.wrap (n0 * m1)) + IntKind.u64.wrap (n1 * m0)) + IntKind.u64.wrap (IntKind.u64.wrap (n2 * m4) * 5)) + IntKind.u64.wrap (IntKind.u64.wrap (n3 * m3) * 5)) + IntKind.u64.wrap (IntKind.u64.wrap (n4 * m2) * 5)),
    IntKind.u64.wrap (IntKind.u64.wrap (IntKind.u64.wrap (IntKind.u64.wrap (IntKind.u64.wrap (0 + IntKind.u64.wrap (n0 * m2)) + IntKind.u64.wrap (n1 * m1)) + IntKind.u64.wrap (n2 * m0)) + IntKind.u64.wrap (IntKind.u64.wrap (n3 * m4) * 5)) + IntKind.u64.wrap (IntKind.u64.wrap (n4 * m3) * 5)),
    IntKind.u64.wrap (IntKind.u64.wrap (IntKind.u64.wrap (IntKind.u64.wrap (IntKind.u64.wrap (0 + IntKind.u64.wrap (n0 * m3)) + IntKind.u64.wrap (n1 * m2)) + IntKind.u64.wrap (n2 * m1)) + IntKind.u64.wrap (n3 * m0)) + IntKind.u64.wrap (IntKind.u64.wrap (n4 * m4) * 5)),
    IntKind.u64.wrap (IntKind.u64.wrap (IntKind.u64.wrap (IntKind.u64.wrap (IntKind.u64.wrap (0 + IntKind.u64.wrap (n0 * m4)) + IntKind.u64.wrap (n1 * m3)) + IntKind.u64.wrap (n2 * m2)) + IntKind.u64.wrap (n3 * m1)) + IntKind.u64.wrap (n4 * m0))] := by
  have h0 : tall [n0, n1, n2, n3, n4] [m0, m1, m2, m3, m4] 0 = [0, 0, 0, 0, 0] := by simp only [tall]; rfl
  rw [tall_succ, tall_succ, tall_succ, tall_succ, tall_succ, h0, trow_eq0, trow_eq1, trow_eq2, trow_eq3, trow_eq4]
theorem mul54 (x y : Int) (hx : 0 ≤ x ∧ x < 268435456) (hy : 0 ≤ y ∧ y < 67108864) : 0 ≤ x * y ∧ x * y < 18014398509481984 := by
  refine ⟨Int.mul_nonneg hx.1 hy.1, ?_⟩
  have h1 : x * y ≤ 268435455 * y := Int.mul_le_mul_of_nonneg_right (by omega) hy.1
  omega
theorem tall_sum (n0 n1 n2 n3 n4 m0 m1 m2 m3 m4 : Int) (hn0 : 0 ≤ n0 ∧ n0 < 268435456) (hn1 : 0 ≤ n1 ∧ n1 < 268435456) (hn2 : 0 ≤ n2 ∧ n2 < 268435456) (hn3 : 0 ≤ n3 ∧ n3 < 268435456) (hn4 : 0 ≤ n4 ∧ n4 < 268435456) (hm0 : 0 ≤ m0 ∧ m0 < 67108864) (hm1 : 0 ≤ m1 ∧ m1 < 67108864) (hm2 : 0 ≤ m2 ∧ m2 < 67108864) (hm3 : 0 ≤ m3 ∧ m3 < 67108864) (hm4 : 0 ≤ m4 ∧ m4 < 67108864) :
    tall [n0, n1, n2, n3, n4] [m0, m1, m2, m3, m4] 5 = [n0 * m0 + n1 * m4 * 5 + n2 * m3 * 5 + n3 * m2 * 5 + n4 * m1 * 5,
    n0 * m1 + n1 * m0 + n2 * m4 * 5 + n3 * m3 * 5 + n4 * m2 * 5,
    n0 * m2 + n1 * m1 + n2 * m0 + n3 * m4 * 5 + n4 * m3 * 5,
    n0 * m3 + n1 * m2 + n2 * m1 + n3 * m0 + n4 * m4 * 5,
    n0 * m4 + n1 * m3 + n2 * m2 + n3 * m1 + n4 * m0] := by
  rw [tall_eq]
  have b00 := mul54 n0 m0 hn0 hm0
  have b01 := mul54 n0 m1 hn0 hm1
  have b02 := mul54 n0 m2 hn0 hm2
  have b03 := mul54 n0 m3 hn0 hm3
  have b04 := mul54 n0 m4 hn0 hm4
  have b10 := mul54 n1 m0 hn1 hm0
  have b11 := mul54 n1 m1 hn1 hm1
  have b12 := mul54 n1 m2 hn1 hm2
  have b13 := mul54 n1 m3 hn1 hm3
  have b14 := mul54 n1 m4 hn1 hm4
  have b20 := mul54 n2 m0 hn2 hm0
  have b21 := mul54 n2 m1 hn2 hm1
  have b22 := mul54 n2 m2 hn2 hm2
  have b23 := mul54 n2 m3 hn2 hm3
  have b24 := mul54 n2 m4 hn2 hm4
  have b30 := mul54 n3 m0 hn3 hm0
  have b31 := mul54 n3 m1 hn3 hm1
  have b32 := mul54 n3 m2 hn3 hm2
  have b33 := mul54 n3 m3 hn3 hm3
  have b34 := mul54 n3 m4 hn3 hm4
  have b40 := mul54 n4 m0 hn4 hm0
  have b41 := mul54 n4 m1 hn4 hm1
  have b42 := mul54 n4 m2 hn4 hm2
  have b43 := mul54 n4 m3 hn4 hm3
  have b44 := mul54 n4 m4 hn4 hm4
  generalize n0 * m0 = p00 at *
  generalize n0 * m1 = p01 at *
  generalize n0 * m2 = p02 at *
  generalize n0 * m3 = p03 at *
  generalize n0 * m4 = p04 at *
  generalize n1 * m0 = p10 at *
  generalize n1 * m1 = p11 at *
  generalize n1 * m2 = p12 at *
  generalize n1 * m3 = p13 at *
  generalize n1 * m4 = p14 at *
  generalize n2 * m0 = p20 at *
  generalize n2 * m1 = p21 at *
  generalize n2 * m2 = p22 at *
  generalize n2 * m3 = p23 at *
  generalize n2 * m4 = p24 at *
  generalize n3 * m0 = p30 at *
  generalize n3 * m1 = p31 at *
  generalize n3 * m2 = p32 at *
  generalize n3 * m3 = p33 at *
  generalize n3 * m4 = p34 at *
  generalize n4 * m0 = p40 at *
  generalize n4 * m1 = p41 at *
  generalize n4 * m2 = p42 at *
  generalize n4 * m3 = p43 at *
  generalize n4 * m4 = p44 at *
  simp only [IntKind.wrap_u64]
  congr 1
  · omega
  congr 1
  · omega
  congr 1
  · omega
  congr 1
  · omega
  congr 1
  omega
theorem prod_mod (n0 n1 n2 n3 n4 m0 m1 m2 m3 m4 : Int) :
    dv 67108864 [n0 * m0 + n1 * m4 * 5 + n2 * m3 * 5 + n3 * m2 * 5 + n4 * m1 * 5,
    n0 * m1 + n1 * m0 + n2 * m4 * 5 + n3 * m3 * 5 + n4 * m2 * 5,
    n0 * m2 + n1 * m1 + n2 * m0 + n3 * m4 * 5 + n4 * m3 * 5,
    n0 * m3 + n1 * m2 + n2 * m1 + n3 * m0 + n4 * m4 * 5,
    n0 * m4 + n1 * m3 + n2 * m2 + n3 * m1 + n4 * m0] % pp = dv 67108864 [n0, n1, n2, n3, n4] * dv 67108864 [m0, m1, m2, m3, m4] % pp := by
  have h : dv 67108864 [n0 * m0 + n1 * m4 * 5 + n2 * m3 * 5 + n3 * m2 * 5 + n4 * m1 * 5,
    n0 * m1 + n1 * m0 + n2 * m4 * 5 + n3 * m3 * 5 + n4 * m2 * 5,
    n0 * m2 + n1 * m1 + n2 * m0 + n3 * m4 * 5 + n4 * m3 * 5,
    n0 * m3 + n1 * m2 + n2 * m1 + n3 * m0 + n4 * m4 * 5,
    n0 * m4 + n1 * m3 + n2 * m2 + n3 * m1 + n4 * m0] + pp * (1 * (n1 * m4) + 1 * (n2 * m3) + 67108864 * (n2 * m4) + 1 * (n3 * m2) + 67108864 * (n3 * m3) + 4503599627370496 * (n3 * m4) + 1 * (n4 * m1) + 67108864 * (n4 * m2) + 4503599627370496 * (n4 * m3) + 302231454903657293676544 * (n4 * m4)) = dv 67108864 [n0, n1, n2, n3, n4] * dv 67108864 [m0, m1, m2, m3, m4] := by
    rw [dv5, dv5, dv5, pp_lit]
    grind
  rw [← h, Int.add_mul_emod_self_left]
theorem add_spec (n m : List Int) (hn : Lim 67108872 67108864 n) (hm : Lim 67108864 67108864 m) : Lim 268435456 268435456 (addTo n m 5) ∧ dv 67108864 (addTo n m 5) = dv 67108864 n + dv 67108864 m := by
  obtain ⟨n0, n1, n2, n3, n4, rfl, hn0, hn1, hn2, hn3, hn4⟩ := hn
  obtain ⟨m0, m1, m2, m3, m4, rfl, hm0, hm1, hm2, hm3, hm4⟩ := hm
  rw [addTo_eq, u64_id (n0 + m0) (by omega) (by omega), u64_id (n1 + m1) (by omega) (by omega), u64_id (n2 + m2) (by omega) (by omega), u64_id (n3 + m3) (by omega) (by omega), u64_id (n4 + m4) (by omega) (by omega)]
  refine ⟨⟨_, _, _, _, _, rfl, by omega, by omega, by omega, by omega, by omega⟩, ?_⟩
  rw [dv5, dv5, dv5]
  omega
theorem times_spec (n m : List Int) (hn : Lim 268435456 268435456 n) (hm : Lim 67108864 67108864 m) : Lim 67108872 67108864 (timesL n m) ∧ dv 67108864 (timesL n m) % pp = dv 67108864 n * dv 67108864 m % pp := by
  obtain ⟨n0, n1, n2, n3, n4, rfl, hn0, hn1, hn2, hn3, hn4⟩ := hn
  obtain ⟨m0, m1, m2, m3, m4, rfl, hm0, hm1, hm2, hm3, hm4⟩ := hm
  have hs := tall_sum n0 n1 n2 n3 n4 m0 m1 m2 m3 m4 hn0 hn1 hn2 hn3 hn4 hm0 hm1 hm2 hm3 hm4
  have hp := prod_mod n0 n1 n2 n3 n4 m0 m1 m2 m3 m4
  rw [← hs] at hp
  have hl : Lim 1152921504606846976 1152921504606846976 (tall [n0, n1, n2, n3, n4] [m0, m1, m2, m3, m4] 5) := by
    rw [hs]
    have b (x y : Int) (hx : 0 ≤ x ∧ x < 268435456) (hy : 0 ≤ y ∧ y < 67108864) := mul54 x y hx hy
    have b00 := mul54 n0 m0 hn0 hm0
    have b01 := mul54 n0 m1 hn0 hm1
    have b02 := mul54 n0 m2 hn0 hm2
    have b03 := mul54 n0 m3 hn0 hm3
    have b04 := mul54 n0 m4 hn0 hm4
    have b10 := mul54 n1 m0 hn1 hm0
    have b11 := mul54 n1 m1 hn1 hm1
    have b12 := mul54 n1 m2 hn1 hm2
    have b13 := mul54 n1 m3 hn1 hm3
    have b14 := mul54 n1 m4 hn1 hm4
    have b20 := mul54 n2 m0 hn2 hm0
    have b21 := mul54 n2 m1 hn2 hm1
    have b22 := mul54 n2 m2 hn2 hm2
    have b23 := mul54 n2 m3 hn2 hm3
    have b24 := mul54 n2 m4 hn2 hm4
    have b30 := mul54 n3 m0 hn3 hm0
    have b31 := mul54 n3 m1 hn3 hm1
    have b32 := mul54 n3 m2 hn3 hm2
    have b33 := mul54 n3 m3 hn3 hm3
    have b34 := mul54 n3 m4 hn3 hm4
    have b40 := mul54 n4 m0 hn4 hm0
    have b41 := mul54 n4 m1 hn4 hm1
    have b42 := mul54 n4 m2 hn4 hm2
    have b43 := mul54 n4 m3 hn4 hm3
    have b44 := mul54 n4 m4 hn4 hm4
    generalize n0 * m0 = p00 at *
    generalize n0 * m1 = p01 at *
    generalize n0 * m2 = p02 at *
    generalize n0 * m3 = p03 at *
    generalize n0 * m4 = p04 at *
    generalize n1 * m0 = p10 at *
    generalize n1 * m1 = p11 at *
    generalize n1 * m2 = p12 at *
    generalize n1 * m3 = p13 at *
    generalize n1 * m4 = p14 at *
    generalize n2 * m0 = p20 at *
    generalize n2 * m1 = p21 at *
    generalize n2 * m2 = p22 at *
    generalize n2 * m3 = p23 at *
    generalize n2 * m4 = p24 at *
    generalize n3 * m0 = p30 at *
    generalize n3 * m1 = p31 at *
    generalize n3 * m2 = p32 at *
    generalize n3 * m3 = p33 at *
    generalize n3 * m4 = p34 at *
    generalize n4 * m0 = p40 at *
    generalize n4 * m1 = p41 at *
    generalize n4 * m2 = p42 at *
    generalize n4 * m3 = p43 at *
    generalize n4 * m4 = p44 at *
    exact ⟨_, _, _, _, _, rfl, by omega, by omega, by omega, by omega, by omega⟩
  obtain ⟨h1, h2⟩ := carry2_wide _ hl
  have e : timesL [n0, n1, n2, n3, n4] [m0, m1, m2, m3, m4] = carryN (tall [n0, n1, n2, n3, n4] [m0, m1, m2, m3, m4] 5) 2 := by simp only [timesL]
  rw [e]
  exact ⟨h1, by rw [h2, hp]⟩
end Go.Proofs.Ytcjfpcajjhccaaa
