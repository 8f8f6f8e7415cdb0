/- The walks of the stream layer's laws, third part: StreamQuarter: the quarter round can be undone. -/
import Derived.Test.YtcjfpcajjhccaaaL2
set_option linter.unusedVariables false
set_option linter.unusedSimpArgs false
namespace Go.Proofs.Ytcjfpcajjhccaaa
open Go.RowKit
theorem or_comm32 (x y : Int) : bits .or .u32 x y = bits .or .u32 y x := by simp [bits, BitVec.or_comm]
theorem xor_u32 (a b : Nat) (ha : a < 4294967296) (hb : b < 4294967296) : bits .xor .u32 (a : Int) (b : Int) = ((a ^^^ b : Nat) : Int) := by
  have hx : a ^^^ b < 2 ^ 32 := Nat.xor_lt_two_pow (by omega) (by omega)
  have h1 : (BitVec.ofInt 32 (a : Int)).toNat = a := by rw [BitVec.ofInt_natCast, BitVec.toNat_ofNat]; exact Nat.mod_eq_of_lt (by omega)
  have h2 : (BitVec.ofInt 32 (b : Int)).toNat = b := by rw [BitVec.ofInt_natCast, BitVec.toNat_ofNat]; exact Nat.mod_eq_of_lt (by omega)
  show IntKind.u32.wrap ((BitVec.ofInt 32 (a : Int) ^^^ BitVec.ofInt 32 (b : Int)).toNat : Int) = _
  rw [BitVec.toNat_xor, h1, h2, IntKind.wrap_u32]
  omega
theorem nat_of {x : Int} (h : 0 ≤ x ∧ x < 4294967296) : ∃ n : Nat, x = n ∧ n < 4294967296 := ⟨x.toNat, by omega, by omega⟩
theorem xor_back32 {x y : Int} (hx : 0 ≤ x ∧ x < 4294967296) (hy : 0 ≤ y ∧ y < 4294967296) : bits .xor .u32 (bits .xor .u32 x y) y = x := by
  obtain ⟨a, rfl, ha⟩ := nat_of hx
  obtain ⟨b, rfl, hb⟩ := nat_of hy
  have hab : a ^^^ b < 2 ^ 32 := Nat.xor_lt_two_pow (by omega) (by omega)
  rw [xor_u32 a b ha hb, xor_u32 _ b (by omega) hb, Nat.xor_assoc, Nat.xor_self, Nat.xor_zero]
theorem xor_lt32 (x y : Int) : 0 ≤ bits .xor .u32 x y ∧ bits .xor .u32 x y < 4294967296 := by
  unfold bits
  rw [IntKind.wrap_u32]
  omega
theorem wu32 (n : Int) (h0 : 0 ≤ n) (h1 : n < 2 ^ 32) : IntKind.u32.wrap n = n := by rw [IntKind.wrap_u32]; omega
theorem ror7 {x : Int} (h : 0 ≤ x ∧ x < 4294967296) : bits .or .u32 (rl 128 33554432 x / 128) (rl 128 33554432 x * 33554432 % 4294967296) = x := by
  obtain ⟨hi, lo, rfl, l0, l1, i0, i1⟩ : ∃ hi lo : Int, x = hi * 33554432 + lo ∧ 0 ≤ lo ∧ lo < 33554432 ∧ 0 ≤ hi ∧ hi < 128 := ⟨x / 33554432, x % 33554432, by omega, by omega, by omega, by omega, by omega⟩
  have e1 : (hi * 33554432 + lo) * 128 % 4294967296 = lo * 128 := by omega
  have e2 : (hi * 33554432 + lo) / 33554432 = hi := by omega
  have e : rl 128 33554432 (hi * 33554432 + lo) = lo * 128 + hi := by
    unfold rl
    rw [e1, e2, bits_join .u32 32 (by decide) wu32 7 (lo * 128) hi (by omega) (by omega) (by omega) (by omega) (by omega) (by omega)]
  have e3 : (lo * 128 + hi) / 128 = lo := by omega
  have e4 : (lo * 128 + hi) * 33554432 % 4294967296 = hi * 33554432 := by omega
  rw [e, e3, e4, or_comm32, bits_join .u32 32 (by decide) wu32 25 (hi * 33554432) lo (by omega) (by omega) (by omega) (by omega) (by omega) (by omega)]
theorem ror8 {x : Int} (h : 0 ≤ x ∧ x < 4294967296) : bits .or .u32 (rl 256 16777216 x / 256) (rl 256 16777216 x * 16777216 % 4294967296) = x := by
  obtain ⟨hi, lo, rfl, l0, l1, i0, i1⟩ : ∃ hi lo : Int, x = hi * 16777216 + lo ∧ 0 ≤ lo ∧ lo < 16777216 ∧ 0 ≤ hi ∧ hi < 256 := ⟨x / 16777216, x % 16777216, by omega, by omega, by omega, by omega, by omega⟩
  have e1 : (hi * 16777216 + lo) * 256 % 4294967296 = lo * 256 := by omega
  have e2 : (hi * 16777216 + lo) / 16777216 = hi := by omega
  have e : rl 256 16777216 (hi * 16777216 + lo) = lo * 256 + hi := by
    unfold rl
    rw [e1, e2, bits_join .u32 32 (by decide) wu32 8 (lo * 256) hi (by omega) (by omega) (by omega) (by omega) (by omega) (by omega)]
  have e3 : (lo * 256 + hi) / 256 = lo := by omega
  have e4 : (lo * 256 + hi) * 16777216 % 4294967296 = hi * 16777216 := by omega
  rw [e, e3, e4, or_comm32, bits_join .u32 32 (by decide) wu32 24 (hi * 16777216) lo (by omega) (by omega) (by omega) (by omega) (by omega) (by omega)]
theorem ror12 {x : Int} (h : 0 ≤ x ∧ x < 4294967296) : bits .or .u32 (rl 4096 1048576 x / 4096) (rl 4096 1048576 x * 1048576 % 4294967296) = x := by
  obtain ⟨hi, lo, rfl, l0, l1, i0, i1⟩ : ∃ hi lo : Int, x = hi * 1048576 + lo ∧ 0 ≤ lo ∧ lo < 1048576 ∧ 0 ≤ hi ∧ hi < 4096 := ⟨x / 1048576, x % 1048576, by omega, by omega, by omega, by omega, by omega⟩
  have e1 : (hi * 1048576 + lo) * 4096 % 4294967296 = lo * 4096 := by omega
  have e2 : (hi * 1048576 + lo) / 1048576 = hi := by omega
  have e : rl 4096 1048576 (hi * 1048576 + lo) = lo * 4096 + hi := by
    unfold rl
    rw [e1, e2, bits_join .u32 32 (by decide) wu32 12 (lo * 4096) hi (by omega) (by omega) (by omega) (by omega) (by omega) (by omega)]
  have e3 : (lo * 4096 + hi) / 4096 = lo := by omega
  have e4 : (lo * 4096 + hi) * 1048576 % 4294967296 = hi * 1048576 := by omega
  rw [e, e3, e4, or_comm32, bits_join .u32 32 (by decide) wu32 20 (hi * 1048576) lo (by omega) (by omega) (by omega) (by omega) (by omega) (by omega)]
theorem ror16 {x : Int} (h : 0 ≤ x ∧ x < 4294967296) : bits .or .u32 (rl 65536 65536 x / 65536) (rl 65536 65536 x * 65536 % 4294967296) = x := by
  obtain ⟨hi, lo, rfl, l0, l1, i0, i1⟩ : ∃ hi lo : Int, x = hi * 65536 + lo ∧ 0 ≤ lo ∧ lo < 65536 ∧ 0 ≤ hi ∧ hi < 65536 := ⟨x / 65536, x % 65536, by omega, by omega, by omega, by omega, by omega⟩
  have e1 : (hi * 65536 + lo) * 65536 % 4294967296 = lo * 65536 := by omega
  have e2 : (hi * 65536 + lo) / 65536 = hi := by omega
  have e : rl 65536 65536 (hi * 65536 + lo) = lo * 65536 + hi := by
    unfold rl
    rw [e1, e2, bits_join .u32 32 (by decide) wu32 16 (lo * 65536) hi (by omega) (by omega) (by omega) (by omega) (by omega) (by omega)]
  have e3 : (lo * 65536 + hi) / 65536 = lo := by omega
  have e4 : (lo * 65536 + hi) * 65536 % 4294967296 = hi * 65536 := by omega
  rw [e, e3, e4, or_comm32, bits_join .u32 32 (by decide) wu32 16 (hi * 65536) lo (by omega) (by omega) (by omega) (by omega) (by omega) (by omega)]
theorem add32_lt (a b : Int) : 0 ≤ add32 a b ∧ add32 a b < 4294967296 := by unfold add32; omega
/-- What undoes a quarter round, in the spelling of the walk. -/
theorem undo (a b c d : Int) (ha : 0 ≤ a ∧ a < 4294967296) (hb : 0 ≤ b ∧ b < 4294967296) (hc : 0 ≤ c ∧ c < 4294967296) (hd : 0 ≤ d ∧ d < 4294967296) :
    ∃ P B1 C1 R D1 a1 T U : Int,
      bits .or .u32 (qB2 a b c d / 128) (qB2 a b c d * 33554432 % 4294967296) = P ∧ bits .xor .u32 P (qC2 a b c d) = B1 ∧ (qC2 a b c d - qD2 a b c d) % 4294967296 = C1 ∧
      bits .or .u32 (qD2 a b c d / 256) (qD2 a b c d * 16777216 % 4294967296) = R ∧ bits .xor .u32 R (qA2 a b c d) = D1 ∧ (qA2 a b c d - B1) % 4294967296 = a1 ∧
      bits .or .u32 (B1 / 4096) (B1 * 1048576 % 4294967296) = T ∧ bits .xor .u32 T C1 = b ∧ (C1 - D1) % 4294967296 = c ∧
      bits .or .u32 (D1 / 65536) (D1 * 65536 % 4294967296) = U ∧ bits .xor .u32 U a1 = d ∧ (a1 - b) % 4294967296 = a := by
  have hA : 0 ≤ qA2 a b c d ∧ qA2 a b c d < 4294967296 := by unfold qA2; omega
  have hC : 0 ≤ qC2 a b c d ∧ qC2 a b c d < 4294967296 := by unfold qC2; omega
  have hB1 : 0 ≤ qB1 a b c d ∧ qB1 a b c d < 4294967296 := rl_lt _ _ _
  have hD1 : 0 ≤ qD1 a b c d ∧ qD1 a b c d < 4294967296 := rl_lt _ _ _
  have hC1 : 0 ≤ qC1 a b c d ∧ qC1 a b c d < 4294967296 := add32_lt _ _
  have ha1 := add32_lt a b
  refine ⟨bits .xor .u32 (qB1 a b c d) (qC2 a b c d), qB1 a b c d, qC1 a b c d, bits .xor .u32 (qD1 a b c d) (qA2 a b c d), qD1 a b c d, add32 a b, bits .xor .u32 b (qC1 a b c d), bits .xor .u32 d (add32 a b),
    ror7 (xor_lt32 _ _), xor_back32 hB1 hC, ?_, ror8 (xor_lt32 _ _), xor_back32 hD1 hA, ?_, ror12 (xor_lt32 _ _), xor_back32 hb hC1, ?_, ror16 (xor_lt32 _ _), xor_back32 hd ha1, ?_⟩
  · unfold qC2 qC1 add32; omega
  · unfold qA2 add32; omega
  · unfold qC1 add32; omega
  · unfold add32; omega
set_option maxRecDepth 100000 in
set_option maxHeartbeats 2000000 in
theorem StreamQuarter4 (a b c d : Int) (w : World) (ha : 0 ≤ a ∧ a < 4294967296) (hb : 0 ≤ b ∧ b < 4294967296) (hc : 0 ≤ c ∧ c < 4294967296) (hd : 0 ≤ d ∧ d < 4294967296) :
    Calls Try.prog 4 #[.int .u32 a, .int .u32 b, .int .u32 c, .int .u32 d] w fun e w' => e = .returned (.bool true) ∧ Below w.heap.size w w' := by
  have M0 := Mem.start w
  have hu := undo a b c d ha hb hc hd
  obtain ⟨A, hA⟩ : ∃ x, x = qA2 a b c d := ⟨_, rfl⟩
  obtain ⟨B, hB⟩ : ∃ x, x = qB2 a b c d := ⟨_, rfl⟩
  obtain ⟨C, hC⟩ : ∃ x, x = qC2 a b c d := ⟨_, rfl⟩
  obtain ⟨D, hD⟩ : ∃ x, x = qD2 a b c d := ⟨_, rfl⟩
  have HQ := hid (fun w => Quarter21 a b c d w)
  rw [← hA, ← hB, ← hC, ← hD] at HQ hu
  obtain ⟨P, B1, C1, R, D1, a1, T, U, h1, h2, h3, h4, h5, h6, h7, h8, h9, h10, h11, h12⟩ := hu
  clear hA hB hC hD ha hb hc hd
  go_enter Try.func4, Try.ntmps4
  go_wp2_with (first | (go_at_call 18; refine (alive18 _).mono ?_; rintro e w1 ⟨rfl, hb1⟩; replace M0 := M0.call hb1) | (go_at_call 21; refine (HQ.out _).mono ?_; rintro e w' ⟨rfl, rfl⟩))
  go_ret
  exact ⟨rfl, M0.below⟩
end Go.Proofs.Ytcjfpcajjhccaaa
