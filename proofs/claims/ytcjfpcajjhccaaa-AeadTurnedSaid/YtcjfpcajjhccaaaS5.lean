/- Walks of the stream layer, fifth part: the reference's words, quarter round and places. -/
import Derived.Test.YtcjfpcajjhccaaaS4
set_option linter.unusedVariables false
set_option linter.unusedSimpArgs false
namespace Go.Proofs.Ytcjfpcajjhccaaa
open Go.RowKit
set_option maxRecDepth 100000 in
theorem word56 (s : ByteArray) (k : Nat) {K : Int} (hK : K = k) (w : World) (hk : k + 4 ≤ s.size) (hs : s.size ≤ 1000000) :
    Calls Try.prog 56 #[.string s, .int .i64 K] w fun e w' => e = .returned (.int .u32 (le4 (bytesOf s) k)) ∧ Below w.heap.size w w' := by
  subst hK
  have h0 : (k:Int) < (s.size : Int) := by omega
  have h1 : (k:Int) + 1 < (s.size : Int) := by omega
  have h2 : (k:Int) + 2 < (s.size : Int) := by omega
  have h3 : (k:Int) + 3 < (s.size : Int) := by omega
  have i0 : k < s.size := by omega
  have i1 : k + 1 < s.size := by omega
  have i2 : k + 2 < s.size := by omega
  have i3 : k + 3 < s.size := by omega
  obtain ⟨r0, q0⟩ := byte_range s k
  obtain ⟨r1, q1⟩ := byte_range s (k + 1)
  obtain ⟨r2, q2⟩ := byte_range s (k + 2)
  obtain ⟨r3, q3⟩ := byte_range s (k + 3)
  go_enter Try.func56, Try.ntmps56
  go_wp2
  go_quiet (fail)
  go_wp2
  go_ret
  refine ⟨?_, ((Mem.start w).drewN nq).below⟩
  rfl
theorem left16 (x : Int) (w : World) : Calls Try.prog 45 #[.int .u32 x, .int .u64 16] w fun e w' => e = .returned (.int .u32 (rl 65536 65536 x)) ∧ w' = w := by
  go_enter Try.func45, Try.ntmps45
  go_wp2
  go_ret
  exact ⟨rfl, rfl⟩
theorem left12 (x : Int) (w : World) : Calls Try.prog 45 #[.int .u32 x, .int .u64 12] w fun e w' => e = .returned (.int .u32 (rl 4096 1048576 x)) ∧ w' = w := by
  go_enter Try.func45, Try.ntmps45
  go_wp2
  go_ret
  exact ⟨rfl, rfl⟩
theorem left8 (x : Int) (w : World) : Calls Try.prog 45 #[.int .u32 x, .int .u64 8] w fun e w' => e = .returned (.int .u32 (rl 256 16777216 x)) ∧ w' = w := by
  go_enter Try.func45, Try.ntmps45
  go_wp2
  go_ret
  exact ⟨rfl, rfl⟩
theorem left7 (x : Int) (w : World) : Calls Try.prog 45 #[.int .u32 x, .int .u64 7] w fun e w' => e = .returned (.int .u32 (rl 128 33554432 x)) ∧ w' = w := by
  go_enter Try.func45, Try.ntmps45
  go_wp2
  go_ret
  exact ⟨rfl, rfl⟩
theorem results_tmp4 {P : Program} {fn : Func} {t u v x : Tmp} (h : fn.results = #[.tmp t, .tmp u, .tmp v, .tmp x]) (tmps : Array Value) (w : World) :
    (results fn tmps).run P w = .ok (.tuple #[tmps.getD t undef, tmps.getD u undef, tmps.getD v undef, tmps.getD x undef]) w := by simp [results, h]
/-- The quarter round of four words. -/
def add32 (a b : Int) : Int := (a + b) % 4294967296
def qD1 (a b c d : Int) : Int := rl 65536 65536 (bits .xor .u32 d (add32 a b))
def qC1 (a b c d : Int) : Int := add32 c (qD1 a b c d)
def qB1 (a b c d : Int) : Int := rl 4096 1048576 (bits .xor .u32 b (qC1 a b c d))
def qA2 (a b c d : Int) : Int := (a + b + qB1 a b c d) % 4294967296
def qD2 (a b c d : Int) : Int := rl 256 16777216 (bits .xor .u32 (qD1 a b c d) (qA2 a b c d))
def qC2 (a b c d : Int) : Int := (c + qD1 a b c d + qD2 a b c d) % 4294967296
def qB2 (a b c d : Int) : Int := rl 128 33554432 (bits .xor .u32 (qB1 a b c d) (qC2 a b c d))
theorem rl_lt (m d x : Int) : 0 ≤ rl m d x ∧ rl m d x < 4294967296 := by
  unfold rl bits
  rw [IntKind.wrap_u32]
  omega
theorem Quarter21 (a b c d : Int) (w : World) :
    Calls Try.prog 21 #[.int .u32 a, .int .u32 b, .int .u32 c, .int .u32 d] w fun e w' => e = .returned (.tuple #[.int .u32 (qA2 a b c d), .int .u32 (qB2 a b c d), .int .u32 (qC2 a b c d), .int .u32 (qD2 a b c d)]) ∧ w' = w := by
  go_enter Try.func21, Try.ntmps21
  go_wp2_with fail
  refine (left16 _ _).mono ?_; rintro e w' ⟨rfl, rfl⟩
  go_wp2_with fail
  refine (left12 _ _).mono ?_; rintro e w' ⟨rfl, rfl⟩
  go_wp2_with fail
  refine (left8 _ _).mono ?_; rintro e w' ⟨rfl, rfl⟩
  go_wp2_with fail
  refine (left7 _ _).mono ?_; rintro e w' ⟨rfl, rfl⟩
  go_wp2_with fail
  refine bodyPost_ret (results_tmp4 rfl _ _) rfl ?_
  exact ⟨rfl, rfl⟩
/-- The places, as numbers. -/
def placesL : List Int := [0, 4, 8, 12, 1, 5, 9, 13, 2, 6, 10, 14, 3, 7, 11, 15, 0, 5, 10, 15, 1, 6, 11, 12, 2, 7, 8, 13, 3, 4, 9, 14]
def aggI (l : List Int) : Value := .agg (nums .i64 l).toArray
theorem pl_b1 : ∀ w : World, (Instr.build 75 #[(0, .int .i64 0), (1, .int .i64 4), (2, .int .i64 8), (3, .int .i64 12)]).run Try.prog w = .ok (aggI [0, 4, 8, 12]) w := fun w => by kernel_rfl
theorem pl_b2 : ∀ w : World, (Instr.build 75 #[(0, .int .i64 1), (1, .int .i64 5), (2, .int .i64 9), (3, .int .i64 13)]).run Try.prog w = .ok (aggI [1, 5, 9, 13]) w := fun w => by kernel_rfl
theorem pl_b3 : ∀ w : World, (Instr.build 75 #[(0, .int .i64 2), (1, .int .i64 6), (2, .int .i64 10), (3, .int .i64 14)]).run Try.prog w = .ok (aggI [2, 6, 10, 14]) w := fun w => by kernel_rfl
theorem pl_b4 : ∀ w : World, (Instr.build 75 #[(0, .int .i64 3), (1, .int .i64 7), (2, .int .i64 11), (3, .int .i64 15)]).run Try.prog w = .ok (aggI [3, 7, 11, 15]) w := fun w => by kernel_rfl
theorem pl_b5 : ∀ w : World, (Instr.build 75 #[(0, .int .i64 0), (1, .int .i64 5), (2, .int .i64 10), (3, .int .i64 15)]).run Try.prog w = .ok (aggI [0, 5, 10, 15]) w := fun w => by kernel_rfl
theorem pl_b6 : ∀ w : World, (Instr.build 75 #[(0, .int .i64 1), (1, .int .i64 6), (2, .int .i64 11), (3, .int .i64 12)]).run Try.prog w = .ok (aggI [1, 6, 11, 12]) w := fun w => by kernel_rfl
theorem pl_b7 : ∀ w : World, (Instr.build 75 #[(0, .int .i64 2), (1, .int .i64 7), (2, .int .i64 8), (3, .int .i64 13)]).run Try.prog w = .ok (aggI [2, 7, 8, 13]) w := fun w => by kernel_rfl
theorem pl_b8 : ∀ w : World, (Instr.build 75 #[(0, .int .i64 3), (1, .int .i64 4), (2, .int .i64 9), (3, .int .i64 14)]).run Try.prog w = .ok (aggI [3, 4, 9, 14]) w := fun w => by kernel_rfl
theorem pl_b9 : ∀ w : World, (Instr.build 76 #[(0, aggI [0, 4, 8, 12]), (1, aggI [1, 5, 9, 13]), (2, aggI [2, 6, 10, 14]), (3, aggI [3, 7, 11, 15]), (4, aggI [0, 5, 10, 15]), (5, aggI [1, 6, 11, 12]), (6, aggI [2, 7, 8, 13]), (7, aggI [3, 4, 9, 14])]).run Try.prog w = .ok (.agg (nums .i64 placesL).toArray) w := fun w => by kernel_rfl
set_option maxRecDepth 100000 in
set_option maxHeartbeats 2000000 in
theorem places44 (w : World) : Calls Try.prog 44 #[] w fun e w' => e = .returned (.agg (nums .i64 placesL).toArray) ∧ Below w.heap.size w w' := by
  have M0 := Mem.start w
  go_enter Try.func44, Try.ntmps44
  go_wp2_with (first | (apply wpList_bld pl_b1; (· rfl); (· rfl); (· rfl); (conv => arg 5; simp only [Act.put, List.setIfInBounds_toArray, List.set_cons_succ, List.set_cons_zero])) | (apply wpList_bld pl_b2; (· rfl); (· rfl); (· rfl); (conv => arg 5; simp only [Act.put, List.setIfInBounds_toArray, List.set_cons_succ, List.set_cons_zero])) | (apply wpList_bld pl_b3; (· rfl); (· rfl); (· rfl); (conv => arg 5; simp only [Act.put, List.setIfInBounds_toArray, List.set_cons_succ, List.set_cons_zero])) | (apply wpList_bld pl_b4; (· rfl); (· rfl); (· rfl); (conv => arg 5; simp only [Act.put, List.setIfInBounds_toArray, List.set_cons_succ, List.set_cons_zero])) | (apply wpList_bld pl_b5; (· rfl); (· rfl); (· rfl); (conv => arg 5; simp only [Act.put, List.setIfInBounds_toArray, List.set_cons_succ, List.set_cons_zero])) | (apply wpList_bld pl_b6; (· rfl); (· rfl); (· rfl); (conv => arg 5; simp only [Act.put, List.setIfInBounds_toArray, List.set_cons_succ, List.set_cons_zero])) | (apply wpList_bld pl_b7; (· rfl); (· rfl); (· rfl); (conv => arg 5; simp only [Act.put, List.setIfInBounds_toArray, List.set_cons_succ, List.set_cons_zero])) | (apply wpList_bld pl_b8; (· rfl); (· rfl); (· rfl); (conv => arg 5; simp only [Act.put, List.setIfInBounds_toArray, List.set_cons_succ, List.set_cons_zero])) | (apply wpList_bld pl_b9; (· rfl); (· rfl); (· rfl); (conv => arg 5; simp only [Act.put, List.setIfInBounds_toArray, List.set_cons_succ, List.set_cons_zero])) | (apply wpList_alN z76 0; (· rfl); (· rfl); (· rfl); (· assumption); intro b0 w' M'; (conv => arg 5; simp only [Act.put, List.setIfInBounds_toArray, List.set_cons_succ, List.set_cons_zero])) | (apply wpList_strowN s76; (· rfl); (· rfl); (· rfl); (· rfl); (· assumption); (· (repeat (first | exact Swap.head | apply Swap.tail))); (· (first | with_reducible assumption | omega | (simp only [nums_length, List.length_set, List.length_replicate]; first | with_reducible assumption | omega) | rfl | (simp [*]; done) | (simp [*]; omega))); (· (first | with_reducible assumption | omega | (simp only [nums_length, List.length_set, List.length_replicate]; first | with_reducible assumption | omega) | rfl | (simp [*]; done) | (simp [*]; omega))); intro w' M'; (conv => arg 5; simp only [Act.put, List.setIfInBounds_toArray, List.set_cons_succ, List.set_cons_zero])))
  ((try simp only [Exit.inBlock, Exit.then]); apply ret_rowN Try.underlying76 s76; (· rfl); (· rfl); (· rfl); (· rfl); (· assumption); (· (repeat (first | exact List.mem_cons_self | refine List.mem_cons_of_mem _ ?_))); (· (first | with_reducible assumption | omega | (simp only [nums_length, List.length_set, List.length_replicate]; first | with_reducible assumption | omega) | rfl | (simp [*]; done) | (simp [*]; omega))); skip)
  exact ⟨rfl, M'.below⟩
end Go.Proofs.Ytcjfpcajjhccaaa
