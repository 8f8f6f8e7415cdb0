/- Walks of the stream layer, second part: the turn of a word, the quarter round. -/
import Derived.Test.YtcjfpcajjhccaaaS1
set_option linter.unusedVariables false
set_option linter.unusedSimpArgs false
namespace Go.Proofs.Ytcjfpcajjhccaaa
open Go.RowKit
def rl (m d : Int) (x : Int) : Int := bits .or .u32 (x * m % 4294967296) (x / d)
theorem rotl16 (x : Int) (w : World) : Calls Try.prog 66 #[.int .u32 x, .int .i64 16] w fun e w' => e = .returned (.int .u32 (rl 65536 65536 x)) ∧ w' = w := by
  have hb : bits .and .u64 16 31 = 16 := by decide
  go_enter Try.func66, Try.ntmps66
  go_wp2
  go_ret
  exact ⟨rfl, rfl⟩
theorem rotl12 (x : Int) (w : World) : Calls Try.prog 66 #[.int .u32 x, .int .i64 12] w fun e w' => e = .returned (.int .u32 (rl 4096 1048576 x)) ∧ w' = w := by
  have hb : bits .and .u64 12 31 = 12 := by decide
  go_enter Try.func66, Try.ntmps66
  go_wp2
  go_ret
  exact ⟨rfl, rfl⟩
theorem rotl8 (x : Int) (w : World) : Calls Try.prog 66 #[.int .u32 x, .int .i64 8] w fun e w' => e = .returned (.int .u32 (rl 256 16777216 x)) ∧ w' = w := by
  have hb : bits .and .u64 8 31 = 8 := by decide
  go_enter Try.func66, Try.ntmps66
  go_wp2
  go_ret
  exact ⟨rfl, rfl⟩
theorem rotl7 (x : Int) (w : World) : Calls Try.prog 66 #[.int .u32 x, .int .i64 7] w fun e w' => e = .returned (.int .u32 (rl 128 33554432 x)) ∧ w' = w := by
  have hb : bits .and .u64 7 31 = 7 := by decide
  go_enter Try.func66, Try.ntmps66
  go_wp2
  go_ret
  exact ⟨rfl, rfl⟩
/-- One step of a quarter round: xs[i] += xs[j]. -/
def qadd (xs : List Int) (i j : Nat) : List Int := xs.set i (IntKind.u32.wrap (rd xs i + rd xs j))
/-- .. xs[i] = (xs[i] ^ xs[j]) turned. -/
def qrot (m d : Int) (xs : List Int) (i j : Nat) : List Int := xs.set i (rl m d (bits .xor .u32 (rd xs i) (rd xs j)))
/-- The quarter round as the program does it. -/
def qround (xs : List Int) (a b c d : Nat) : List Int :=
  let x1 := qadd xs a b
  let x2 := qrot 65536 65536 x1 d a
  let x3 := qadd x2 c d
  let x4 := qrot 4096 1048576 x3 b c
  let x5 := qadd x4 a b
  let x6 := qrot 256 16777216 x5 d a
  let x7 := qadd x6 c d
  qrot 128 33554432 x7 b c
theorem qadd_length (xs : List Int) (i j : Nat) : (qadd xs i j).length = xs.length := by simp [qadd]
theorem qrot_length (m d : Int) (xs : List Int) (i j : Nat) : (qrot m d xs i j).length = xs.length := by simp [qrot]
theorem qround_length (xs : List Int) (a b c d : Nat) : (qround xs a b c d).length = xs.length := by simp [qround, qadd_length, qrot_length]

/-- What a walk may read of a row of 16 words. -/
theorem cells16 {w0 w : World} {E : List Nat} {L : List Item} (M : Mem w0 E w L) {g : Nat} {t : TypeId} {xs : List Int} (hin : .blk g (rowO .u32 t xs) ∈ L) (hl : xs.length = 16) :
    (∀ j : Nat, j < 16 → w.cell? ⟨g, j, none⟩ = some (.int .u32 (rd xs j))) ∧ (∀ j : Nat, w.frozen? ⟨g, j, none⟩ = false) :=
  ⟨fun j hj => M.cellN hin (by omega), fun j => M.free (cs := nums .u32 xs) hin j⟩

set_option maxHeartbeats 4000000 in
set_option maxRecDepth 100000 in
theorem quarter55 (g : Nat) (t : TypeId) (xs : List Int) (a b c d : Nat) (w : World) (ha : a < 16) (hb : b < 16) (hc : c < 16) (hd : d < 16) (hl : xs.length = 16) (hg : w.heap[g]? = some (rowO .u32 t xs)) :
    Calls Try.prog 55 #[.pointer (some ⟨g, 0, none⟩), .int .i64 a, .int .i64 b, .int .i64 c, .int .i64 d] w fun e w' => e = .returned (.tuple #[]) ∧ w.grownBy w' (some g) ∧ w'.heap[g]? = some (rowO .u32 t (qround xs a b c d)) := by
  have M0 := Mem.start1 hg
  have ha0 : (a:Int) < 16 := by omega
  have hb0 : (b:Int) < 16 := by omega
  have hc0 : (c:Int) < 16 := by omega
  have hd0 : (d:Int) < 16 := by omega
  go_enter Try.func55, Try.ntmps55
  go_wp2
  refine wp_region_tailM 13 (by kernel_rfl) (by kernel_rfl) M0 (fun w1 M1 => ?_)
  obtain ⟨hcell, hfr⟩ := cells16 M1 List.mem_cons_self hl
  simp only [List.take_succ_cons, List.take_zero, List.drop_succ_cons, List.drop_zero]
  repeat still_step
  refine wpStill_nil ?_
  clear hcell hfr
  go_wp2_with (first | (apply wpList_ldN Try.underlying24; (· rfl); (· rfl); (· rfl); (· rfl); (· assumption); (· (repeat (first | exact List.mem_cons_self | refine List.mem_cons_of_mem _ ?_))); (· (first | with_reducible assumption | omega | (simp only [nums_length, List.length_set, List.length_replicate]; first | with_reducible assumption | omega) | rfl | (simp [*]; done) | (simp [*]; omega))); (conv => arg 5; simp only [Act.put, List.setIfInBounds_toArray, List.set_cons_succ, List.set_cons_zero])) | (apply wpList_stN s24; (· rfl); (· rfl); (· rfl); (· rfl); (· assumption); (· (repeat (first | exact Swap.head | apply Swap.tail))); (· (first | with_reducible assumption | omega | (simp only [nums_length, List.length_set, List.length_replicate]; first | with_reducible assumption | omega) | rfl | (simp [*]; done) | (simp [*]; omega))); intro w' M'; (conv => arg 5; simp only [Act.put, List.setIfInBounds_toArray, List.set_cons_succ, List.set_cons_zero])))
  obtain ⟨x1, hx1⟩ : ∃ x, x = qadd xs a b := ⟨_, rfl⟩
  have l1 : x1.length = 16 := by rw [hx1]; simp only [qadd_length, qrot_length]; assumption
  replace M' : Mem w [g] w' [.blk g (rowO .u32 t x1)] := by rw [hx1]; exact M'
  have HX1 := hid hx1
  clear hx1
  refine wp_region_tailM 16 (by kernel_rfl) (by kernel_rfl) M' (fun w1 M1 => ?_)
  obtain ⟨hcell, hfr⟩ := cells16 M1 List.mem_cons_self l1
  simp only [List.take_succ_cons, List.take_zero, List.drop_succ_cons, List.drop_zero]
  iterate 13 still_step
  still_call (rotl16 _ _)
  repeat still_step
  refine wpStill_nil ?_
  clear hcell hfr
  go_wp2_with (first | (apply wpList_ldN Try.underlying24; (· rfl); (· rfl); (· rfl); (· rfl); (· assumption); (· (repeat (first | exact List.mem_cons_self | refine List.mem_cons_of_mem _ ?_))); (· (first | with_reducible assumption | omega | (simp only [nums_length, List.length_set, List.length_replicate]; first | with_reducible assumption | omega) | rfl | (simp [*]; done) | (simp [*]; omega))); (conv => arg 5; simp only [Act.put, List.setIfInBounds_toArray, List.set_cons_succ, List.set_cons_zero])) | (apply wpList_stN s24; (· rfl); (· rfl); (· rfl); (· rfl); (· assumption); (· (repeat (first | exact Swap.head | apply Swap.tail))); (· (first | with_reducible assumption | omega | (simp only [nums_length, List.length_set, List.length_replicate]; first | with_reducible assumption | omega) | rfl | (simp [*]; done) | (simp [*]; omega))); intro w' M'; (conv => arg 5; simp only [Act.put, List.setIfInBounds_toArray, List.set_cons_succ, List.set_cons_zero])))
  obtain ⟨x2, hx2⟩ : ∃ x, x = qrot 65536 65536 x1 d a := ⟨_, rfl⟩
  have l2 : x2.length = 16 := by rw [hx2]; simp only [qadd_length, qrot_length]; assumption
  replace M' : Mem w [g] w' [.blk g (rowO .u32 t x2)] := by rw [hx2]; exact M'
  have HX2 := hid hx2
  clear hx2
  refine wp_region_tailM 13 (by kernel_rfl) (by kernel_rfl) M' (fun w1 M1 => ?_)
  obtain ⟨hcell, hfr⟩ := cells16 M1 List.mem_cons_self l2
  simp only [List.take_succ_cons, List.take_zero, List.drop_succ_cons, List.drop_zero]
  repeat still_step
  refine wpStill_nil ?_
  clear hcell hfr
  go_wp2_with (first | (apply wpList_ldN Try.underlying24; (· rfl); (· rfl); (· rfl); (· rfl); (· assumption); (· (repeat (first | exact List.mem_cons_self | refine List.mem_cons_of_mem _ ?_))); (· (first | with_reducible assumption | omega | (simp only [nums_length, List.length_set, List.length_replicate]; first | with_reducible assumption | omega) | rfl | (simp [*]; done) | (simp [*]; omega))); (conv => arg 5; simp only [Act.put, List.setIfInBounds_toArray, List.set_cons_succ, List.set_cons_zero])) | (apply wpList_stN s24; (· rfl); (· rfl); (· rfl); (· rfl); (· assumption); (· (repeat (first | exact Swap.head | apply Swap.tail))); (· (first | with_reducible assumption | omega | (simp only [nums_length, List.length_set, List.length_replicate]; first | with_reducible assumption | omega) | rfl | (simp [*]; done) | (simp [*]; omega))); intro w' M'; (conv => arg 5; simp only [Act.put, List.setIfInBounds_toArray, List.set_cons_succ, List.set_cons_zero])))
  obtain ⟨x3, hx3⟩ : ∃ x, x = qadd x2 c d := ⟨_, rfl⟩
  have l3 : x3.length = 16 := by rw [hx3]; simp only [qadd_length, qrot_length]; assumption
  replace M' : Mem w [g] w' [.blk g (rowO .u32 t x3)] := by rw [hx3]; exact M'
  have HX3 := hid hx3
  clear hx3
  refine wp_region_tailM 16 (by kernel_rfl) (by kernel_rfl) M' (fun w1 M1 => ?_)
  obtain ⟨hcell, hfr⟩ := cells16 M1 List.mem_cons_self l3
  simp only [List.take_succ_cons, List.take_zero, List.drop_succ_cons, List.drop_zero]
  iterate 13 still_step
  still_call (rotl12 _ _)
  repeat still_step
  refine wpStill_nil ?_
  clear hcell hfr
  go_wp2_with (first | (apply wpList_ldN Try.underlying24; (· rfl); (· rfl); (· rfl); (· rfl); (· assumption); (· (repeat (first | exact List.mem_cons_self | refine List.mem_cons_of_mem _ ?_))); (· (first | with_reducible assumption | omega | (simp only [nums_length, List.length_set, List.length_replicate]; first | with_reducible assumption | omega) | rfl | (simp [*]; done) | (simp [*]; omega))); (conv => arg 5; simp only [Act.put, List.setIfInBounds_toArray, List.set_cons_succ, List.set_cons_zero])) | (apply wpList_stN s24; (· rfl); (· rfl); (· rfl); (· rfl); (· assumption); (· (repeat (first | exact Swap.head | apply Swap.tail))); (· (first | with_reducible assumption | omega | (simp only [nums_length, List.length_set, List.length_replicate]; first | with_reducible assumption | omega) | rfl | (simp [*]; done) | (simp [*]; omega))); intro w' M'; (conv => arg 5; simp only [Act.put, List.setIfInBounds_toArray, List.set_cons_succ, List.set_cons_zero])))
  obtain ⟨x4, hx4⟩ : ∃ x, x = qrot 4096 1048576 x3 b c := ⟨_, rfl⟩
  have l4 : x4.length = 16 := by rw [hx4]; simp only [qadd_length, qrot_length]; assumption
  replace M' : Mem w [g] w' [.blk g (rowO .u32 t x4)] := by rw [hx4]; exact M'
  have HX4 := hid hx4
  clear hx4
  refine wp_region_tailM 13 (by kernel_rfl) (by kernel_rfl) M' (fun w1 M1 => ?_)
  obtain ⟨hcell, hfr⟩ := cells16 M1 List.mem_cons_self l4
  simp only [List.take_succ_cons, List.take_zero, List.drop_succ_cons, List.drop_zero]
  repeat still_step
  refine wpStill_nil ?_
  clear hcell hfr
  go_wp2_with (first | (apply wpList_ldN Try.underlying24; (· rfl); (· rfl); (· rfl); (· rfl); (· assumption); (· (repeat (first | exact List.mem_cons_self | refine List.mem_cons_of_mem _ ?_))); (· (first | with_reducible assumption | omega | (simp only [nums_length, List.length_set, List.length_replicate]; first | with_reducible assumption | omega) | rfl | (simp [*]; done) | (simp [*]; omega))); (conv => arg 5; simp only [Act.put, List.setIfInBounds_toArray, List.set_cons_succ, List.set_cons_zero])) | (apply wpList_stN s24; (· rfl); (· rfl); (· rfl); (· rfl); (· assumption); (· (repeat (first | exact Swap.head | apply Swap.tail))); (· (first | with_reducible assumption | omega | (simp only [nums_length, List.length_set, List.length_replicate]; first | with_reducible assumption | omega) | rfl | (simp [*]; done) | (simp [*]; omega))); intro w' M'; (conv => arg 5; simp only [Act.put, List.setIfInBounds_toArray, List.set_cons_succ, List.set_cons_zero])))
  obtain ⟨x5, hx5⟩ : ∃ x, x = qadd x4 a b := ⟨_, rfl⟩
  have l5 : x5.length = 16 := by rw [hx5]; simp only [qadd_length, qrot_length]; assumption
  replace M' : Mem w [g] w' [.blk g (rowO .u32 t x5)] := by rw [hx5]; exact M'
  have HX5 := hid hx5
  clear hx5
  refine wp_region_tailM 16 (by kernel_rfl) (by kernel_rfl) M' (fun w1 M1 => ?_)
  obtain ⟨hcell, hfr⟩ := cells16 M1 List.mem_cons_self l5
  simp only [List.take_succ_cons, List.take_zero, List.drop_succ_cons, List.drop_zero]
  iterate 13 still_step
  still_call (rotl8 _ _)
  repeat still_step
  refine wpStill_nil ?_
  clear hcell hfr
  go_wp2_with (first | (apply wpList_ldN Try.underlying24; (· rfl); (· rfl); (· rfl); (· rfl); (· assumption); (· (repeat (first | exact List.mem_cons_self | refine List.mem_cons_of_mem _ ?_))); (· (first | with_reducible assumption | omega | (simp only [nums_length, List.length_set, List.length_replicate]; first | with_reducible assumption | omega) | rfl | (simp [*]; done) | (simp [*]; omega))); (conv => arg 5; simp only [Act.put, List.setIfInBounds_toArray, List.set_cons_succ, List.set_cons_zero])) | (apply wpList_stN s24; (· rfl); (· rfl); (· rfl); (· rfl); (· assumption); (· (repeat (first | exact Swap.head | apply Swap.tail))); (· (first | with_reducible assumption | omega | (simp only [nums_length, List.length_set, List.length_replicate]; first | with_reducible assumption | omega) | rfl | (simp [*]; done) | (simp [*]; omega))); intro w' M'; (conv => arg 5; simp only [Act.put, List.setIfInBounds_toArray, List.set_cons_succ, List.set_cons_zero])))
  obtain ⟨x6, hx6⟩ : ∃ x, x = qrot 256 16777216 x5 d a := ⟨_, rfl⟩
  have l6 : x6.length = 16 := by rw [hx6]; simp only [qadd_length, qrot_length]; assumption
  replace M' : Mem w [g] w' [.blk g (rowO .u32 t x6)] := by rw [hx6]; exact M'
  have HX6 := hid hx6
  clear hx6
  refine wp_region_tailM 13 (by kernel_rfl) (by kernel_rfl) M' (fun w1 M1 => ?_)
  obtain ⟨hcell, hfr⟩ := cells16 M1 List.mem_cons_self l6
  simp only [List.take_succ_cons, List.take_zero, List.drop_succ_cons, List.drop_zero]
  repeat still_step
  refine wpStill_nil ?_
  clear hcell hfr
  go_wp2_with (first | (apply wpList_ldN Try.underlying24; (· rfl); (· rfl); (· rfl); (· rfl); (· assumption); (· (repeat (first | exact List.mem_cons_self | refine List.mem_cons_of_mem _ ?_))); (· (first | with_reducible assumption | omega | (simp only [nums_length, List.length_set, List.length_replicate]; first | with_reducible assumption | omega) | rfl | (simp [*]; done) | (simp [*]; omega))); (conv => arg 5; simp only [Act.put, List.setIfInBounds_toArray, List.set_cons_succ, List.set_cons_zero])) | (apply wpList_stN s24; (· rfl); (· rfl); (· rfl); (· rfl); (· assumption); (· (repeat (first | exact Swap.head | apply Swap.tail))); (· (first | with_reducible assumption | omega | (simp only [nums_length, List.length_set, List.length_replicate]; first | with_reducible assumption | omega) | rfl | (simp [*]; done) | (simp [*]; omega))); intro w' M'; (conv => arg 5; simp only [Act.put, List.setIfInBounds_toArray, List.set_cons_succ, List.set_cons_zero])))
  obtain ⟨x7, hx7⟩ : ∃ x, x = qadd x6 c d := ⟨_, rfl⟩
  have l7 : x7.length = 16 := by rw [hx7]; simp only [qadd_length, qrot_length]; assumption
  replace M' : Mem w [g] w' [.blk g (rowO .u32 t x7)] := by rw [hx7]; exact M'
  have HX7 := hid hx7
  clear hx7
  refine wp_region_tailM 16 (by kernel_rfl) (by kernel_rfl) M' (fun w1 M1 => ?_)
  obtain ⟨hcell, hfr⟩ := cells16 M1 List.mem_cons_self l7
  simp only [List.take_succ_cons, List.take_zero, List.drop_succ_cons, List.drop_zero]
  iterate 13 still_step
  still_call (rotl7 _ _)
  repeat still_step
  refine wpStill_nil ?_
  clear hcell hfr
  go_wp2_with (first | (apply wpList_ldN Try.underlying24; (· rfl); (· rfl); (· rfl); (· rfl); (· assumption); (· (repeat (first | exact List.mem_cons_self | refine List.mem_cons_of_mem _ ?_))); (· (first | with_reducible assumption | omega | (simp only [nums_length, List.length_set, List.length_replicate]; first | with_reducible assumption | omega) | rfl | (simp [*]; done) | (simp [*]; omega))); (conv => arg 5; simp only [Act.put, List.setIfInBounds_toArray, List.set_cons_succ, List.set_cons_zero])) | (apply wpList_stN s24; (· rfl); (· rfl); (· rfl); (· rfl); (· assumption); (· (repeat (first | exact Swap.head | apply Swap.tail))); (· (first | with_reducible assumption | omega | (simp only [nums_length, List.length_set, List.length_replicate]; first | with_reducible assumption | omega) | rfl | (simp [*]; done) | (simp [*]; omega))); intro w' M'; (conv => arg 5; simp only [Act.put, List.setIfInBounds_toArray, List.set_cons_succ, List.set_cons_zero])))
  obtain ⟨x8, hx8⟩ : ∃ x, x = qrot 128 33554432 x7 b c := ⟨_, rfl⟩
  have l8 : x8.length = 16 := by rw [hx8]; simp only [qadd_length, qrot_length]; assumption
  replace M' : Mem w [g] w' [.blk g (rowO .u32 t x8)] := by rw [hx8]; exact M'
  have HX8 := hid hx8
  clear hx8
  go_end0
  refine ⟨rfl, M'.grown1, ?_⟩
  have h := M'.holds _ List.mem_cons_self
  have e : x8 = qround xs a b c d := by rw [HX8.out, HX7.out, HX6.out, HX5.out, HX4.out, HX3.out, HX2.out, HX1.out]; rfl
  rw [← e]
  exact h
end Go.Proofs.Ytcjfpcajjhccaaa
