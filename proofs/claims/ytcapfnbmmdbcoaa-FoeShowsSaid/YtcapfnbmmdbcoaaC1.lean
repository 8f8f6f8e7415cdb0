/- Walks of the term layer: numbers and names. -/
import Derived.Test.YtcapfnbmmdbcoaaCK
import Derived.Test.YtcapfnbmmdbcoaaFacts
set_option linter.unusedVariables false
set_option linter.unusedSimpArgs false
namespace Go.Proofs.Ytcapfnbmmdbcoaa
open Go.RowKit
/-! ### Names -/
def fourL (n : Int) : List Int := [n / 16777216 % 256, n / 65536 % 256, n / 256 % 256, n % 256]
def nameL (n : Int) : List Int := [116, 101, 114, 109] ++ fourL n ++ List.replicate 24 0
def numK (k : List Int) : Int := rd k 4 * 16777216 + rd k 5 * 65536 + rd k 6 * 256 + rd k 7
theorem nameL_length (n : Int) : (nameL n).length = 32 := by simp [nameL, fourL]
def BlkR (t : TypeId) (xs : List Int) (w : World) (e : Ending) (w' : World) : Prop := ∃ b, e = .returned (.slice (some ⟨b, 0, none⟩) xs.length xs.length) ∧ Mem w [] w' [.blk b (rowO .u8 t xs)]
set_option maxRecDepth 100000 in
theorem four79 (n : Int) (w : World) (h0 : 0 ≤ n) (hn : n ≤ 1000000000000) : Calls Try.prog 79 #[.int .i64 n] w (BlkR 5 (fourL n) w) := by
  have M0 := Mem.start w
  go_enter Try.func79, Try.ntmps79
  go_wp2_with fail
  go_ret
  exact ⟨_, rfl, M0.alloc _⟩
def KeyR (k : List Int) (w : World) (e : Ending) (w' : World) : Prop := e = .returned (.agg (nums .u8 k).toArray) ∧ Mem w [] w' []
theorem bytes_term : bytesOf ⟨#[116, 101, 114, 109]⟩ = [116, 101, 114, 109] := by decide
set_option maxRecDepth 100000 in
set_option maxHeartbeats 1000000 in
theorem name66 (n : Int) (w : World) (h0 : 0 ≤ n) (hn : n ≤ 1000000000000) : Calls Try.prog 66 #[.int .i64 n] w (KeyR (nameL n) w) := by
  have M0 := Mem.start w
  go_enter Try.func66, Try.ntmps66
  go_wp2_with (first | (apply wpList_alN z26 2; (· rfl); (· rfl); (· rfl); (· assumption); intro b2 w' M'; (conv => arg 5; simp only [Act.put, List.setIfInBounds_toArray, List.set_cons_succ, List.set_cons_zero])) | (apply wpList_alN z26 3; (· rfl); (· rfl); (· rfl); (· assumption); intro b3 w' M'; (conv => arg 5; simp only [Act.put, List.setIfInBounds_toArray, List.set_cons_succ, List.set_cons_zero])) | (apply wpList_slW Try.underlying26 s5 (by decide); (· rfl); (· rfl); (· rfl); (conv => arg 5; simp only [Act.put, List.setIfInBounds_toArray, List.set_cons_succ, List.set_cons_zero, IntWalk.toNatUp, Nat.add_sub_cancel_left, Nat.add_sub_cancel, Nat.zero_add, Nat.add_zero, Nat.sub_zero])) | (apply wpList_slE Try.underlying26 s5; (· rfl); (· rfl); (· rfl); (· rfl); (· omega); (· omega); (conv => arg 5; simp only [Act.put, List.setIfInBounds_toArray, List.set_cons_succ, List.set_cons_zero, IntWalk.toNatUp, Nat.add_sub_cancel_left, Nat.add_sub_cancel, Nat.zero_add, Nat.add_zero, Nat.sub_zero])) | (apply wpList_ldrowN Try.underlying26 s26; (· rfl); (· rfl); (· rfl); (· rfl); (· assumption); (· (repeat (first | exact List.mem_cons_self | refine List.mem_cons_of_mem _ ?_))); (· (first | with_reducible assumption | omega | (simp only [nums_length, List.length_set, List.length_replicate]; first | with_reducible assumption | omega) | rfl | (simp [*]; done) | (simp [*]; omega))); (conv => arg 5; simp only [Act.put, List.setIfInBounds_toArray, List.set_cons_succ, List.set_cons_zero])) | (apply wpList_strowN s26; (· rfl); (· rfl); (· rfl); (· rfl); (· assumption); (· (repeat (first | exact Swap.head | apply Swap.tail))); (· (first | with_reducible assumption | omega | (simp only [nums_length, List.length_set, List.length_replicate]; first | with_reducible assumption | omega) | rfl | (simp [*]; done) | (simp [*]; omega))); (· (first | with_reducible assumption | omega | (simp only [nums_length, List.length_set, List.length_replicate]; first | with_reducible assumption | omega) | rfl | (simp [*]; done) | (simp [*]; omega))); intro w' M'; (conv => arg 5; simp only [Act.put, List.setIfInBounds_toArray, List.set_cons_succ, List.set_cons_zero])))
  refine wp_region_planP (.free 0 (.free 3 (.one 1 (.free 2 (.one 4 (.one 5 (.done))))))) (by kernel_rfl) (by kernel_rfl) (fun _ _ _ _ _ h => h) M' (fun w1 M1 => ?_)
  clear M'
  refine wpT_free rfl rfl (.inl ⟨rfl, fun w _ => run_slW Try.underlying26 (by kernel_rfl) (by decide) rfl rfl w⟩) trivial ?_; (conv => arg 6; simp only [Act.put, List.setIfInBounds_toArray, List.set_cons_succ, List.set_cons_zero])
  (refine wpT_free rfl rfl (.inl ⟨rfl, fun w _ => by go_simp; rfl⟩) trivial ?_; (conv => arg 6; simp only [Act.put, List.setIfInBounds_toArray, List.set_cons_succ, List.set_cons_zero]))
  have M2 : Mem w [] w1 [.blk b3 (cellsO 26 ([] ++ nums .u8 (List.replicate 4 0) ++ nums .u8 (List.replicate 28 0))), .blk b2 (rowO .u8 26 (List.replicate 32 0))] := M1
  refine wpT_op rfl ?_
  refine wpList_cpSm 5 rfl 4 [] (nums .u8 (List.replicate 4 0)) (nums .u8 (List.replicate 28 0)) Try.underlying37 (by kernel_rfl) rfl rfl rfl rfl M2 (by decide) Swap.head rfl rfl (fun w2 M3 => ?_)
  rw [bytes_term] at M3
  clear M1 M2
  have M4 : Mem w [] w2 [.blk b3 (cellsO 26 (nums .u8 [116, 101, 114, 109] ++ nums .u8 (List.replicate 4 0) ++ nums .u8 (List.replicate 24 0))), .blk b2 (rowO .u8 26 (List.replicate 32 0))] := M3
  clear M3
  (conv => arg 5; simp only [Act.put, List.setIfInBounds_toArray, List.set_cons_succ, List.set_cons_zero])
  go_wp2_with fail
  refine PlanTQ.mk trivial ?_
  refine wpT_free (v := .slice (some ⟨b3, 4, none⟩) 28 28) rfl rfl (.inl ⟨rfl, fun w _ => run_slE (l := 4) Try.underlying26 (by kernel_rfl) rfl rfl rfl (by decide) (by decide) w⟩) trivial ?_; (conv => arg 6; simp only [Act.put, List.setIfInBounds_toArray, List.set_cons_succ, List.set_cons_zero])
  refine wpT_op rfl ?_
  go_wp2_with (go_at_call 79; refine (four79 n _ h0 hn).mono ?_; rintro e w3 ⟨b8, rfl, M5⟩)
  have M6 := M4.join M5
  clear M4 M5
  refine PlanTQ.mk trivial (wpT_op rfl ?_)
  refine wpList_cpm 9 rfl (nums .u8 [116, 101, 114, 109]) (nums .u8 (List.replicate 4 0)) (nums .u8 (fourL n)) (nums .u8 (List.replicate 24 0)) [] [] Try.underlying37 (by kernel_rfl) rfl rfl rfl rfl M6 (Swap.tail Swap.head) (by rw [List.nil_append, List.append_nil]; exact List.mem_cons_self) rfl rfl rfl rfl (nums_one .u8 _) (fun w4 M7 => ?_)
  clear M6
  have M8 : Mem w [] w4 [.blk b3 (rowO .u8 26 (nameL n)), .blk b2 (rowO .u8 26 (List.replicate 32 0))] := by
    have := M7.sub (List.sublist_cons_self _ _)
    rw [← nums_append, ← nums_append] at this
    exact this
  clear M7
  (conv => arg 5; simp only [Act.put, List.setIfInBounds_toArray, List.set_cons_succ, List.set_cons_zero])
  go_wp2_with fail
  refine PlanTQ.mk trivial (wpT_done ?_)
  have hnl := nameL_length n
  go_wp2_with (first | (apply wpList_alN z26 2; (· rfl); (· rfl); (· rfl); (· assumption); intro b2 w' M'; (conv => arg 5; simp only [Act.put, List.setIfInBounds_toArray, List.set_cons_succ, List.set_cons_zero])) | (apply wpList_alN z26 3; (· rfl); (· rfl); (· rfl); (· assumption); intro b3 w' M'; (conv => arg 5; simp only [Act.put, List.setIfInBounds_toArray, List.set_cons_succ, List.set_cons_zero])) | (apply wpList_slW Try.underlying26 s5 (by decide); (· rfl); (· rfl); (· rfl); (conv => arg 5; simp only [Act.put, List.setIfInBounds_toArray, List.set_cons_succ, List.set_cons_zero, IntWalk.toNatUp, Nat.add_sub_cancel_left, Nat.add_sub_cancel, Nat.zero_add, Nat.add_zero, Nat.sub_zero])) | (apply wpList_slE Try.underlying26 s5; (· rfl); (· rfl); (· rfl); (· rfl); (· omega); (· omega); (conv => arg 5; simp only [Act.put, List.setIfInBounds_toArray, List.set_cons_succ, List.set_cons_zero, IntWalk.toNatUp, Nat.add_sub_cancel_left, Nat.add_sub_cancel, Nat.zero_add, Nat.add_zero, Nat.sub_zero])) | (apply wpList_ldrowN Try.underlying26 s26; (· rfl); (· rfl); (· rfl); (· rfl); (· assumption); (· (repeat (first | exact List.mem_cons_self | refine List.mem_cons_of_mem _ ?_))); (· (first | with_reducible assumption | omega | (simp only [nums_length, List.length_set, List.length_replicate]; first | with_reducible assumption | omega) | rfl | (simp [*]; done) | (simp [*]; omega))); (conv => arg 5; simp only [Act.put, List.setIfInBounds_toArray, List.set_cons_succ, List.set_cons_zero])) | (apply wpList_strowN s26; (· rfl); (· rfl); (· rfl); (· rfl); (· assumption); (· (repeat (first | exact Swap.head | apply Swap.tail))); (· (first | with_reducible assumption | omega | (simp only [nums_length, List.length_set, List.length_replicate]; first | with_reducible assumption | omega) | rfl | (simp [*]; done) | (simp [*]; omega))); (· (first | with_reducible assumption | omega | (simp only [nums_length, List.length_set, List.length_replicate]; first | with_reducible assumption | omega) | rfl | (simp [*]; done) | (simp [*]; omega))); intro w' M'; (conv => arg 5; simp only [Act.put, List.setIfInBounds_toArray, List.set_cons_succ, List.set_cons_zero])))
  ((try simp only [Exit.inBlock, Exit.then]); apply ret_rowN Try.underlying26 s26; (· rfl); (· rfl); (· rfl); (· rfl); (· assumption); (· (repeat (first | exact List.mem_cons_self | refine List.mem_cons_of_mem _ ?_))); (· (first | with_reducible assumption | omega | (simp only [nums_length, List.length_set, List.length_replicate]; first | with_reducible assumption | omega) | rfl | (simp [*]; done) | (simp [*]; omega))); skip)
  exact ⟨rfl, M'.sub (List.nil_sublist _)⟩
def IntR (n : Int) (w : World) (e : Ending) (w' : World) : Prop := e = .returned (.int .i64 n) ∧ Mem w [] w' []
def BoolR (b : Bool) (w : World) (e : Ending) (w' : World) : Prop := e = .returned (.bool b) ∧ Mem w [] w' []
theorem or_num (a b c d : Int) (ha : isByte a) (hb : isByte b) (hc : isByte c) (hd : isByte d) :
    bits .or .i64 (bits .or .i64 (bits .or .i64 (a * 16777216) (b * 65536)) (c * 256)) d = a * 16777216 + b * 65536 + c * 256 + d := by
  obtain ⟨a0, a1⟩ := ha
  obtain ⟨b0, b1⟩ := hb
  obtain ⟨c0, c1⟩ := hc
  obtain ⟨d0, d1⟩ := hd
  have wu : ∀ n : Int, 0 ≤ n → n < 2 ^ 32 → IntKind.i64.wrap n = n := fun n h0 h1 => IntWalk.i64_in _ (by omega)
  rw [bits_join .i64 32 (by decide) wu 24 (a * 16777216) (b * 65536) (by omega) (by omega) (by omega) (by omega) (by omega) (by omega)]
  rw [bits_join .i64 32 (by decide) wu 16 _ (c * 256) (by omega) (by omega) (by omega) (by omega) (by omega) (by omega)]
  rw [bits_join .i64 32 (by decide) wu 8 _ d (by omega) (by omega) (by omega) (by omega) (by omega) (by omega)]
theorem or_numW (a b c d : Int) (ha : isByte a) (hb : isByte b) (hc : isByte c) (hd : isByte d) :
    bits .or .i64 (bits .or .i64 (bits .or .i64 (IntKind.i64.wrap (IntKind.i64.wrap a * 16777216)) (IntKind.i64.wrap (IntKind.i64.wrap b * 65536))) (IntKind.i64.wrap (IntKind.i64.wrap c * 256))) (IntKind.i64.wrap d) = a * 16777216 + b * 65536 + c * 256 + d := by
  have ⟨a0, a1⟩ := ha
  have ⟨b0, b1⟩ := hb
  have ⟨c0, c1⟩ := hc
  have ⟨d0, d1⟩ := hd
  rw [IntWalk.i64_in a (by omega), IntWalk.i64_in b (by omega), IntWalk.i64_in c (by omega), IntWalk.i64_in d (by omega), IntWalk.i64_in (a * 16777216) (by omega), IntWalk.i64_in (b * 65536) (by omega), IntWalk.i64_in (c * 256) (by omega)]
  exact or_num a b c d ha hb hc hd
theorem numK_range {k : List Int} (hb : ∀ x ∈ k, isByte x) : 0 ≤ numK k ∧ numK k < 4294967296 := by
  have h : ∀ i, 0 ≤ rd k i ∧ rd k i < 256 := fun i => by
    by_cases hi : i < k.length
    · have := hb _ (show rd k i ∈ k from by rw [rd, List.getD_eq_getElem?_getD, List.getElem?_eq_getElem hi]; exact List.getElem_mem hi)
      exact this
    · rw [rd_out k i (by omega)]; omega
  have h4 := h 4
  have h5 := h 5
  have h6 := h 6
  have h7 := h 7
  unfold numK
  omega
theorem rd_byte {k : List Int} (hb : ∀ x ∈ k, isByte x) (i : Nat) : isByte (rd k i) := by
  by_cases hi : i < k.length
  · exact hb _ (by rw [rd, List.getD_eq_getElem?_getD, List.getElem?_eq_getElem hi]; exact List.getElem_mem hi)
  · rw [rd_out k i (by omega)]; exact ⟨by omega, by omega⟩
set_option maxRecDepth 100000 in
set_option maxHeartbeats 1000000 in
theorem shaped68 (k : List Int) (w : World) (hk : k.length = 32) (hb : ∀ x ∈ k, isByte x) : Calls Try.prog 68 #[.agg (nums .u8 k).toArray] w (BoolR (decide (nameL (numK k) = k)) w) := by
  have M0 := Mem.start w
  obtain ⟨r4, q4⟩ := rd_byte hb 4
  obtain ⟨r5, q5⟩ := rd_byte hb 5
  obtain ⟨r6, q6⟩ := rd_byte hb 6
  obtain ⟨r7, q7⟩ := rd_byte hb 7
  have hnum := or_numW (rd k 4) (rd k 5) (rd k 6) (rd k 7) ⟨r4, q4⟩ ⟨r5, q5⟩ ⟨r6, q6⟩ ⟨r7, q7⟩
  rw [show rd k 4 * 16777216 + rd k 5 * 65536 + rd k 6 * 256 + rd k 7 = numK k from rfl] at hnum
  obtain ⟨n0, n1⟩ := numK_range hb
  have HN := hid hnum
  have HB := hid hb
  have HK := hid hk
  have HNL := hid (nameL_length (numK k))
  clear hnum hb hk
  go_enter Try.func68, Try.ntmps68
  go_wp2_with (first | (apply wpList_bxN 1; (· rfl); (· rfl); (· rfl); (· rfl); (· assumption); intro b1 w' M'; (conv => arg 5; simp only [Act.put, List.setIfInBounds_toArray, List.set_cons_succ, List.set_cons_zero])) | (apply wpList_ldN Try.underlying5; (· rfl); (· rfl); (· rfl); (· rfl); (· assumption); (· (repeat (first | exact List.mem_cons_self | refine List.mem_cons_of_mem _ ?_))); (· (first | with_reducible assumption | omega | (simp only [nums_length, List.length_set, List.length_replicate]; first | with_reducible assumption | omega) | rfl | (simp [*]; done) | (simp [*]; omega))); (conv => arg 5; simp only [Act.put, List.setIfInBounds_toArray, List.set_cons_succ, List.set_cons_zero])) | (apply wpList_ldrowN Try.underlying26 s26; (· rfl); (· rfl); (· rfl); (· rfl); (· assumption); (· (repeat (first | exact List.mem_cons_self | refine List.mem_cons_of_mem _ ?_))); (· (first | with_reducible assumption | omega | (simp only [nums_length, List.length_set, List.length_replicate]; first | with_reducible assumption | omega) | rfl | (simp [*]; done) | (simp [*]; omega))); (conv => arg 5; simp only [Act.put, List.setIfInBounds_toArray, List.set_cons_succ, List.set_cons_zero])))
  refine wp_region_planT (.free 0 (.free 1 (.free 2 (.free 3 (.free 4 (.free 5 (.free 6 (.free 7 (.free 8 (.free 9 (.free 10 (.free 11 (.free 12 (.free 13 (.free 14 (.free 15 (.free 16 (.free 17 (.free 19 (.one 18 (.free 20 (.free 21 (.done))))))))))))))))))))))) (by kernel_rfl) (by kernel_rfl) (fun _ _ _ _ _ h => h) M' (fun w1 M1 => ?_)
  clear M'
  (refine wpT_free rfl rfl (.inl ⟨rfl, fun w _ => by go_simp; rfl⟩) (by assumption) ?_; (conv => arg 6; simp only [Act.put, List.setIfInBounds_toArray, List.set_cons_succ, List.set_cons_zero]))
  refine wpT_free rfl rfl (.inl ⟨rfl, fun w hw => run_ld1 Try.underlying5 rfl rfl rfl (hw.cellN List.mem_cons_self (by rw [HK.out]; decide))⟩) (by assumption) ?_; (conv => arg 6; simp only [Act.put, List.setIfInBounds_toArray, List.set_cons_succ, List.set_cons_zero])
  (refine wpT_free rfl rfl (.inl ⟨rfl, fun w _ => by go_simp; rfl⟩) (by assumption) ?_; (conv => arg 6; simp only [Act.put, List.setIfInBounds_toArray, List.set_cons_succ, List.set_cons_zero]))
  (refine wpT_free rfl rfl (.inl ⟨rfl, fun w _ => by go_simp; rfl⟩) (by assumption) ?_; (conv => arg 6; simp only [Act.put, List.setIfInBounds_toArray, List.set_cons_succ, List.set_cons_zero]))
  (refine wpT_free rfl rfl (.inl ⟨rfl, fun w _ => by go_simp; rfl⟩) (by assumption) ?_; (conv => arg 6; simp only [Act.put, List.setIfInBounds_toArray, List.set_cons_succ, List.set_cons_zero]))
  refine wpT_free rfl rfl (.inl ⟨rfl, fun w hw => run_ld1 Try.underlying5 rfl rfl rfl (hw.cellN List.mem_cons_self (by rw [HK.out]; decide))⟩) (by assumption) ?_; (conv => arg 6; simp only [Act.put, List.setIfInBounds_toArray, List.set_cons_succ, List.set_cons_zero])
  (refine wpT_free rfl rfl (.inl ⟨rfl, fun w _ => by go_simp; rfl⟩) (by assumption) ?_; (conv => arg 6; simp only [Act.put, List.setIfInBounds_toArray, List.set_cons_succ, List.set_cons_zero]))
  (refine wpT_free rfl rfl (.inl ⟨rfl, fun w _ => by go_simp; rfl⟩) (by assumption) ?_; (conv => arg 6; simp only [Act.put, List.setIfInBounds_toArray, List.set_cons_succ, List.set_cons_zero]))
  (refine wpT_free rfl rfl (.inl ⟨rfl, fun w _ => by go_simp; rfl⟩) (by assumption) ?_; (conv => arg 6; simp only [Act.put, List.setIfInBounds_toArray, List.set_cons_succ, List.set_cons_zero]))
  (refine wpT_free rfl rfl (.inl ⟨rfl, fun w _ => by go_simp; rfl⟩) (by assumption) ?_; (conv => arg 6; simp only [Act.put, List.setIfInBounds_toArray, List.set_cons_succ, List.set_cons_zero]))
  refine wpT_free rfl rfl (.inl ⟨rfl, fun w hw => run_ld1 Try.underlying5 rfl rfl rfl (hw.cellN List.mem_cons_self (by rw [HK.out]; decide))⟩) (by assumption) ?_; (conv => arg 6; simp only [Act.put, List.setIfInBounds_toArray, List.set_cons_succ, List.set_cons_zero])
  (refine wpT_free rfl rfl (.inl ⟨rfl, fun w _ => by go_simp; rfl⟩) (by assumption) ?_; (conv => arg 6; simp only [Act.put, List.setIfInBounds_toArray, List.set_cons_succ, List.set_cons_zero]))
  (refine wpT_free rfl rfl (.inl ⟨rfl, fun w _ => by go_simp; rfl⟩) (by assumption) ?_; (conv => arg 6; simp only [Act.put, List.setIfInBounds_toArray, List.set_cons_succ, List.set_cons_zero]))
  (refine wpT_free rfl rfl (.inl ⟨rfl, fun w _ => by go_simp; rfl⟩) (by assumption) ?_; (conv => arg 6; simp only [Act.put, List.setIfInBounds_toArray, List.set_cons_succ, List.set_cons_zero]))
  (refine wpT_free rfl rfl (.inl ⟨rfl, fun w _ => by go_simp; rfl⟩) (by assumption) ?_; (conv => arg 6; simp only [Act.put, List.setIfInBounds_toArray, List.set_cons_succ, List.set_cons_zero]))
  refine wpT_free rfl rfl (.inl ⟨rfl, fun w hw => run_ld1 Try.underlying5 rfl rfl rfl (hw.cellN List.mem_cons_self (by rw [HK.out]; decide))⟩) (by assumption) ?_; (conv => arg 6; simp only [Act.put, List.setIfInBounds_toArray, List.set_cons_succ, List.set_cons_zero])
  (refine wpT_free rfl rfl (.inl ⟨rfl, fun w _ => by go_simp; rfl⟩) (by assumption) ?_; (conv => arg 6; simp only [Act.put, List.setIfInBounds_toArray, List.set_cons_succ, List.set_cons_zero]))
  (refine wpT_free rfl rfl (.inl ⟨rfl, fun w _ => by go_simp; rfl⟩) (by assumption) ?_; (conv => arg 6; simp only [Act.put, List.setIfInBounds_toArray, List.set_cons_succ, List.set_cons_zero]))
  rw [HN.out]
  refine wpT_free rfl rfl (.inl ⟨rfl, fun w hw => run_ldrowN Try.underlying26 s26 rfl rfl rfl hw List.mem_cons_self HK.out⟩) (by assumption) ?_; (conv => arg 6; simp only [Act.put, List.setIfInBounds_toArray, List.set_cons_succ, List.set_cons_zero])
  refine wpT_op rfl ?_
  go_wp2_with (go_at_call 66; refine (name66 (numK k) _ n0 (by omega)).mono ?_; rintro e w2 ⟨rfl, M2⟩; replace M1 := M1.call M2.below)
  refine PlanTQ.mk M1 ?_
  refine wpT_free (v := .bool (decide (nameL (numK k) = k))) rfl rfl (.inl ⟨rfl, fun w _ => run_eq26 rfl rfl rfl HNL.out HK.out w⟩) (by assumption) ?_; (conv => arg 6; simp only [Act.put, List.setIfInBounds_toArray, List.set_cons_succ, List.set_cons_zero])
  (refine wpT_free rfl rfl (.inl ⟨rfl, fun w _ => by go_simp; rfl⟩) (by assumption) ?_; (conv => arg 6; simp only [Act.put, List.setIfInBounds_toArray, List.set_cons_succ, List.set_cons_zero]))
  refine wpT_done ?_
  go_wp2_with fail
  go_ret
  exact ⟨rfl, M1.sub (List.nil_sublist _)⟩
end Go.Proofs.Ytcapfnbmmdbcoaa
