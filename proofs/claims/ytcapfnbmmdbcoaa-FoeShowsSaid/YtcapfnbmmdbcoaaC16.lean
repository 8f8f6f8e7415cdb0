/- Walks of the term layer: no agreement; a box as a key; what a key is made of. -/
import Derived.Test.YtcapfnbmmdbcoaaC15
set_option linter.unusedVariables false
set_option linter.unusedSimpArgs false
namespace Go.Proofs.Ytcapfnbmmdbcoaa
open Go.RowKit
set_option maxRecDepth 100000 in
set_option maxHeartbeats 4000000 in
theorem Agree28z (g : Nat) (s : List Int) (w : World) (hs : KeyOk s) :
    Calls Try.prog 28 #[.pointer (some ⟨g, 0, none⟩), .agg (nums .u8 s).toArray, .agg (nums .u8 zK).toArray] w (Key2R zK false w) := by
  have M0 := Mem.start w
  have HS := hid hs
  have HP := hid zK_ok
  clear hs
  go_enter Try.func28, Try.ntmps28
  go_wp2_with (first | (refine wpList_bxN 4 rfl rfl rfl rfl M0 (fun b4 w1 M1 => ?_); clear M0; (conv => arg 5; simp only [Act.put, List.setIfInBounds_toArray, List.set_cons_succ, List.set_cons_zero])) | (refine wpList_bxN 5 rfl rfl rfl rfl M1 (fun b5 w2 M2 => ?_); clear M1; (conv => arg 5; simp only [Act.put, List.setIfInBounds_toArray, List.set_cons_succ, List.set_cons_zero])) | (refine wpList_alN z26 6 rfl rfl rfl M2 (fun b6 w3 M3 => ?_); clear M2; (conv => arg 5; simp only [Act.put, List.setIfInBounds_toArray, List.set_cons_succ, List.set_cons_zero])) | (refine wpList_ldrowN Try.underlying26 s26 rfl rfl rfl rfl M3 (List.mem_cons_of_mem _ List.mem_cons_self) HP.out.1 ?_; (conv => arg 5; simp only [Act.put, List.setIfInBounds_toArray, List.set_cons_succ, List.set_cons_zero])) | (refine wpList_bld (vs := #[]) b26z rfl rfl rfl ?_; (conv => arg 5; simp only [Act.put, List.setIfInBounds_toArray, List.set_cons_succ, List.set_cons_zero])) | (refine wpList_eq26 12 rfl rfl rfl rfl rfl HP.out.1 zK_ok.1 ?_; rw [decide_eq_true (rfl : zK = zK)]; (conv => arg 5; simp only [Act.put, List.setIfInBounds_toArray, List.set_cons_succ, List.set_cons_zero])) | (refine wpList_strowN (ys := zK) s26 rfl rfl rfl rfl M3 Swap.head rfl zK_ok.1 (fun w7 M8 => ?_); clear M3; (conv => arg 5; simp only [Act.put, List.setIfInBounds_toArray, List.set_cons_succ, List.set_cons_zero])))
  try simp only [Exit.inBlock, Exit.then]
  refine ret_row2 Try.underlying26 s26 rfl rfl rfl rfl rfl M8 List.mem_cons_self zK_ok.1 ?_
  exact ⟨rfl, M8.sub (List.nil_sublist _)⟩
/-- A text behind 'box'. -/
def boxS (s : ByteArray) : ByteArray := ⟨#[98, 111, 120]⟩ ++ s
theorem boxS_size (s : ByteArray) : (boxS s).size = 3 + s.size := by rw [boxS, ByteArray.size_append]; rfl
set_option maxRecDepth 100000 in
set_option maxHeartbeats 4000000 in
theorem Mark46k (g : Nat) (s : ByteArray) (w : World) (hs : s.size = 32) : Calls Try.prog 46 #[.pointer (some ⟨g, 0, none⟩), .string s] w (KeyR (bytesOf s) w) := by
  have M0 := Mem.start w
  have HS := hid hs
  have HBL := hid (show (bytesOf s).length = 32 from by rw [bytesOf_length, hs])
  have hsI : (s.size : Int) = 32 := by omega
  clear hs
  go_enter Try.func46, Try.ntmps46
  go_wp2_with (first | (refine wpList_alN z26 4 rfl rfl rfl M0 (fun b4 w1 M1 => ?_); clear M0; (conv => arg 5; simp only [Act.put, List.setIfInBounds_toArray, List.set_cons_succ, List.set_cons_zero])) | (refine wpList_alN z26 5 rfl rfl rfl M1 (fun b5 w2 M2 => ?_); clear M1; (conv => arg 5; simp only [Act.put, List.setIfInBounds_toArray, List.set_cons_succ, List.set_cons_zero])) | (refine wpList_slW Try.underlying26 s5 (by decide) rfl rfl rfl ?_; (conv => arg 5; simp only [Act.put, List.setIfInBounds_toArray, List.set_cons_succ, List.set_cons_zero])) | (refine wpList_cpS 32 [] (nums .u8 (List.replicate 32 0)) [] Try.underlying37 s5 rfl rfl rfl rfl M2 (by rw [HS.out]; rfl) (by rw [List.append_nil, List.nil_append, List.append_nil, List.nil_append]; exact Swap.head) rfl (by rw [nums_length]; rfl) (fun w3 M3 => ?_); clear M2; rw [List.take_of_length_le (by rw [HBL.out]; decide)] at M3; (conv => arg 5; simp only [Act.put, List.setIfInBounds_toArray, List.set_cons_succ, List.set_cons_zero])) | (refine wpList_ldrowN Try.underlying26 s26 rfl rfl rfl rfl M3 List.mem_cons_self HBL.out ?_; (conv => arg 5; simp only [Act.put, List.setIfInBounds_toArray, List.set_cons_succ, List.set_cons_zero])) | (refine wpList_strowN s26 rfl rfl rfl rfl M3 (Swap.tail Swap.head) (by simp) HBL.out (fun w7 M8 => ?_); clear M3; (conv => arg 5; simp only [Act.put, List.setIfInBounds_toArray, List.set_cons_succ, List.set_cons_zero])))
  (try simp only [Exit.inBlock, Exit.then])
  refine ret_rowN Try.underlying26 s26 rfl rfl rfl rfl M8 (List.mem_cons_of_mem _ List.mem_cons_self) HBL.out ?_
  exact ⟨rfl, M8.sub (List.nil_sublist _)⟩
set_option maxRecDepth 100000 in
set_option maxHeartbeats 4000000 in
theorem Mark46h (K : Nat → Prop) (g mb c : Nat) (A : Option Addr) (ts : List Tm) (s : ByteArray) (w : World) (h : TabP K w g mb A c ts) (hs : s.size ≠ 32) (ht : s.size ≤ 900) (hf : ts.length ≤ 900000) :
    Calls Try.prog 46 #[.pointer (some ⟨g, 0, none⟩), .string s] w (PutR K w g mb A ts ⟨2, boxS s, []⟩) := by
  have M0 := Mem.start w
  have HT := hid h
  have hbs := boxS_size s
  have hne : ((s.size : Int) != 32) = true := by simpa using (show ¬ (s.size : Int) = 32 from by omega)
  have HB := hid (show (boxS s).size ≤ 1000 from by omega)
  have hb3 : ByteArray.size ⟨#[98, 111, 120]⟩ + s.size ≤ 1000 := by rw [← ByteArray.size_append]; exact HB.out
  clear h hbs
  go_enter Try.func46, Try.ntmps46
  go_wp2_with (first | (refine wpList_alN z26 4 rfl rfl rfl M0 (fun b4 w1 M1 => ?_); clear M0; (conv => arg 5; simp only [Act.put, List.setIfInBounds_toArray, List.set_cons_succ, List.set_cons_zero])) | (refine wpList_alN z26 5 rfl rfl rfl M1 (fun b5 w2 M2 => ?_); clear M1; (conv => arg 5; simp only [Act.put, List.setIfInBounds_toArray, List.set_cons_succ, List.set_cons_zero])) | (go_at_call 13; refine (Hash13 (fun b => K b ∧ b < w.heap.size) g mb c A none 0 ts (boxS s) [] _ (HT.out.lt.below M2.below) HB.out (by simp) (by simp) RowT.nil (fun _ => rfl) hf).mono ?_; rintro e w6 ⟨rfl, A', c', T2, M6, hA2⟩; have M7 := M2.callE M6 (fun b hb => (HT.out.E_lt b hb).2); have hb1 := (M2.fresh _ (List.mem_cons_of_mem _ List.mem_cons_self) b4 rfl).resolve_left (by simp); have hb2 := Item.lt (M2.holds _ (List.mem_cons_of_mem _ List.mem_cons_self)) (b := b4) rfl; have hsz := M2.size; clear M2 M6) | (refine wpList_strowNG s26 rfl rfl rfl rfl M7 (Swap.tail Swap.head) rfl (nameL_length _) (fun w7 M8 hgr => ?_); clear M7; (conv => arg 5; simp only [Act.put, List.setIfInBounds_toArray, List.set_cons_succ, List.set_cons_zero])))
  ((try simp only [Exit.inBlock, Exit.then]); apply ret_rowN Try.underlying26 s26; (· rfl); (· rfl); (· rfl); (· rfl); (· assumption); (· (repeat (first | exact List.mem_cons_self | refine List.mem_cons_of_mem _ ?_))); (· (first | with_reducible assumption | omega | (simp only [nums_length, List.length_set, List.length_replicate]; first | with_reducible assumption | omega) | rfl | (simp [*]; done) | (simp [*]; omega))); skip)
  exact ⟨rfl, A', c', T2.after hb1 hb2 hgr, M8.sub (List.nil_sublist _), fun b hb => (hA2 b hb).imp id (fun h => Nat.le_trans hsz h)⟩
end Go.Proofs.Ytcapfnbmmdbcoaa
