/- The walks of the stream layer's laws, first part: StreamBlocks, StreamQuarter, StreamMasks. -/
import Derived.Test.YtcjfpcajjhccaaaS9
set_option linter.unusedVariables false
set_option linter.unusedSimpArgs false
namespace Go.Proofs.Ytcjfpcajjhccaaa
open Go.RowKit
set_option maxRecDepth 100000 in
theorem StreamBlocks3 (key : List Int) (s : ByteArray) (ctr : Int) (w : World) (hkl : key.length = 32) (hkb : ∀ x ∈ key, isByte x) (hs1 : s.size ≤ maxLen) :
    Calls Try.prog 3 #[.agg (nums .u8 key).toArray, .string s, .int .u32 ctr] w fun e w' => e = .returned (.bool true) ∧ Below w.heap.size w w' := by
  have M0 := Mem.start w
  by_cases hs : s.size = 12
  · have h1 : ((s.size : Int) != 12) = false := by rw [bne_eq_false_iff_eq]; omega
    have HB := hid (fun w => Block19 key s ctr w hkl hkb hs)
    have HR := hid (fun w => Block20 key s ctr w hkl hkb hs)
    obtain ⟨bs, hbs⟩ : ∃ x, x = strOfNums (blockB key (bytesOf s) ctr) := ⟨_, rfl⟩
    rw [← hbs] at HB HR
    clear hbs hs
    go_enter Try.func3, Try.ntmps3
    go_wp2_with (first | (go_at_call 18; refine (alive18 _).mono ?_; rintro e w' ⟨rfl, hb⟩; replace M' := M'.call hb) | (go_at_call 19; refine (HB.out _).mono ?_; rintro e w' ⟨rfl, hb⟩; replace M' := M'.call hb) | (go_at_call 20; refine (HR.out _).mono ?_; rintro e w' ⟨rfl, hb⟩; replace M' := M'.call hb) | (apply wpList_bxN 3; (· rfl); (· rfl); (· rfl); (· rfl); (· assumption); intro b3 w' M'; (conv => arg 5; simp only [Act.put, List.setIfInBounds_toArray, List.set_cons_succ, List.set_cons_zero])) | (apply wpList_ldrowN Try.underlying23 s23; (· rfl); (· rfl); (· rfl); (· rfl); (· assumption); (· (repeat (first | exact List.mem_cons_self | refine List.mem_cons_of_mem _ ?_))); (· (first | with_reducible assumption | omega | (simp only [nums_length, List.length_set, List.length_replicate]; first | with_reducible assumption | omega) | rfl | (simp [*]; done) | (simp [*]; omega))); (conv => arg 5; simp only [Act.put, List.setIfInBounds_toArray, List.set_cons_succ, List.set_cons_zero])) | (apply wpList_wantLd; (· rfl)))
    go_ret
    exact ⟨rfl, M'.below⟩
  · have h1 : ((s.size : Int) != 12) = true := by rw [bne_iff_ne]; omega
    have HB := hid (fun w => Block19_no key s ctr w hs)
    clear hs
    go_enter Try.func3, Try.ntmps3
    go_wp2_with (first | (go_at_call 18; refine (alive18 _).mono ?_; rintro e w' ⟨rfl, hb⟩; replace M' := M'.call hb) | (go_at_call 19; refine (HB.out _).mono ?_; rintro e w' ⟨rfl, hb⟩; replace M' := M'.call hb) | (apply wpList_bxN 3; (· rfl); (· rfl); (· rfl); (· rfl); (· assumption); intro b3 w' M'; (conv => arg 5; simp only [Act.put, List.setIfInBounds_toArray, List.set_cons_succ, List.set_cons_zero])) | (apply wpList_ldrowN Try.underlying23 s23; (· rfl); (· rfl); (· rfl); (· rfl); (· assumption); (· (repeat (first | exact List.mem_cons_self | refine List.mem_cons_of_mem _ ?_))); (· (first | with_reducible assumption | omega | (simp only [nums_length, List.length_set, List.length_replicate]; first | with_reducible assumption | omega) | rfl | (simp [*]; done) | (simp [*]; omega))); (conv => arg 5; simp only [Act.put, List.setIfInBounds_toArray, List.set_cons_succ, List.set_cons_zero])) | (apply wpList_wantLd; (· rfl)))
    go_ret
    exact ⟨rfl, M'.below⟩
set_option maxRecDepth 100000 in
set_option maxHeartbeats 2000000 in
theorem StreamMasks5 (key : List Int) (s : ByteArray) (ctr : Int) (text : ByteArray) (w : World) (hkl : key.length = 32) (hkb : ∀ x ∈ key, isByte x) (hc : 0 ≤ ctr ∧ ctr < 4294967296) (hs1 : s.size ≤ maxLen) (hs2 : text.size ≤ maxLen) :
    Calls Try.prog 5 #[.agg (nums .u8 key).toArray, .string s, .int .u32 ctr, .string text] w fun e w' => e = .returned (.bool true) ∧ Below w.heap.size w w' := by
  have M0 := Mem.start w
  by_cases ht : text.size ≤ 2000
  · have ht0 : ¬ (2000 : Int) < (text.size : Int) := by omega
    by_cases hs : s.size = 12
    · have h1 : ((s.size : Int) != 12) = false := by rw [bne_eq_false_iff_eq]; omega
      by_cases hf : (((text.size + 63) / 64 : Nat) : Int) ≤ 4294967296 - ctr
      · have HF := hid (fun w => Fits23 ctr text.size w hc (by omega))
        have hfit : fitsB ctr text.size = true := by unfold fitsB; rw [decide_eq_true_eq]; exact hf
        rw [hfit] at HF
        have HB := hid (fun w => Mask22 key s ctr text w hkl hkb hc (by omega) hs hf)
        have HR := hid (fun w => Mask24 key s ctr text w hkl hkb hc (by omega) hs hf)
        obtain ⟨bs, hbs⟩ : ∃ x, x = strOfNums (maskB key (bytesOf s) ctr (bytesOf text)) := ⟨_, rfl⟩
        rw [← hbs] at HB HR
        clear hbs hs hf hfit hc
        go_enter Try.func5, Try.ntmps5
        go_wp2_with (first | (go_at_call 18; refine (alive18 _).mono ?_; rintro e w' ⟨rfl, hb⟩; replace M' := M'.call hb) | (go_at_call 22; refine (HB.out _).mono ?_; rintro e w' ⟨rfl, hb⟩; replace M' := M'.call hb) | (go_at_call 23; refine (HF.out _).mono ?_; rintro e w' ⟨rfl, rfl⟩) | (go_at_call 24; refine (HR.out _).mono ?_; rintro e w' ⟨rfl, hb⟩; replace M' := M'.call hb) | (apply wpList_bxN 4; (· rfl); (· rfl); (· rfl); (· rfl); (· assumption); intro b4 w' M'; (conv => arg 5; simp only [Act.put, List.setIfInBounds_toArray, List.set_cons_succ, List.set_cons_zero])) | (apply wpList_ldrowN Try.underlying23 s23; (· rfl); (· rfl); (· rfl); (· rfl); (· assumption); (· (repeat (first | exact List.mem_cons_self | refine List.mem_cons_of_mem _ ?_))); (· (first | with_reducible assumption | omega | (simp only [nums_length, List.length_set, List.length_replicate]; first | with_reducible assumption | omega) | rfl | (simp [*]; done) | (simp [*]; omega))); (conv => arg 5; simp only [Act.put, List.setIfInBounds_toArray, List.set_cons_succ, List.set_cons_zero])) | (apply wpList_wantLd; (· rfl)))
        go_ret
        exact ⟨rfl, M'.below⟩
      · have HF := hid (fun w => Fits23 ctr text.size w hc (by omega))
        have hfit : fitsB ctr text.size = false := by unfold fitsB; rw [decide_eq_false_iff_not]; exact hf
        rw [hfit] at HF
        have HB := hid (fun w => Mask22_no key s ctr text w hc (by omega) (.inr (by omega)))
        clear hs hf hfit hc
        go_enter Try.func5, Try.ntmps5
        go_wp2_with (first | (go_at_call 18; refine (alive18 _).mono ?_; rintro e w' ⟨rfl, hb⟩; replace M' := M'.call hb) | (go_at_call 22; refine (HB.out _).mono ?_; rintro e w' ⟨rfl, hb⟩; replace M' := M'.call hb) | (go_at_call 23; refine (HF.out _).mono ?_; rintro e w' ⟨rfl, rfl⟩) | (apply wpList_bxN 4; (· rfl); (· rfl); (· rfl); (· rfl); (· assumption); intro b4 w' M'; (conv => arg 5; simp only [Act.put, List.setIfInBounds_toArray, List.set_cons_succ, List.set_cons_zero])) | (apply wpList_ldrowN Try.underlying23 s23; (· rfl); (· rfl); (· rfl); (· rfl); (· assumption); (· (repeat (first | exact List.mem_cons_self | refine List.mem_cons_of_mem _ ?_))); (· (first | with_reducible assumption | omega | (simp only [nums_length, List.length_set, List.length_replicate]; first | with_reducible assumption | omega) | rfl | (simp [*]; done) | (simp [*]; omega))); (conv => arg 5; simp only [Act.put, List.setIfInBounds_toArray, List.set_cons_succ, List.set_cons_zero])) | (apply wpList_wantLd; (· rfl)))
        go_ret
        exact ⟨rfl, M'.below⟩
    · have h1 : ((s.size : Int) != 12) = true := by rw [bne_iff_ne]; omega
      have HB := hid (fun w => Mask22_no key s ctr text w hc (by omega) (.inl hs))
      clear hs
      go_enter Try.func5, Try.ntmps5
      go_wp2_with (first | (go_at_call 18; refine (alive18 _).mono ?_; rintro e w' ⟨rfl, hb⟩; replace M' := M'.call hb) | (go_at_call 22; refine (HB.out _).mono ?_; rintro e w' ⟨rfl, hb⟩; replace M' := M'.call hb) | (apply wpList_bxN 4; (· rfl); (· rfl); (· rfl); (· rfl); (· assumption); intro b4 w' M'; (conv => arg 5; simp only [Act.put, List.setIfInBounds_toArray, List.set_cons_succ, List.set_cons_zero])) | (apply wpList_ldrowN Try.underlying23 s23; (· rfl); (· rfl); (· rfl); (· rfl); (· assumption); (· (repeat (first | exact List.mem_cons_self | refine List.mem_cons_of_mem _ ?_))); (· (first | with_reducible assumption | omega | (simp only [nums_length, List.length_set, List.length_replicate]; first | with_reducible assumption | omega) | rfl | (simp [*]; done) | (simp [*]; omega))); (conv => arg 5; simp only [Act.put, List.setIfInBounds_toArray, List.set_cons_succ, List.set_cons_zero])) | (apply wpList_wantLd; (· rfl)))
      go_ret
      exact ⟨rfl, M'.below⟩
  · have ht0 : (2000 : Int) < (text.size : Int) := by omega
    go_enter Try.func5, Try.ntmps5
    go_wp2_with (first | (go_at_call 18; refine (alive18 _).mono ?_; rintro e w' ⟨rfl, hb⟩; replace M' := M'.call hb) | (apply wpList_bxN 4; (· rfl); (· rfl); (· rfl); (· rfl); (· assumption); intro b4 w' M'; (conv => arg 5; simp only [Act.put, List.setIfInBounds_toArray, List.set_cons_succ, List.set_cons_zero])) | (apply wpList_ldrowN Try.underlying23 s23; (· rfl); (· rfl); (· rfl); (· rfl); (· assumption); (· (repeat (first | exact List.mem_cons_self | refine List.mem_cons_of_mem _ ?_))); (· (first | with_reducible assumption | omega | (simp only [nums_length, List.length_set, List.length_replicate]; first | with_reducible assumption | omega) | rfl | (simp [*]; done) | (simp [*]; omega))); (conv => arg 5; simp only [Act.put, List.setIfInBounds_toArray, List.set_cons_succ, List.set_cons_zero])) | (apply wpList_wantLd; (· rfl)))
    go_ret
    exact ⟨rfl, M'.below⟩
end Go.Proofs.Ytcjfpcajjhccaaa
