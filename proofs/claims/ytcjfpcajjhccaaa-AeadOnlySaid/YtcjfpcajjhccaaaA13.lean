/- Walks of the aead layer's laws: AeadOnly. -/
import Derived.Test.YtcjfpcajjhccaaaAC
set_option linter.unusedVariables false
set_option linter.unusedSimpArgs false
namespace Go.Proofs.Ytcjfpcajjhccaaa
open Go.RowKit
set_option maxRecDepth 100000 in
set_option maxHeartbeats 1000000 in
theorem AeadOnly16 (key : List Int) (s box by' : ByteArray) (w : World) (hk : key.length = 32) (hkb : digOk 256 key) (hs1 : s.size ≤ maxLen) (hs2 : box.size ≤ maxLen) (hs3 : by'.size ≤ maxLen) :
    Calls Try.prog 16 #[.agg (nums .u8 key).toArray, .string s, .string box, .string by'] w fun e w' => e = .returned (.bool true) ∧ Below w.heap.size w w' := by
  have M0 := Mem.start w
  unfold maxLen at hs1 hs2 hs3
  by_cases ht : box.size ≤ 1000
  · have ht0 : ¬ (1000 : Int) < (box.size : Int) := by omega
    by_cases hb : by'.size ≤ 1000
    · have hb0 : ¬ (1000 : Int) < (by'.size : Int) := by omega
      clear hs2 hs3
      by_cases hyes : s.size = 12 ∧ 16 ≤ box.size ∧ box.extract (box.size - 16) box.size = tagS key (bytesOf s) (bytesAll [by']) (bytesOf (box.extract 0 (box.size - 16)))
      · obtain ⟨h12, h16, he⟩ := hyes
        obtain ⟨n, hn⟩ : ∃ n, n = box.size - 16 := ⟨_, rfl⟩
        have hbn : box.size = n + 16 := by omega
        have H40 := hid (fun w' A cap (h : RowS w' A [by']) => Open40 key s box A cap [by'] w' hk hkb h12 n hbn (by omega) h (by simp) (fun p hp => by simp only [List.mem_singleton] at hp; subst hp; omega))
        rw [← hn] at he
        simp only [if_pos he] at H40
        obtain ⟨tx, htx⟩ : ∃ x, x = maskS key (bytesOf s) (bytesOf (box.extract 0 n)) := ⟨_, rfl⟩
        have ztx : tx.size ≤ 2000 := by rw [htx, maskS_size, bytesOf_length, ByteArray.size_extract]; omega
        have hon := seal_only key (bytesOf s) (bytesAll [by']) box n hbn he
        rw [← htx] at H40 hon
        have H38 := hid (fun w' A cap (h : RowS w' A [by']) => Seal38 key s tx A cap [by'] w' hk hkb h12 ztx h (by simp) (fun p hp => by simp only [List.mem_singleton] at hp; subst hp; omega))
        rw [hon] at H38
        clear he hon htx hn hbn h12 hkb h16 ztx
        go_enter Try.func16, Try.ntmps16
        go_wp2_with (first | (apply wpList_bsS1 29; (· rfl); (· rfl); (· rfl); (· rfl); (· exact M'); intro b29 w' M'; (conv => arg 5; simp only [Act.put, List.setIfInBounds_toArray, List.set_cons_succ, List.set_cons_zero])) | (apply wpList_bsS1 45; (· rfl); (· rfl); (· rfl); (· rfl); (· exact M'); intro b45 w' M'; (conv => arg 5; simp only [Act.put, List.setIfInBounds_toArray, List.set_cons_succ, List.set_cons_zero])) | (go_at_call 40; refine (H40.out _ _ _ (M'.rowStr (t := 9) List.mem_cons_self)).mono ?_; rintro e w' ⟨rfl, hb⟩; replace M' := M'.call hb) | (go_at_call 38; refine (H38.out _ _ _ (M'.rowStr (t := 9) List.mem_cons_self)).mono ?_; rintro e w' ⟨rfl, hb⟩; replace M' := M'.call hb) | (go_at_call 36; refine (alive36 _).mono ?_; rintro e w' ⟨rfl, hb⟩; replace M' := M'.call hb) | (apply wpList_bxN 4; (· rfl); (· rfl); (· rfl); (· rfl); (· assumption); intro b4 w' M'; (conv => arg 5; simp only [Act.put, List.setIfInBounds_toArray, List.set_cons_succ, List.set_cons_zero])) | (apply wpList_ldrowN Try.underlying23 s23; (· rfl); (· rfl); (· rfl); (· rfl); (· assumption); (· (repeat (first | exact List.mem_cons_self | refine List.mem_cons_of_mem _ ?_))); (· (first | with_reducible assumption | omega | (simp only [nums_length, List.length_set, List.length_replicate]; first | with_reducible assumption | omega) | rfl | (simp [*]; done) | (simp [*]; omega))); (conv => arg 5; simp only [Act.put, List.setIfInBounds_toArray, List.set_cons_succ, List.set_cons_zero])))
        go_ret
        exact ⟨rfl, M'.below⟩
      · have HB : ∃ k : Int, ((k != 0) = true) ∧ Hid (∀ w' A cap, RowS w' A [by'] → Calls Try.prog 40 #[.agg (nums .u8 key).toArray, .string s, .string box, .slice A 1 cap] w' fun e w'' => e = .returned (.tuple #[.string ⟨#[]⟩, .int .i64 k]) ∧ Below w'.heap.size w' w'') := by
          by_cases h12 : s.size = 12
          · by_cases h16 : box.size < 16
            · exact ⟨2, rfl, hid (fun w' A cap _ => Open40_short key s box _ w' hk h12 h16)⟩
            · have he : ¬ box.extract (box.size - 16) box.size = tagS key (bytesOf s) (bytesAll [by']) (bytesOf (box.extract 0 (box.size - 16))) := fun he => hyes ⟨h12, by omega, he⟩
              have H40 := (fun w' A cap (h : RowS w' A [by']) => Open40 key s box A cap [by'] w' hk hkb h12 (box.size - 16) (by omega) (by omega) h (by simp) (fun p hp => by simp only [List.mem_singleton] at hp; subst hp; omega))
              simp only [if_neg he] at H40
              exact ⟨2, rfl, hid H40⟩
          · exact ⟨1, rfl, hid (fun w' A cap _ => Open40_no key s box _ w' hk h12 (by omega))⟩
        obtain ⟨k, hk0, H40⟩ := HB
        clear hyes hkb
        go_enter Try.func16, Try.ntmps16
        go_wp2_with (first | (apply wpList_bsS1 29; (· rfl); (· rfl); (· rfl); (· rfl); (· exact M'); intro b29 w' M'; (conv => arg 5; simp only [Act.put, List.setIfInBounds_toArray, List.set_cons_succ, List.set_cons_zero])) | (go_at_call 40; refine (H40.out _ _ _ (M'.rowStr (t := 9) List.mem_cons_self)).mono ?_; rintro e w' ⟨rfl, hb⟩; replace M' := M'.call hb) | (go_at_call 36; refine (alive36 _).mono ?_; rintro e w' ⟨rfl, hb⟩; replace M' := M'.call hb) | (apply wpList_bxN 4; (· rfl); (· rfl); (· rfl); (· rfl); (· assumption); intro b4 w' M'; (conv => arg 5; simp only [Act.put, List.setIfInBounds_toArray, List.set_cons_succ, List.set_cons_zero])) | (apply wpList_ldrowN Try.underlying23 s23; (· rfl); (· rfl); (· rfl); (· rfl); (· assumption); (· (repeat (first | exact List.mem_cons_self | refine List.mem_cons_of_mem _ ?_))); (· (first | with_reducible assumption | omega | (simp only [nums_length, List.length_set, List.length_replicate]; first | with_reducible assumption | omega) | rfl | (simp [*]; done) | (simp [*]; omega))); (conv => arg 5; simp only [Act.put, List.setIfInBounds_toArray, List.set_cons_succ, List.set_cons_zero])))
        go_ret
        exact ⟨rfl, M'.below⟩
    · have hb0 : (1000 : Int) < (by'.size : Int) := by omega
      go_enter Try.func16, Try.ntmps16
      go_wp2_with (first | (go_at_call 36; refine (alive36 _).mono ?_; rintro e w' ⟨rfl, hb⟩; replace M' := M'.call hb) | (apply wpList_bxN 4; (· rfl); (· rfl); (· rfl); (· rfl); (· assumption); intro b4 w' M'; (conv => arg 5; simp only [Act.put, List.setIfInBounds_toArray, List.set_cons_succ, List.set_cons_zero])) | (apply wpList_ldrowN Try.underlying23 s23; (· rfl); (· rfl); (· rfl); (· rfl); (· assumption); (· (repeat (first | exact List.mem_cons_self | refine List.mem_cons_of_mem _ ?_))); (· (first | with_reducible assumption | omega | (simp only [nums_length, List.length_set, List.length_replicate]; first | with_reducible assumption | omega) | rfl | (simp [*]; done) | (simp [*]; omega))); (conv => arg 5; simp only [Act.put, List.setIfInBounds_toArray, List.set_cons_succ, List.set_cons_zero])))
      go_ret
      exact ⟨rfl, M'.below⟩
  · have ht0 : (1000 : Int) < (box.size : Int) := by omega
    go_enter Try.func16, Try.ntmps16
    go_wp2_with (first | (go_at_call 36; refine (alive36 _).mono ?_; rintro e w' ⟨rfl, hb⟩; replace M' := M'.call hb) | (apply wpList_bxN 4; (· rfl); (· rfl); (· rfl); (· rfl); (· assumption); intro b4 w' M'; (conv => arg 5; simp only [Act.put, List.setIfInBounds_toArray, List.set_cons_succ, List.set_cons_zero])) | (apply wpList_ldrowN Try.underlying23 s23; (· rfl); (· rfl); (· rfl); (· rfl); (· assumption); (· (repeat (first | exact List.mem_cons_self | refine List.mem_cons_of_mem _ ?_))); (· (first | with_reducible assumption | omega | (simp only [nums_length, List.length_set, List.length_replicate]; first | with_reducible assumption | omega) | rfl | (simp [*]; done) | (simp [*]; omega))); (conv => arg 5; simp only [Act.put, List.setIfInBounds_toArray, List.set_cons_succ, List.set_cons_zero])))
    go_ret
    exact ⟨rfl, M'.below⟩
end Go.Proofs.Ytcjfpcajjhccaaa
