/- Walks of the aead layer's laws: AeadBack. -/
import Derived.Test.YtcjfpcajjhccaaaAC
set_option linter.unusedVariables false
set_option linter.unusedSimpArgs false
namespace Go.Proofs.Ytcjfpcajjhccaaa
open Go.RowKit
theorem bytesAll_one (s : ByteArray) : bytesAll [s] = bytesOf s := by simp [bytesAll]
theorem bytesAll_cut (s : ByteArray) (n : Nat) (h : n ≤ s.size) : bytesAll [s.extract 0 n, s.extract n s.size] = bytesAll [s] := by
  have e := congrArg bytesOf (extract_join s n h)
  rw [bytes_app] at e
  rw [bytesAll_one, ← e]
  simp [bytesAll]
set_option maxRecDepth 100000 in
set_option maxHeartbeats 1000000 in
theorem AeadBack15 (key : List Int) (s text by' : ByteArray) (cut : Int) (w : World) (hk : key.length = 32) (hkb : digOk 256 key) (hs1 : s.size ≤ maxLen) (hs2 : text.size ≤ maxLen) (hs3 : by'.size ≤ maxLen) (hcut : 0 ≤ cut ∧ cut < 65536) :
    Calls Try.prog 15 #[.agg (nums .u8 key).toArray, .string s, .string text, .string by', .int .u16 cut] w fun e w' => e = .returned (.bool true) ∧ Below w.heap.size w w' := by
  have M0 := Mem.start w
  unfold maxLen at hs1 hs2 hs3
  obtain ⟨hc0, hc1⟩ := hcut
  by_cases ht : text.size ≤ 1000
  · have ht0 : ¬ (1000 : Int) < (text.size : Int) := by omega
    by_cases hb : by'.size ≤ 1000
    · have hb0 : ¬ (1000 : Int) < (by'.size : Int) := by omega
      clear hs2 hs3
      by_cases h12 : s.size = 12
      · have h1 : ((s.size : Int) != 12) = false := by rw [bne_eq_false_iff_eq]; omega
        obtain ⟨n, hn⟩ : ∃ n : Nat, n = (cut % ((by'.size : Int) + 1)).toNat := ⟨_, rfl⟩
        have hnI : cut % ((by'.size : Int) + 1) = (n : Int) := by
          rw [hn, Int.toNat_of_nonneg (Int.emod_nonneg _ (by omega))]
        have hnle : n ≤ by'.size := by
          have := Int.emod_lt_of_pos cut (show 0 < (by'.size : Int) + 1 by omega)
          omega
        have H38 := hid (fun w' A cap (h : RowS w' A [by']) => Seal38 key s text A cap [by'] w' hk hkb h12 (by omega) h (by simp) (fun p hp => by simp only [List.mem_singleton] at hp; subst hp; omega))
        obtain ⟨bx, hbx⟩ : ∃ x, x = sealS key (bytesOf s) (bytesAll [by']) (bytesOf text) := ⟨_, rfl⟩
        rw [← hbx] at H38
        have zbx : bx.size = text.size + 16 := by rw [hbx, sealS_size _ _ _ _ (bytesAll_ok _), bytesOf_length]
        have H40 := hid (fun w' A cap (h : RowS w' A [by'.extract 0 n, by'.extract n by'.size]) => Open40_back key s text bx A cap [by'.extract 0 n, by'.extract n by'.size] w' hk hkb h12 (by omega) h (by simp) (fun p hp => by
          simp only [List.mem_cons, List.not_mem_nil, or_false] at hp
          rcases hp with rfl | rfl <;> (simp only [ByteArray.size_extract]; omega)) (by rw [bytesAll_cut _ _ hnle, hbx]))
        have hl : ((bx.size : Int) == (text.size : Int) + 16) = true := by rw [beq_iff_eq]; omega
        have HN := hid hnI
        have nle : (n : Int) ≤ (by'.size : Int) := by omega
        clear hbx zbx h12 hkb hn hnI
        go_enter Try.func15, Try.ntmps15
        go_wp2_with (first | (apply wpList_bsS1 32; (· rfl); (· rfl); (· rfl); (· rfl); (· exact M'); intro b32 w' M'; (conv => arg 5; simp only [Act.put, List.setIfInBounds_toArray, List.set_cons_succ, List.set_cons_zero])) | (go_at_call 38; refine (H38.out _ _ _ (M'.rowStr (g := b32) (t := 9) List.mem_cons_self)).mono ?_; rintro e w' ⟨rfl, hb⟩; replace M' := M'.call hb) | (go_at_call 36; refine (alive36 _).mono ?_; rintro e w' ⟨rfl, hb⟩; replace M' := M'.call hb) | (apply wpList_bxN 5; (· rfl); (· rfl); (· rfl); (· rfl); (· assumption); intro b5 w' M'; (conv => arg 5; simp only [Act.put, List.setIfInBounds_toArray, List.set_cons_succ, List.set_cons_zero])) | (apply wpList_ldrowN Try.underlying23 s23; (· rfl); (· rfl); (· rfl); (· rfl); (· assumption); (· (repeat (first | exact List.mem_cons_self | refine List.mem_cons_of_mem _ ?_))); (· (first | with_reducible assumption | omega | (simp only [nums_length, List.length_set, List.length_replicate]; first | with_reducible assumption | omega) | rfl | (simp [*]; done) | (simp [*]; omega))); (conv => arg 5; simp only [Act.put, List.setIfInBounds_toArray, List.set_cons_succ, List.set_cons_zero])))
        rw [HN.out]
        replace M' := M'.sub (List.sublist_cons_self _ _)
        refine wp_region_planT (.free 0 (.free 1 (.free 2 (.free 3 (.free 4 (.free 5 (.free 6 (.free 7 (.free 8 (.one 9 (.one 10 (.free 11 (.free 12 (.free 13 (.free 14 (.free 15 (.done))))))))))))))))) (by kernel_rfl) (by kernel_rfl) (fun _ _ _ _ _ h => h) M' (fun w1 M1 => ?_)
        clear M'
        refine wpT_free rfl rfl (.inl ⟨rfl, fun w hw => run_ldrowN Try.underlying23 s23 rfl rfl rfl hw List.mem_cons_self hk⟩) (by assumption) ?_; (conv => arg 6; simp only [Act.put, List.setIfInBounds_toArray, List.set_cons_succ, List.set_cons_zero])
        iterate 8 (refine wpT_free rfl rfl (.inl ⟨rfl, fun w _ => by go_simp; rfl⟩) (by assumption) ?_; (conv => arg 6; simp only [Act.put, List.setIfInBounds_toArray, List.set_cons_succ, List.set_cons_zero]))
        refine wpT_op rfl ?_
        go_wp2_with (first | (apply wpList_bsS2 64; (· rfl); (· rfl); (· rfl); (· rfl); (· rfl); (· exact M1); intro b64 w' M2; (conv => arg 5; simp only [Act.put, List.setIfInBounds_toArray, List.set_cons_succ, List.set_cons_zero])))
        replace M1 := M2.sub (List.sublist_cons_self _ _)
        refine PlanTQ.mk M1 (wpT_op rfl ?_)
        have hrow := M2.rowStr (g := b64) (t := 9) List.mem_cons_self
        go_wp2_with (go_at_call 40; refine (H40.out _ _ _ hrow).mono ?_; rintro e w' ⟨rfl, hb⟩; replace M1 := M1.call hb)
        refine PlanTQ.mk M1 ?_
        (refine wpT_free rfl rfl (.inl ⟨rfl, fun w _ => by go_simp; rfl⟩) (by assumption) ?_; (conv => arg 6; simp only [Act.put, List.setIfInBounds_toArray, List.set_cons_succ, List.set_cons_zero]))
        (refine wpT_free rfl rfl (.inl ⟨rfl, fun w _ => by go_simp; rfl⟩) (by assumption) ?_; (conv => arg 6; simp only [Act.put, List.setIfInBounds_toArray, List.set_cons_succ, List.set_cons_zero]))
        (refine wpT_free rfl rfl (.inl ⟨rfl, fun w _ => by go_simp; rfl⟩) (by assumption) ?_; (conv => arg 6; simp only [Act.put, List.setIfInBounds_toArray, List.set_cons_succ, List.set_cons_zero]))
        (refine wpT_free rfl rfl (.inl ⟨rfl, fun w _ => by go_simp; rfl⟩) (by assumption) ?_; (conv => arg 6; simp only [Act.put, List.setIfInBounds_toArray, List.set_cons_succ, List.set_cons_zero]))
        (refine wpT_free rfl rfl (.inl ⟨rfl, fun w _ => by go_simp; rfl⟩) (by assumption) ?_; (conv => arg 6; simp only [Act.put, List.setIfInBounds_toArray, List.set_cons_succ, List.set_cons_zero]))
        refine wpT_done ?_
        clear hrow M2
        go_wp2_with (go_at_call 36; refine (alive36 _).mono ?_; rintro e w' ⟨rfl, hb⟩; replace M1 := M1.call hb)
        go_ret
        exact ⟨rfl, M1.below⟩
      · have h1 : ((s.size : Int) != 12) = true := by rw [bne_iff_ne]; omega
        have H38 := hid (fun w' v => Seal38_no key s text v w' hk h12 (by omega))
        clear h12 hkb
        go_enter Try.func15, Try.ntmps15
        go_wp2_with (first | (apply wpList_bsS1 32; (· rfl); (· rfl); (· rfl); (· rfl); (· exact M'); intro b32 w' M'; (conv => arg 5; simp only [Act.put, List.setIfInBounds_toArray, List.set_cons_succ, List.set_cons_zero])) | (go_at_call 38; refine (H38.out _ _).mono ?_; rintro e w' ⟨rfl, hb⟩; replace M' := M'.call hb) | (go_at_call 36; refine (alive36 _).mono ?_; rintro e w' ⟨rfl, hb⟩; replace M' := M'.call hb) | (apply wpList_bxN 5; (· rfl); (· rfl); (· rfl); (· rfl); (· assumption); intro b5 w' M'; (conv => arg 5; simp only [Act.put, List.setIfInBounds_toArray, List.set_cons_succ, List.set_cons_zero])) | (apply wpList_ldrowN Try.underlying23 s23; (· rfl); (· rfl); (· rfl); (· rfl); (· assumption); (· (repeat (first | exact List.mem_cons_self | refine List.mem_cons_of_mem _ ?_))); (· (first | with_reducible assumption | omega | (simp only [nums_length, List.length_set, List.length_replicate]; first | with_reducible assumption | omega) | rfl | (simp [*]; done) | (simp [*]; omega))); (conv => arg 5; simp only [Act.put, List.setIfInBounds_toArray, List.set_cons_succ, List.set_cons_zero])))
        go_ret
        exact ⟨rfl, M'.below⟩
    · have hb0 : (1000 : Int) < (by'.size : Int) := by omega
      go_enter Try.func15, Try.ntmps15
      go_wp2_with (first | (go_at_call 36; refine (alive36 _).mono ?_; rintro e w' ⟨rfl, hb⟩; replace M' := M'.call hb) | (apply wpList_bxN 5; (· rfl); (· rfl); (· rfl); (· rfl); (· assumption); intro b5 w' M'; (conv => arg 5; simp only [Act.put, List.setIfInBounds_toArray, List.set_cons_succ, List.set_cons_zero])) | (apply wpList_ldrowN Try.underlying23 s23; (· rfl); (· rfl); (· rfl); (· rfl); (· assumption); (· (repeat (first | exact List.mem_cons_self | refine List.mem_cons_of_mem _ ?_))); (· (first | with_reducible assumption | omega | (simp only [nums_length, List.length_set, List.length_replicate]; first | with_reducible assumption | omega) | rfl | (simp [*]; done) | (simp [*]; omega))); (conv => arg 5; simp only [Act.put, List.setIfInBounds_toArray, List.set_cons_succ, List.set_cons_zero])))
      go_ret
      exact ⟨rfl, M'.below⟩
  · have ht0 : (1000 : Int) < (text.size : Int) := by omega
    go_enter Try.func15, Try.ntmps15
    go_wp2_with (first | (go_at_call 36; refine (alive36 _).mono ?_; rintro e w' ⟨rfl, hb⟩; replace M' := M'.call hb) | (apply wpList_bxN 5; (· rfl); (· rfl); (· rfl); (· rfl); (· assumption); intro b5 w' M'; (conv => arg 5; simp only [Act.put, List.setIfInBounds_toArray, List.set_cons_succ, List.set_cons_zero])) | (apply wpList_ldrowN Try.underlying23 s23; (· rfl); (· rfl); (· rfl); (· rfl); (· assumption); (· (repeat (first | exact List.mem_cons_self | refine List.mem_cons_of_mem _ ?_))); (· (first | with_reducible assumption | omega | (simp only [nums_length, List.length_set, List.length_replicate]; first | with_reducible assumption | omega) | rfl | (simp [*]; done) | (simp [*]; omega))); (conv => arg 5; simp only [Act.put, List.setIfInBounds_toArray, List.set_cons_succ, List.set_cons_zero])))
    go_ret
    exact ⟨rfl, M'.below⟩
end Go.Proofs.Ytcjfpcajjhccaaa
