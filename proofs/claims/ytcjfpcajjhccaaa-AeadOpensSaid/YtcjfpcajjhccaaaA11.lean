/- Walks of the aead layer's laws: AeadOpens. -/
import Derived.Test.YtcjfpcajjhccaaaAC
set_option linter.unusedVariables false
set_option linter.unusedSimpArgs false
namespace Go.Proofs.Ytcjfpcajjhccaaa
open Go.RowKit
set_option maxRecDepth 100000 in
set_option maxHeartbeats 1000000 in
theorem AeadOpens14 (key : List Int) (s text : ByteArray) (A : Option Addr) (cap : Nat) (ps : List ByteArray) (w : World) (hk : key.length = 32) (hkb : digOk 256 key) (hs1 : s.size ≤ maxLen) (hs2 : text.size ≤ maxLen) (hA : RowS w A ps) (hn : ps.length ≤ maxLen) (hz : ∀ p ∈ ps, p.size ≤ maxLen) :
    Calls Try.prog 14 #[.agg (nums .u8 key).toArray, .string s, .string text, .slice A ps.length cap] w fun e w' => e = .returned (.bool true) ∧ Below w.heap.size w w' := by
  have M0 := Mem.start w
  unfold maxLen at hs1
  have HG := hid (fun w' (h : RowS w' A ps) => great37 text A cap ps w' h hn hz)
  go_enter Try.func14, Try.ntmps14
  go_wp2_with (first | (go_at_call 36; refine (alive36 _).mono ?_; rintro e w' ⟨rfl, hb⟩; replace M' := M'.call hb) | (apply wpList_bxN 4; (· rfl); (· rfl); (· rfl); (· rfl); (· assumption); intro b4 w' M'; (conv => arg 5; simp only [Act.put, List.setIfInBounds_toArray, List.set_cons_succ, List.set_cons_zero])) | (apply wpList_ldrowN Try.underlying23 s23; (· rfl); (· rfl); (· rfl); (· rfl); (· assumption); (· (repeat (first | exact List.mem_cons_self | refine List.mem_cons_of_mem _ ?_))); (· (first | with_reducible assumption | omega | (simp only [nums_length, List.length_set, List.length_replicate]; first | with_reducible assumption | omega) | rfl | (simp [*]; done) | (simp [*]; omega))); (conv => arg 5; simp only [Act.put, List.setIfInBounds_toArray, List.set_cons_succ, List.set_cons_zero])))
  refine (HG.out _ (hA.kept (M'.sub (List.nil_sublist _)))).mono ?_
  rintro e w2 ⟨g, rfl, rfl, hg⟩
  cases g with
  | true =>
    clear hg
    go_wp2_with (go_at_call 36; refine (alive36 _).mono ?_; rintro e w' ⟨rfl, hb⟩; replace M' := M'.call hb)
    go_ret
    exact ⟨rfl, M'.below⟩
  | false =>
    obtain ⟨ht, hl, hp⟩ := hg rfl
    clear hg HG hn hz hs2
    by_cases h12 : s.size = 12
    · have h1 : ((s.size : Int) != 12) = false := by rw [bne_eq_false_iff_eq]; omega
      have hsz := joinAll_size ps 300 hp
      have hjs : (joinAll ps).size ≤ 7000 := by have := Nat.mul_le_mul_right 300 hl; omega
      have H29 := hid (fun w' (h : RowS w' A ps) => Join29 A cap ps w' h (by omega) (fun p h => Nat.le_trans (hp p h) (by decide)))
      have HB : ∃ (b : Bool) (o : ByteArray), (b = false → o = ⟨#[]⟩) ∧ Hid (∀ w', RowS w' A ps → Calls Try.prog 40 #[.agg (nums .u8 key).toArray, .string s, .string text, .slice A ps.length cap] w' fun e w'' => e = .returned (.tuple #[.string o, .int .i64 (if b then 0 else 2)]) ∧ Below w'.heap.size w' w'') ∧
          Hid (∀ w', Calls Try.prog 41 #[.agg (nums .u8 key).toArray, .string s, .string text, .string (joinAll ps)] w' fun e w'' => e = .returned (.tuple #[.string o, .bool b]) ∧ Below w'.heap.size w' w'') := by
        by_cases h16 : text.size < 16
        · exact ⟨false, ⟨#[]⟩, fun _ => rfl, hid (fun w' _ => Open40_short key s text _ w' hk h12 h16), hid (fun w' => Open41_short key s text (joinAll ps) w' hk h16)⟩
        · have H40 := fun w' (h : RowS w' A ps) => Open40 key s text A cap ps w' hk hkb h12 (text.size - 16) (by omega) (by omega) h hl (fun p h => Nat.le_trans (hp p h) (by decide))
          have H41 := fun w' => Open41 key s text (joinAll ps) w' hk hkb h12 (text.size - 16) (by omega) (by omega) hjs
          rw [joinAll_all] at H41
          by_cases he : text.extract (text.size - 16) text.size = tagS key (bytesOf s) (bytesAll ps) (bytesOf (text.extract 0 (text.size - 16)))
          · simp only [if_pos he] at H40 H41
            exact ⟨true, _, (fun h => by cases h), hid H40, hid H41⟩
          · simp only [if_neg he] at H40 H41
            exact ⟨false, _, fun _ => rfl, hid H40, hid H41⟩
      obtain ⟨b, o, ho, H40, H41⟩ := HB
      obtain ⟨jn, hjn⟩ : ∃ x, x = joinAll ps := ⟨_, rfl⟩
      rw [← hjn] at H29 H41
      clear hjn hjs hsz hl hp h12 hkb
      cases b with
      | true =>
        clear ho
        simp only [if_true] at H40
        go_wp2_with (first | (go_at_call 40; refine (H40.out _ (hA.kept (M'.sub (List.nil_sublist _)))).mono ?_; rintro e w' ⟨rfl, hb⟩; replace M' := M'.call hb) | (apply wpList_bxN 4; (· rfl); (· rfl); (· rfl); (· rfl); (· assumption); intro b4 w' M'; (conv => arg 5; simp only [Act.put, List.setIfInBounds_toArray, List.set_cons_succ, List.set_cons_zero])) | (apply wpList_ldrowN Try.underlying23 s23; (· rfl); (· rfl); (· rfl); (· rfl); (· assumption); (· (repeat (first | exact List.mem_cons_self | refine List.mem_cons_of_mem _ ?_))); (· (first | with_reducible assumption | omega | (simp only [nums_length, List.length_set, List.length_replicate]; first | with_reducible assumption | omega) | rfl | (simp [*]; done) | (simp [*]; omega))); (conv => arg 5; simp only [Act.put, List.setIfInBounds_toArray, List.set_cons_succ, List.set_cons_zero])))
        refine wp_region_planT (.free 0 (.free 1 (.free 2 (.free 3 (.one 4 (.one 5 (.free 6 (.free 7 (.free 8 (.free 9 (.free 10 (.done)))))))))))) (by kernel_rfl) (by kernel_rfl) (fun _ _ _ _ _ h => h) M' (fun w1 M1 => ?_)
        clear M'
        refine wpT_free rfl rfl (.inl ⟨rfl, fun w hw => run_ldrowN Try.underlying23 s23 rfl rfl rfl hw List.mem_cons_self hk⟩) (by assumption) ?_; (conv => arg 6; simp only [Act.put, List.setIfInBounds_toArray, List.set_cons_succ, List.set_cons_zero])
        (refine wpT_free rfl rfl (.inl ⟨rfl, fun w _ => by go_simp; rfl⟩) (by assumption) ?_; (conv => arg 6; simp only [Act.put, List.setIfInBounds_toArray, List.set_cons_succ, List.set_cons_zero]))
        (refine wpT_free rfl rfl (.inl ⟨rfl, fun w _ => by go_simp; rfl⟩) (by assumption) ?_; (conv => arg 6; simp only [Act.put, List.setIfInBounds_toArray, List.set_cons_succ, List.set_cons_zero]))
        (refine wpT_free rfl rfl (.inl ⟨rfl, fun w _ => by go_simp; rfl⟩) (by assumption) ?_; (conv => arg 6; simp only [Act.put, List.setIfInBounds_toArray, List.set_cons_succ, List.set_cons_zero]))
        refine wpT_op rfl ?_
        go_wp2_with (go_at_call 29; refine (H29.out _ (hA.kept (M1.sub (List.nil_sublist _)))).mono ?_; rintro e w' ⟨rfl, rfl⟩)
        refine PlanTQ.mk M1 (wpT_op rfl ?_)
        go_wp2_with (go_at_call 41; refine (H41.out _).mono ?_; rintro e w' ⟨rfl, hb⟩; replace M1 := M1.call hb)
        refine PlanTQ.mk M1 ?_
        (refine wpT_free rfl rfl (.inl ⟨rfl, fun w _ => by go_simp; rfl⟩) (by assumption) ?_; (conv => arg 6; simp only [Act.put, List.setIfInBounds_toArray, List.set_cons_succ, List.set_cons_zero]))
        (refine wpT_free rfl rfl (.inl ⟨rfl, fun w _ => by go_simp; rfl⟩) (by assumption) ?_; (conv => arg 6; simp only [Act.put, List.setIfInBounds_toArray, List.set_cons_succ, List.set_cons_zero]))
        (refine wpT_free rfl rfl (.inl ⟨rfl, fun w _ => by go_simp; rfl⟩) (by assumption) ?_; (conv => arg 6; simp only [Act.put, List.setIfInBounds_toArray, List.set_cons_succ, List.set_cons_zero]))
        (refine wpT_free rfl rfl (.inl ⟨rfl, fun w _ => by go_simp; rfl⟩) (by assumption) ?_; (conv => arg 6; simp only [Act.put, List.setIfInBounds_toArray, List.set_cons_succ, List.set_cons_zero]))
        (refine wpT_free rfl rfl (.inl ⟨rfl, fun w _ => by go_simp; rfl⟩) (by assumption) ?_; (conv => arg 6; simp only [Act.put, List.setIfInBounds_toArray, List.set_cons_succ, List.set_cons_zero]))
        refine wpT_done ?_
        go_wp2_with (go_at_call 36; refine (alive36 _).mono ?_; rintro e w' ⟨rfl, hb⟩; replace M1 := M1.call hb)
        go_ret
        exact ⟨rfl, M1.below⟩
      | false =>
        obtain rfl := ho rfl
        clear ho
        simp only [Bool.false_eq_true, if_false] at H40
        go_wp2_with (first | (go_at_call 40; refine (H40.out _ (hA.kept (M'.sub (List.nil_sublist _)))).mono ?_; rintro e w' ⟨rfl, hb⟩; replace M' := M'.call hb) | (apply wpList_bxN 4; (· rfl); (· rfl); (· rfl); (· rfl); (· assumption); intro b4 w' M'; (conv => arg 5; simp only [Act.put, List.setIfInBounds_toArray, List.set_cons_succ, List.set_cons_zero])) | (apply wpList_ldrowN Try.underlying23 s23; (· rfl); (· rfl); (· rfl); (· rfl); (· assumption); (· (repeat (first | exact List.mem_cons_self | refine List.mem_cons_of_mem _ ?_))); (· (first | with_reducible assumption | omega | (simp only [nums_length, List.length_set, List.length_replicate]; first | with_reducible assumption | omega) | rfl | (simp [*]; done) | (simp [*]; omega))); (conv => arg 5; simp only [Act.put, List.setIfInBounds_toArray, List.set_cons_succ, List.set_cons_zero])))
        refine wp_region_planT (.free 0 (.free 1 (.free 2 (.free 3 (.one 4 (.one 5 (.free 6 (.free 7 (.free 8 (.free 9 (.free 10 (.done)))))))))))) (by kernel_rfl) (by kernel_rfl) (fun _ _ _ _ _ h => h) M' (fun w1 M1 => ?_)
        clear M'
        refine wpT_free rfl rfl (.inl ⟨rfl, fun w hw => run_ldrowN Try.underlying23 s23 rfl rfl rfl hw List.mem_cons_self hk⟩) (by assumption) ?_; (conv => arg 6; simp only [Act.put, List.setIfInBounds_toArray, List.set_cons_succ, List.set_cons_zero])
        (refine wpT_free rfl rfl (.inl ⟨rfl, fun w _ => by go_simp; rfl⟩) (by assumption) ?_; (conv => arg 6; simp only [Act.put, List.setIfInBounds_toArray, List.set_cons_succ, List.set_cons_zero]))
        (refine wpT_free rfl rfl (.inl ⟨rfl, fun w _ => by go_simp; rfl⟩) (by assumption) ?_; (conv => arg 6; simp only [Act.put, List.setIfInBounds_toArray, List.set_cons_succ, List.set_cons_zero]))
        (refine wpT_free rfl rfl (.inl ⟨rfl, fun w _ => by go_simp; rfl⟩) (by assumption) ?_; (conv => arg 6; simp only [Act.put, List.setIfInBounds_toArray, List.set_cons_succ, List.set_cons_zero]))
        refine wpT_op rfl ?_
        go_wp2_with (go_at_call 29; refine (H29.out _ (hA.kept (M1.sub (List.nil_sublist _)))).mono ?_; rintro e w' ⟨rfl, rfl⟩)
        refine PlanTQ.mk M1 (wpT_op rfl ?_)
        go_wp2_with (go_at_call 41; refine (H41.out _).mono ?_; rintro e w' ⟨rfl, hb⟩; replace M1 := M1.call hb)
        refine PlanTQ.mk M1 ?_
        (refine wpT_free rfl rfl (.inl ⟨rfl, fun w _ => by go_simp; rfl⟩) (by assumption) ?_; (conv => arg 6; simp only [Act.put, List.setIfInBounds_toArray, List.set_cons_succ, List.set_cons_zero]))
        (refine wpT_free rfl rfl (.inl ⟨rfl, fun w _ => by go_simp; rfl⟩) (by assumption) ?_; (conv => arg 6; simp only [Act.put, List.setIfInBounds_toArray, List.set_cons_succ, List.set_cons_zero]))
        (refine wpT_free rfl rfl (.inl ⟨rfl, fun w _ => by go_simp; rfl⟩) (by assumption) ?_; (conv => arg 6; simp only [Act.put, List.setIfInBounds_toArray, List.set_cons_succ, List.set_cons_zero]))
        (refine wpT_free rfl rfl (.inl ⟨rfl, fun w _ => by go_simp; rfl⟩) (by assumption) ?_; (conv => arg 6; simp only [Act.put, List.setIfInBounds_toArray, List.set_cons_succ, List.set_cons_zero]))
        (refine wpT_free rfl rfl (.inl ⟨rfl, fun w _ => by go_simp; rfl⟩) (by assumption) ?_; (conv => arg 6; simp only [Act.put, List.setIfInBounds_toArray, List.set_cons_succ, List.set_cons_zero]))
        refine wpT_done ?_
        go_wp2_with (go_at_call 36; refine (alive36 _).mono ?_; rintro e w' ⟨rfl, hb⟩; replace M1 := M1.call hb)
        go_ret
        exact ⟨rfl, M1.below⟩
    · have h1 : ((s.size : Int) != 12) = true := by rw [bne_iff_ne]; omega
      have H40 := hid (fun w' v => Open40_no key s text v w' hk h12 (by omega))
      clear h12 hl hp hkb
      go_wp2_with (first | (go_at_call 40; refine (H40.out _ _).mono ?_; rintro e w' ⟨rfl, hb⟩; replace M' := M'.call hb) | (go_at_call 36; refine (alive36 _).mono ?_; rintro e w' ⟨rfl, hb⟩; replace M' := M'.call hb) | (apply wpList_bxN 4; (· rfl); (· rfl); (· rfl); (· rfl); (· assumption); intro b4 w' M'; (conv => arg 5; simp only [Act.put, List.setIfInBounds_toArray, List.set_cons_succ, List.set_cons_zero])) | (apply wpList_ldrowN Try.underlying23 s23; (· rfl); (· rfl); (· rfl); (· rfl); (· assumption); (· (repeat (first | exact List.mem_cons_self | refine List.mem_cons_of_mem _ ?_))); (· (first | with_reducible assumption | omega | (simp only [nums_length, List.length_set, List.length_replicate]; first | with_reducible assumption | omega) | rfl | (simp [*]; done) | (simp [*]; omega))); (conv => arg 5; simp only [Act.put, List.setIfInBounds_toArray, List.set_cons_succ, List.set_cons_zero])))
      go_ret
      exact ⟨rfl, M'.below⟩
end Go.Proofs.Ytcjfpcajjhccaaa
