/- Walks of the aead layer's laws: AeadSeals. -/
import Derived.Test.YtcjfpcajjhccaaaAC
set_option linter.unusedVariables false
set_option linter.unusedSimpArgs false
namespace Go.Proofs.Ytcjfpcajjhccaaa
open Go.RowKit
set_option maxRecDepth 100000 in
theorem AeadSeals13 (key : List Int) (s text : ByteArray) (A : Option Addr) (cap : Nat) (ps : List ByteArray) (w : World) (hk : key.length = 32) (hkb : digOk 256 key) (hs1 : s.size ≤ maxLen) (hs2 : text.size ≤ maxLen) (hA : RowS w A ps) (hn : ps.length ≤ maxLen) (hz : ∀ p ∈ ps, p.size ≤ maxLen) :
    Calls Try.prog 13 #[.agg (nums .u8 key).toArray, .string s, .string text, .slice A ps.length cap] w fun e w' => e = .returned (.bool true) ∧ Below w.heap.size w w' := by
  have M0 := Mem.start w
  unfold maxLen at hs1
  have HG := hid (fun w' (h : RowS w' A ps) => great37 text A cap ps w' h hn hz)
  go_enter Try.func13, Try.ntmps13
  go_wp2_with (first | (go_at_call 36; refine (alive36 _).mono ?_; rintro e w' ⟨rfl, hb⟩; replace M' := M'.call hb) | (apply wpList_bxN 4; (· rfl); (· rfl); (· rfl); (· rfl); (· assumption); intro b4 w' M'; (conv => arg 5; simp only [Act.put, List.setIfInBounds_toArray, List.set_cons_succ, List.set_cons_zero])) | (apply wpList_ldrowN Try.underlying23 s23; (· rfl); (· rfl); (· rfl); (· rfl); (· assumption); (· (repeat (first | exact List.mem_cons_self | refine List.mem_cons_of_mem _ ?_))); (· (first | with_reducible assumption | omega | (simp only [nums_length, List.length_set, List.length_replicate]; first | with_reducible assumption | omega) | rfl | (simp [*]; done) | (simp [*]; omega))); (conv => arg 5; simp only [Act.put, List.setIfInBounds_toArray, List.set_cons_succ, List.set_cons_zero])) | (apply wpList_wantLd; (· rfl)))
  refine (HG.out _ (hA.kept (M'.sub (List.nil_sublist _)))).mono ?_
  rintro e w2 ⟨g, rfl, rfl, hg⟩
  cases g with
  | true =>
    clear hg
    go_wp2_with (go_at_call 36; refine (alive36 _).mono ?_; rintro e w' ⟨rfl, hb⟩; replace M' := M'.call hb)
    go_ret
    exact ⟨rfl, M'.below⟩
  | false =>
    obtain ⟨ht, hl, hp⟩ := hg rfl
    clear hg HG hn hz hs2
    by_cases h12 : s.size = 12
    · have h1 : ((s.size : Int) != 12) = false := by rw [bne_eq_false_iff_eq]; omega
      have hsz := joinAll_size ps 300 hp
      have hjs : (joinAll ps).size ≤ 7000 := by have := Nat.mul_le_mul_right 300 hl; omega
      have H38 := hid (fun w' (h : RowS w' A ps) => Seal38 key s text A cap ps w' hk hkb h12 (by omega) h hl (fun p h => Nat.le_trans (hp p h) (by decide)))
      have H29 := hid (fun w' (h : RowS w' A ps) => Join29 A cap ps w' h (by omega) (fun p h => Nat.le_trans (hp p h) (by decide)))
      have H39 := hid (fun w' => Seal39 key s text (joinAll ps) w' hk hkb h12 (by omega) hjs)
      rw [joinAll_all] at H39
      obtain ⟨bx, hbx⟩ : ∃ x, x = sealS key (bytesOf s) (bytesAll ps) (bytesOf text) := ⟨_, rfl⟩
      obtain ⟨jn, hjn⟩ : ∃ x, x = joinAll ps := ⟨_, rfl⟩
      rw [← hbx] at H38 H39
      rw [← hjn] at H29 H39
      clear hbx hjn hjs hsz hl hp h12 hkb
      go_wp2_with (first | (go_at_call 38; refine (H38.out _ (hA.kept (M'.sub (List.nil_sublist _)))).mono ?_; rintro e w' ⟨rfl, hb⟩; replace M' := M'.call hb) | (apply wpList_bxN 4; (· rfl); (· rfl); (· rfl); (· rfl); (· assumption); intro b4 w' M'; (conv => arg 5; simp only [Act.put, List.setIfInBounds_toArray, List.set_cons_succ, List.set_cons_zero])) | (apply wpList_ldrowN Try.underlying23 s23; (· rfl); (· rfl); (· rfl); (· rfl); (· assumption); (· (repeat (first | exact List.mem_cons_self | refine List.mem_cons_of_mem _ ?_))); (· (first | with_reducible assumption | omega | (simp only [nums_length, List.length_set, List.length_replicate]; first | with_reducible assumption | omega) | rfl | (simp [*]; done) | (simp [*]; omega))); (conv => arg 5; simp only [Act.put, List.setIfInBounds_toArray, List.set_cons_succ, List.set_cons_zero])) | (apply wpList_wantLd; (· rfl)))
      refine wp_region_planT (.one 0 (.free 1 (.free 2 (.free 3 (.free 4 (.free 5 (.free 6 (.free 7 (.free 8 (.free 9 (.free 10 (.one 11 (.one 12 (.free 13 (.free 14 (.free 15 (.done))))))))))))))))) (by kernel_rfl) (by kernel_rfl) (fun _ _ _ _ _ h => h) M' (fun w1 M1 => ?_)
      clear M'
      refine wpT_op rfl ?_
      go_wp2_with (go_at_call 36; refine (alive36 _).mono ?_; rintro e w' ⟨rfl, hb⟩; replace M1 := M1.call hb)
      refine PlanTQ.mk M1 ?_
      (refine wpT_free rfl rfl (.inl ⟨rfl, fun w _ => by go_simp; rfl⟩) (by assumption) ?_; (conv => arg 6; simp only [Act.put, List.setIfInBounds_toArray, List.set_cons_succ, List.set_cons_zero]))
      (refine wpT_free rfl rfl (.inl ⟨rfl, fun w _ => by go_simp; rfl⟩) (by assumption) ?_; (conv => arg 6; simp only [Act.put, List.setIfInBounds_toArray, List.set_cons_succ, List.set_cons_zero]))
      (refine wpT_free rfl rfl (.inl ⟨rfl, fun w _ => by go_simp; rfl⟩) (by assumption) ?_; (conv => arg 6; simp only [Act.put, List.setIfInBounds_toArray, List.set_cons_succ, List.set_cons_zero]))
      (refine wpT_free rfl rfl (.inl ⟨rfl, fun w _ => by go_simp; rfl⟩) (by assumption) ?_; (conv => arg 6; simp only [Act.put, List.setIfInBounds_toArray, List.set_cons_succ, List.set_cons_zero]))
      (refine wpT_free rfl rfl (.inl ⟨rfl, fun w _ => by go_simp; rfl⟩) (by assumption) ?_; (conv => arg 6; simp only [Act.put, List.setIfInBounds_toArray, List.set_cons_succ, List.set_cons_zero]))
      (refine wpT_free rfl rfl (.inl ⟨rfl, fun w _ => by go_simp; rfl⟩) (by assumption) ?_; (conv => arg 6; simp only [Act.put, List.setIfInBounds_toArray, List.set_cons_succ, List.set_cons_zero]))
      refine wpT_free rfl rfl (.inl ⟨rfl, fun w hw => run_ldrowN Try.underlying23 s23 rfl rfl rfl hw List.mem_cons_self hk⟩) (by assumption) ?_; (conv => arg 6; simp only [Act.put, List.setIfInBounds_toArray, List.set_cons_succ, List.set_cons_zero])
      (refine wpT_free rfl rfl (.inl ⟨rfl, fun w _ => by go_simp; rfl⟩) (by assumption) ?_; (conv => arg 6; simp only [Act.put, List.setIfInBounds_toArray, List.set_cons_succ, List.set_cons_zero]))
      (refine wpT_free rfl rfl (.inl ⟨rfl, fun w _ => by go_simp; rfl⟩) (by assumption) ?_; (conv => arg 6; simp only [Act.put, List.setIfInBounds_toArray, List.set_cons_succ, List.set_cons_zero]))
      (refine wpT_free rfl rfl (.inl ⟨rfl, fun w _ => by go_simp; rfl⟩) (by assumption) ?_; (conv => arg 6; simp only [Act.put, List.setIfInBounds_toArray, List.set_cons_succ, List.set_cons_zero]))
      refine wpT_op rfl (wpList_want rfl ?_)
      go_wp2_with (go_at_call 29; refine (H29.out _ (hA.kept (M1.sub (List.nil_sublist _)))).mono ?_; rintro e w' ⟨rfl, rfl⟩)
      refine PlanTQ.mk M1 (wpT_op rfl (wpList_want rfl ?_))
      go_wp2_with (go_at_call 39; refine (H39.out _).mono ?_; rintro e w' ⟨rfl, hb⟩; replace M1 := M1.call hb)
      refine PlanTQ.mk M1 ?_
      (refine wpT_free rfl rfl (.inl ⟨rfl, fun w _ => by go_simp; rfl⟩) (by assumption) ?_; (conv => arg 6; simp only [Act.put, List.setIfInBounds_toArray, List.set_cons_succ, List.set_cons_zero]))
      (refine wpT_free rfl rfl (.inl ⟨rfl, fun w _ => by go_simp; rfl⟩) (by assumption) ?_; (conv => arg 6; simp only [Act.put, List.setIfInBounds_toArray, List.set_cons_succ, List.set_cons_zero]))
      (refine wpT_free rfl rfl (.inl ⟨rfl, fun w _ => by go_simp; rfl⟩) (by assumption) ?_; (conv => arg 6; simp only [Act.put, List.setIfInBounds_toArray, List.set_cons_succ, List.set_cons_zero]))
      refine wpT_done ?_
      go_wp2_with fail
      go_ret
      exact ⟨rfl, M1.below⟩
    · have h1 : ((s.size : Int) != 12) = true := by rw [bne_iff_ne]; omega
      have H38 := hid (fun w' v => Seal38_no key s text v w' hk h12 (by omega))
      clear h12 hl hp hkb
      go_wp2_with (first | (go_at_call 38; refine (H38.out _ _).mono ?_; rintro e w' ⟨rfl, hb⟩; replace M' := M'.call hb) | (go_at_call 36; refine (alive36 _).mono ?_; rintro e w' ⟨rfl, hb⟩; replace M' := M'.call hb) | (apply wpList_bxN 4; (· rfl); (· rfl); (· rfl); (· rfl); (· assumption); intro b4 w' M'; (conv => arg 5; simp only [Act.put, List.setIfInBounds_toArray, List.set_cons_succ, List.set_cons_zero])) | (apply wpList_ldrowN Try.underlying23 s23; (· rfl); (· rfl); (· rfl); (· rfl); (· assumption); (· (repeat (first | exact List.mem_cons_self | refine List.mem_cons_of_mem _ ?_))); (· (first | with_reducible assumption | omega | (simp only [nums_length, List.length_set, List.length_replicate]; first | with_reducible assumption | omega) | rfl | (simp [*]; done) | (simp [*]; omega))); (conv => arg 5; simp only [Act.put, List.setIfInBounds_toArray, List.set_cons_succ, List.set_cons_zero])) | (apply wpList_wantLd; (· rfl)))
      go_ret
      exact ⟨rfl, M'.below⟩
end Go.Proofs.Ytcjfpcajjhccaaa
