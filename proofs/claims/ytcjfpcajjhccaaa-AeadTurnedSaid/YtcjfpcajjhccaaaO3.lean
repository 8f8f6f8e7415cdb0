/- Walks of the onetime layer's laws: OnetimeEnds. -/
import Derived.Test.YtcjfpcajjhccaaaO2
import Derived.Test.YtcjfpcajjhccaaaM7
set_option linter.unusedVariables false
set_option linter.unusedSimpArgs false
namespace Go.Proofs.Ytcjfpcajjhccaaa
open Go.RowKit
theorem digs_key (key : List Int) (hk : key.length = 32) (hkb : digOk 256 key) : digs 256 16 (dv 256 (key.drop 16)) = key.drop 16 := by
  have h := digs_dv (B := 256) (by decide) _ (digOk_drop hkb 16)
  rwa [List.length_drop, hk] at h
theorem accN_zero (bs : List Int) (q : Nat) : accN 0 bs q = 0 := by
  cases q with
  | zero => rfl
  | succ q => rw [accN, Int.mul_zero, Int.zero_emod]
theorem tag_none (key : List Int) (hk : key.length = 32) (hkb : digOk 256 key) : tagK key [] = key.drop 16 := by
  rw [tag_eq key [] hk hkb (fun x hx => by simp at hx), tagV]
  show digs 256 16 (0 + dv 256 (key.drop 16)) = _
  rw [Int.zero_add, digs_key key hk hkb]
def zeroed (key : List Int) : List Int := List.replicate 16 0 ++ key.drop 16
theorem zeroed_length (key : List Int) (hk : key.length = 32) : (zeroed key).length = 32 := by simp [zeroed, hk]
theorem zeroed_ok (key : List Int) (hkb : digOk 256 key) : digOk 256 (zeroed key) := digOk_append (digOk_zeros (by decide) 16) (digOk_drop hkb 16)
theorem zeroed_drop (key : List Int) : (zeroed key).drop 16 = key.drop 16 := by
  rw [zeroed, List.drop_append_of_le_length (by simp)]
  simp
theorem zeroed_clamp (key : List Int) : dv 256 (clampR (zeroed key) 16) = 0 := by
  have e : (zeroed key).take 16 = List.replicate 16 0 := by
    rw [zeroed, List.take_append_of_le_length (by simp)]
    simp
  rw [clampR_take, e]
  decide
theorem tag_zeroed (key bs : List Int) (hk : key.length = 32) (hkb : digOk 256 key) (hb : digOk 256 bs) : tagK (zeroed key) bs = key.drop 16 := by
  rw [tag_eq _ bs (zeroed_length key hk) (zeroed_ok key hkb) hb, tagV, zeroed_clamp, accN_zero, zeroed_drop, Int.zero_add, digs_key key hk hkb]
theorem RowS.none_ (w : World) (A : Option Addr) : RowS w A [] := fun i s h => by simp at h
set_option maxRecDepth 100000 in
set_option maxHeartbeats 1000000 in
theorem OnetimeEnds9 (key : List Int) (text : ByteArray) (w : World) (hk : key.length = 32) (hkb : digOk 256 key) (ht : text.size ≤ maxLen) :
    Calls Try.prog 9 #[.agg (nums .u8 key).toArray, .string text] w fun e w' => e = .returned (.bool true) ∧ Below w.heap.size w w' := by
  have M0 := Mem.start w
  by_cases h2 : text.size ≤ 2000
  · have h2I : ¬ (2000 : Int) < (text.size : Int) := by omega
    have H1 := hid (fun w' => Tag27 key (.slice none 0 0) [] w' hk hkb (fun b hb => .none none 0) (by decide) (fun p h => by simp at h))
    have e1 : tagK key (bytesAll []) = key.drop 16 := tag_none key hk hkb
    rw [e1] at H1
    have H2 := hid (fun (w' : World) (g : Nat) (h : RowS w' (some ⟨g, 0, none⟩) [text]) => Tag27 (zeroed key) (.slice (some ⟨g, 0, none⟩) 1 1) [text] w' (zeroed_length key hk) (zeroed_ok key hkb) (fun b hb => h.strs b hb) (by simp) (fun p h => by simp at h; subst h; omega))
    rw [tag_zeroed key _ hk hkb (bytesAll_ok _)] at H2
    obtain ⟨k2, hk2⟩ : ∃ x, x = zeroed key := ⟨_, rfl⟩
    have lk2 : k2.length = 32 := by rw [hk2, zeroed_length key hk]
    have HK := hid hk2
    have Hkb := hid hkb
    rw [← hk2] at H2
    have hd16 : key.drop 16 = (key.drop 16).take 16 := by rw [List.take_of_length_le]; simp [hk]
    rw [hd16] at H1 H2
    clear hk2 hkb e1 hd16
    go_enter Try.func9, Try.ntmps9
    go_wp2_with (first | (go_at_call 25; refine (alive25 _).mono ?_; rintro e w' ⟨rfl, hb⟩; replace M' := M'.call hb) | (apply wpList_bxN 2; (· rfl); (· rfl); (· rfl); (· rfl); (· assumption); intro b2 w' M'; (conv => arg 5; simp only [Act.put, List.setIfInBounds_toArray, List.set_cons_succ, List.set_cons_zero])) | (apply wpList_alN z23 5; (· rfl); (· rfl); (· rfl); (· assumption); intro b5 w' M'; (conv => arg 5; simp only [Act.put, List.setIfInBounds_toArray, List.set_cons_succ, List.set_cons_zero])) | (apply wpList_ldN Try.underlying5; (· rfl); (· rfl); (· rfl); (· rfl); (· assumption); (· (repeat (first | exact List.mem_cons_self | refine List.mem_cons_of_mem _ ?_))); (· (first | with_reducible assumption | omega | (simp only [nums_length, List.length_set, List.length_replicate]; first | with_reducible assumption | omega) | rfl | (simp [*]; done) | (simp [*]; omega))); (conv => arg 5; simp only [Act.put, List.setIfInBounds_toArray, List.set_cons_succ, List.set_cons_zero])) | (apply wpList_stN s5; (· rfl); (· rfl); (· rfl); (· rfl); (· assumption); (· (repeat (first | exact Swap.head | apply Swap.tail))); (· (first | with_reducible assumption | omega | (simp only [nums_length, List.length_set, List.length_replicate]; first | with_reducible assumption | omega) | rfl | (simp [*]; done) | (simp [*]; omega))); intro w' M'; (conv => arg 5; simp only [Act.put, List.setIfInBounds_toArray, List.set_cons_succ, List.set_cons_zero])) | (apply wpList_wantLd; (· rfl)) | (apply wpList_ldrowN Try.underlying23 s23; (· rfl); (· rfl); (· rfl); (· rfl); (· assumption); (· (repeat (first | exact List.mem_cons_self | refine List.mem_cons_of_mem _ ?_))); (· (first | with_reducible assumption | omega | (simp only [nums_length, List.length_set, List.length_replicate]; first | with_reducible assumption | omega) | rfl | (simp [*]; done) | (simp [*]; omega))); (conv => arg 5; simp only [Act.put, List.setIfInBounds_toArray, List.set_cons_succ, List.set_cons_zero])) | (apply wpList_wantSl; (· rfl)) | (apply wpList_slE Try.underlying23 s5; (· rfl); (· rfl); (· rfl); (· rfl); (· omega); (· omega); (conv => arg 5; simp only [Act.put, List.setIfInBounds_toArray, List.set_cons_succ, List.set_cons_zero, IntWalk.toNatUp, Nat.add_sub_cancel_left, Nat.add_sub_cancel, Nat.zero_add, Nat.add_zero, Nat.sub_zero])) | (apply wpList_wantCv; (· rfl)) | (apply wpList_cvS Try.underlying47 Try.underlying5 Try.underlying9; (· rfl); (· rfl); (· rfl); (· assumption); (· (repeat (first | exact List.mem_cons_self | refine List.mem_cons_of_mem _ ?_))); (· (first | with_reducible assumption | omega | (simp only [nums_length, List.length_set, List.length_replicate]; first | with_reducible assumption | omega) | rfl | (simp [*]; done) | (simp [*]; omega))); (conv => arg 5; simp only [Act.put, List.setIfInBounds_toArray, List.set_cons_succ, List.set_cons_zero])))
    have M2 : Mem w [] w' [.blk b5 (rowO .u8 23 (List.replicate 16 0 ++ (key.drop 16).take 0 ++ List.replicate (16 - 0) 0)), .blk b2 (rowO .u8 23 key)] := M'
    go_loopw [6] (fun n wr => ∃ j i : Nat, n = .int .i64 i ∧ i ≤ 32 ∧ Hid (i = 16 + j) ∧ Mem w [] wr [.blk b5 (rowO .u8 23 (List.replicate 16 0 ++ (key.drop 16).take j ++ List.replicate (16 - j) 0)), .blk b2 (rowO .u8 23 key)]) (fun n _ => 32 - (intOf n).toNat)
    case atStart => exact ⟨0, 16, rfl, by omega, hid rfl, M2⟩
    case round =>
      obtain ⟨j, i, rfl, hi, HI, Mi⟩ := hrel
      clear M2 M'
      by_cases hlt : i < 32
      · have hltI : (i : Int) < 32 := by omega
        have hI := HI.out
        have hs := cut_succ key 16 j (by omega)
        rw [← hI] at hs
        have hf : (List.replicate 16 0 ++ (key.drop 16).take j ++ List.replicate (16 - j) 0).set i (rd key i) = List.replicate 16 0 ++ (key.drop 16).take (j + 1) ++ List.replicate (16 - j - 1) 0 := by
          rw [fill_set _ _ _ _ (by simp; omega) (by omega), hs]
          simp [List.append_assoc]
        have hlen : (List.replicate 16 0 ++ (key.drop 16).take j ++ List.replicate (16 - j) 0).length = 32 := by simp; omega
        have HF := hid hf
        obtain ⟨cu, hcu⟩ : ∃ x, x = List.replicate 16 0 ++ (key.drop 16).take j ++ List.replicate (16 - j) 0 := ⟨_, rfl⟩
        rw [← hcu] at Mi HF hlen
        clear hI hs hf hcu
        go_wp2_with (first | (apply wpList_bxN 2; (· rfl); (· rfl); (· rfl); (· rfl); (· assumption); intro b2 w' M'; (conv => arg 5; simp only [Act.put, List.setIfInBounds_toArray, List.set_cons_succ, List.set_cons_zero])) | (apply wpList_alN z23 5; (· rfl); (· rfl); (· rfl); (· assumption); intro b5 w' M'; (conv => arg 5; simp only [Act.put, List.setIfInBounds_toArray, List.set_cons_succ, List.set_cons_zero])) | (apply wpList_ldN Try.underlying5; (· rfl); (· rfl); (· rfl); (· rfl); (· assumption); (· (repeat (first | exact List.mem_cons_self | refine List.mem_cons_of_mem _ ?_))); (· (first | with_reducible assumption | omega | (simp only [nums_length, List.length_set, List.length_replicate]; first | with_reducible assumption | omega) | rfl | (simp [*]; done) | (simp [*]; omega))); (conv => arg 5; simp only [Act.put, List.setIfInBounds_toArray, List.set_cons_succ, List.set_cons_zero])) | (apply wpList_stN s5; (· rfl); (· rfl); (· rfl); (· rfl); (· assumption); (· (repeat (first | exact Swap.head | apply Swap.tail))); (· (first | with_reducible assumption | omega | (simp only [nums_length, List.length_set, List.length_replicate]; first | with_reducible assumption | omega) | rfl | (simp [*]; done) | (simp [*]; omega))); intro w' M'; (conv => arg 5; simp only [Act.put, List.setIfInBounds_toArray, List.set_cons_succ, List.set_cons_zero])) | (apply wpList_wantLd; (· rfl)) | (apply wpList_ldrowN Try.underlying23 s23; (· rfl); (· rfl); (· rfl); (· rfl); (· assumption); (· (repeat (first | exact List.mem_cons_self | refine List.mem_cons_of_mem _ ?_))); (· (first | with_reducible assumption | omega | (simp only [nums_length, List.length_set, List.length_replicate]; first | with_reducible assumption | omega) | rfl | (simp [*]; done) | (simp [*]; omega))); (conv => arg 5; simp only [Act.put, List.setIfInBounds_toArray, List.set_cons_succ, List.set_cons_zero])) | (apply wpList_wantSl; (· rfl)) | (apply wpList_slE Try.underlying23 s5; (· rfl); (· rfl); (· rfl); (· rfl); (· omega); (· omega); (conv => arg 5; simp only [Act.put, List.setIfInBounds_toArray, List.set_cons_succ, List.set_cons_zero, IntWalk.toNatUp, Nat.add_sub_cancel_left, Nat.add_sub_cancel, Nat.zero_add, Nat.add_zero, Nat.sub_zero])) | (apply wpList_wantCv; (· rfl)) | (apply wpList_cvS Try.underlying47 Try.underlying5 Try.underlying9; (· rfl); (· rfl); (· rfl); (· assumption); (· (repeat (first | exact List.mem_cons_self | refine List.mem_cons_of_mem _ ?_))); (· (first | with_reducible assumption | omega | (simp only [nums_length, List.length_set, List.length_replicate]; first | with_reducible assumption | omega) | rfl | (simp [*]; done) | (simp [*]; omega))); (conv => arg 5; simp only [Act.put, List.setIfInBounds_toArray, List.set_cons_succ, List.set_cons_zero])))
        go_roundw
        case rel => exact ⟨j + 1, i + 1, by go_num, by omega, hid (by rw [HI.out]; omega), by rw [HF.out] at M'; rw [show 16 - (j + 1) = 16 - j - 1 from by omega]; exact M'⟩
        case measure => simp [intOf]; omega
      · obtain rfl : i = 32 := by omega
        obtain rfl : j = 16 := by have := HI.out; omega
        rw [show ((32 : Nat) : Int) = 32 from rfl]
        have M' : Mem w [] wr [.blk b5 (rowO .u8 23 k2), .blk b2 (rowO .u8 23 key)] := by
          rw [HK.out, zeroed]
          rw [List.take_of_length_le (by simp [hk]), Nat.sub_self, List.replicate_zero, List.append_nil] at Mi
          exact Mi
        clear Mi HI
        go_wp2_with fail
        refine wp_region_planH [(false, 0), (true, 1), (true, 2), (true, 4), (true, 5), (false, 3), (true, 6), (true, 7), (true, 8), (true, 9), (true, 10), (true, 13), (true, 14), (false, 11), (false, 12), (true, 15), (true, 16), (true, 17)] (by kernel_rfl) (by kernel_rfl) (fun _ _ _ _ _ h => h) M' (fun w1 M1 => ?_)
        clear M'
        refine wpPlan_op rfl ?_
        go_wp2_with (go_at_call 25; refine (alive25 _).mono ?_; rintro e w' ⟨rfl, hb⟩; replace M1 := M1.call hb)
        refine PlanQ.mk M1 ?_
        (refine wpPlan_free rfl rfl (.inl ⟨rfl, fun w _ => by go_simp; rfl⟩) (by assumption) ?_; (conv => arg 6; simp only [Act.put, List.setIfInBounds_toArray, List.set_cons_succ, List.set_cons_zero]))
        refine wpPlan_free rfl rfl (.inl ⟨rfl, fun w hw => run_ldrowN Try.underlying23 s23 rfl rfl rfl hw (List.mem_cons_of_mem _ List.mem_cons_self) hk⟩) (by assumption) ?_; (conv => arg 6; simp only [Act.put, List.setIfInBounds_toArray, List.set_cons_succ, List.set_cons_zero])
        refine wpPlan_free rfl rfl (.inl ⟨rfl, fun w _ => run_slE Try.underlying23 s5 rfl rfl rfl (by decide) (by decide) w⟩) (by assumption) ?_; (conv => arg 6; simp only [Act.put, List.setIfInBounds_toArray, List.set_cons_succ, List.set_cons_zero, Int.reduceToNat, Nat.reduceSub, Nat.reduceAdd, Nat.zero_add, Nat.sub_zero])
        refine wpPlan_free rfl rfl (.inl ⟨rfl, fun w hw => run_cvS Try.underlying47 Try.underlying5 Try.underlying9 rfl rfl hw (List.mem_cons_of_mem _ List.mem_cons_self) (by rw [hk]; decide)⟩) (by assumption) ?_; (conv => arg 6; simp only [Act.put, List.setIfInBounds_toArray, List.set_cons_succ, List.set_cons_zero])
        refine wpPlan_op rfl ?_
        go_wp2_with (go_at_call 27; refine (H1.out _).mono ?_; rintro e w' ⟨rfl, hb⟩; replace M1 := M1.call hb)
        refine PlanQ.mk M1 ?_
        (refine wpPlan_free rfl rfl (.inl ⟨rfl, fun w _ => by go_simp; rfl⟩) (by assumption) ?_; (conv => arg 6; simp only [Act.put, List.setIfInBounds_toArray, List.set_cons_succ, List.set_cons_zero]))
        (refine wpPlan_free rfl rfl (.inl ⟨rfl, fun w _ => by go_simp; rfl⟩) (by assumption) ?_; (conv => arg 6; simp only [Act.put, List.setIfInBounds_toArray, List.set_cons_succ, List.set_cons_zero]))
        (refine wpPlan_free rfl rfl (.inl ⟨rfl, fun w _ => by go_simp; rfl⟩) (by assumption) ?_; (conv => arg 6; simp only [Act.put, List.setIfInBounds_toArray, List.set_cons_succ, List.set_cons_zero]))
        refine wpPlan_free rfl rfl (.inl ⟨rfl, fun w hw => run_ldrowN Try.underlying23 s23 rfl rfl rfl hw List.mem_cons_self lk2⟩) (by assumption) ?_; (conv => arg 6; simp only [Act.put, List.setIfInBounds_toArray, List.set_cons_succ, List.set_cons_zero])
        (refine wpPlan_free rfl rfl (.inl ⟨rfl, fun w _ => by go_simp; rfl⟩) (by assumption) ?_; (conv => arg 6; simp only [Act.put, List.setIfInBounds_toArray, List.set_cons_succ, List.set_cons_zero]))
        refine wpPlan_free rfl rfl (.inl ⟨rfl, fun w _ => run_slE Try.underlying23 s5 rfl rfl rfl (by decide) (by decide) w⟩) (by assumption) ?_; (conv => arg 6; simp only [Act.put, List.setIfInBounds_toArray, List.set_cons_succ, List.set_cons_zero, Int.reduceToNat, Nat.reduceSub, Nat.reduceAdd, Nat.zero_add, Nat.sub_zero])
        refine wpPlan_free rfl rfl (.inl ⟨rfl, fun w hw => run_cvS Try.underlying47 Try.underlying5 Try.underlying9 rfl rfl hw (List.mem_cons_of_mem _ List.mem_cons_self) (by rw [hk]; decide)⟩) (by assumption) ?_; (conv => arg 6; simp only [Act.put, List.setIfInBounds_toArray, List.set_cons_succ, List.set_cons_zero])
        refine wpPlan_op rfl (wpList_want rfl ?_)
        refine wpList_bsS1 33 rfl rfl rfl rfl M1 (fun b33 w' M3 => ?_)
        have hR := M3.rowStr List.mem_cons_self
        replace M1 := M3.sub (List.sublist_cons_self _ _)
        (conv => arg 5; simp only [Act.put, List.setIfInBounds_toArray, List.set_cons_succ, List.set_cons_zero])
        go_wp2_with fail
        refine PlanQ.mk M1 (wpPlan_op rfl ?_)
        go_wp2_with (go_at_call 27; refine (H2.out _ _ hR).mono ?_; rintro e w' ⟨rfl, hb⟩; replace M1 := M1.call hb)
        refine PlanQ.mk M1 ?_
        (refine wpPlan_free rfl rfl (.inl ⟨rfl, fun w _ => by go_simp; rfl⟩) (by assumption) ?_; (conv => arg 6; simp only [Act.put, List.setIfInBounds_toArray, List.set_cons_succ, List.set_cons_zero]))
        (refine wpPlan_free rfl rfl (.inl ⟨rfl, fun w _ => by go_simp; rfl⟩) (by assumption) ?_; (conv => arg 6; simp only [Act.put, List.setIfInBounds_toArray, List.set_cons_succ, List.set_cons_zero]))
        (refine wpPlan_free rfl rfl (.inl ⟨rfl, fun w _ => by go_simp; rfl⟩) (by assumption) ?_; (conv => arg 6; simp only [Act.put, List.setIfInBounds_toArray, List.set_cons_succ, List.set_cons_zero]))
        refine wpPlan_nil ?_
        go_wp2_with fail
        go_ret
        exact ⟨rfl, M1.below⟩
  · have h2I : (2000 : Int) < (text.size : Int) := by omega
    go_enter Try.func9, Try.ntmps9
    go_wp2_with (first | (go_at_call 25; refine (alive25 _).mono ?_; rintro e w' ⟨rfl, hb⟩; replace M' := M'.call hb) | (apply wpList_bxN 2; (· rfl); (· rfl); (· rfl); (· rfl); (· assumption); intro b2 w' M'; (conv => arg 5; simp only [Act.put, List.setIfInBounds_toArray, List.set_cons_succ, List.set_cons_zero])) | (apply wpList_alN z23 5; (· rfl); (· rfl); (· rfl); (· assumption); intro b5 w' M'; (conv => arg 5; simp only [Act.put, List.setIfInBounds_toArray, List.set_cons_succ, List.set_cons_zero])) | (apply wpList_ldN Try.underlying5; (· rfl); (· rfl); (· rfl); (· rfl); (· assumption); (· (repeat (first | exact List.mem_cons_self | refine List.mem_cons_of_mem _ ?_))); (· (first | with_reducible assumption | omega | (simp only [nums_length, List.length_set, List.length_replicate]; first | with_reducible assumption | omega) | rfl | (simp [*]; done) | (simp [*]; omega))); (conv => arg 5; simp only [Act.put, List.setIfInBounds_toArray, List.set_cons_succ, List.set_cons_zero])) | (apply wpList_stN s5; (· rfl); (· rfl); (· rfl); (· rfl); (· assumption); (· (repeat (first | exact Swap.head | apply Swap.tail))); (· (first | with_reducible assumption | omega | (simp only [nums_length, List.length_set, List.length_replicate]; first | with_reducible assumption | omega) | rfl | (simp [*]; done) | (simp [*]; omega))); intro w' M'; (conv => arg 5; simp only [Act.put, List.setIfInBounds_toArray, List.set_cons_succ, List.set_cons_zero])) | (apply wpList_wantLd; (· rfl)) | (apply wpList_ldrowN Try.underlying23 s23; (· rfl); (· rfl); (· rfl); (· rfl); (· assumption); (· (repeat (first | exact List.mem_cons_self | refine List.mem_cons_of_mem _ ?_))); (· (first | with_reducible assumption | omega | (simp only [nums_length, List.length_set, List.length_replicate]; first | with_reducible assumption | omega) | rfl | (simp [*]; done) | (simp [*]; omega))); (conv => arg 5; simp only [Act.put, List.setIfInBounds_toArray, List.set_cons_succ, List.set_cons_zero])) | (apply wpList_wantSl; (· rfl)) | (apply wpList_slE Try.underlying23 s5; (· rfl); (· rfl); (· rfl); (· rfl); (· omega); (· omega); (conv => arg 5; simp only [Act.put, List.setIfInBounds_toArray, List.set_cons_succ, List.set_cons_zero, IntWalk.toNatUp, Nat.add_sub_cancel_left, Nat.add_sub_cancel, Nat.zero_add, Nat.add_zero, Nat.sub_zero])) | (apply wpList_wantCv; (· rfl)) | (apply wpList_cvS Try.underlying47 Try.underlying5 Try.underlying9; (· rfl); (· rfl); (· rfl); (· assumption); (· (repeat (first | exact List.mem_cons_self | refine List.mem_cons_of_mem _ ?_))); (· (first | with_reducible assumption | omega | (simp only [nums_length, List.length_set, List.length_replicate]; first | with_reducible assumption | omega) | rfl | (simp [*]; done) | (simp [*]; omega))); (conv => arg 5; simp only [Act.put, List.setIfInBounds_toArray, List.set_cons_succ, List.set_cons_zero])))
    go_ret
    exact ⟨rfl, M'.below⟩
end Go.Proofs.Ytcjfpcajjhccaaa
