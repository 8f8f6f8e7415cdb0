/- Walks of the onetime layer's laws: OnetimeSums. -/
import Derived.Test.YtcjfpcajjhccaaaO6
import Derived.Test.YtcjfpcajjhccaaaM9
set_option linter.unusedVariables false
set_option linter.unusedSimpArgs false
namespace Go.Proofs.Ytcjfpcajjhccaaa
open Go.RowKit
/-- A key without its second half. -/
def halved (key : List Int) : List Int := key.take 16 ++ List.replicate 16 0
theorem halved_length (key : List Int) (hk : key.length = 32) : (halved key).length = 32 := by simp [halved, hk]
theorem halved_ok (key : List Int) (hkb : digOk 256 key) : digOk 256 (halved key) := digOk_append (digOk_take hkb 16) (digOk_zeros (by decide) 16)
theorem halved_drop (key : List Int) (hk : key.length = 32) : (halved key).drop 16 = List.replicate 16 0 := by
  rw [halved, List.drop_append_of_le_length (by simp [hk]), List.drop_of_length_le (by simp; omega)]
  rfl
theorem halved_clamp (key : List Int) (hk : key.length = 32) : clampR (halved key) 16 = clampR key 16 := by
  rw [clampR_take (halved key), clampR_take key]
  congr 1
  rw [halved, List.take_append_of_le_length (by simp [hk]), List.take_of_length_le (by simp; omega)]
/-- The tag of one block under such a key. -/
theorem tag_halved (key x : List Int) (hk : key.length = 32) (hkb : digOk 256 key) (hx : digOk 256 x) (hl : x.length = 16) :
    tagK (halved key) x = digs 256 16 (dv 256 (clampR key 16) * dv 256 (x ++ [1]) % pp) := by
  have e : (List.replicate 16 (0 : Int)) = List.replicate 16 0 := rfl
  rw [tag_eq _ x (halved_length key hk) (halved_ok key hkb) hx, tagV, halved_clamp key hk, halved_drop key hk, dv_zeros, hl]
  show digs 256 16 ((0 + dv 256 ((x.drop 0).take 16 ++ [1])) * dv 256 (clampR key 16) % pp + 0) = _
  rw [cut_all hl, Int.zero_add, Int.add_zero, Int.mul_comm]
theorem s49' : (Try.prog.info? 49).map (·.size) = some 16 := by kernel_rfl
set_option maxRecDepth 100000 in
set_option maxHeartbeats 4000000 in
theorem OnetimeSums10 (key x y : List Int) (w : World) (hk : key.length = 32) (hkb : digOk 256 key) (hx : x.length = 16) (hxb : digOk 256 x) (hy : y.length = 16) (hyb : digOk 256 y) :
    Calls Try.prog 10 #[.agg (nums .u8 key).toArray, .agg (nums .u8 x).toArray, .agg (nums .u8 y).toArray] w fun e w' => e = .returned (.bool true) ∧ Below w.heap.size w w' := by
  have M0 := Mem.start w
  have hcx := cut_all hx
  have hcy := cut_all hy
  have sx : strOfNums ((x.drop 0).take 16) = strOfNums x := by rw [hcx]
  obtain ⟨xs, hxs⟩ : ∃ s, s = strOfNums ((x.drop 0).take 16) := ⟨_, rfl⟩
  have bxs : bytesOf xs = x := by rw [hxs, sx]; exact bytesOf_str _ hxb
  have zxs : xs.size = 16 := by rw [hxs, sx, strOfNums_size, hx]
  obtain ⟨k2, hk2⟩ : ∃ k, k = halved key := ⟨_, rfl⟩
  have lk2 : k2.length = 32 := by rw [hk2, halved_length key hk]
  have H27 := hid (fun (w' : World) (b : Nat) (h : RowS w' (some ⟨b, 0, none⟩) [xs]) => Tag27 k2 (.slice (some ⟨b, 0, none⟩) 1 1) [xs] w' lk2 (by rw [hk2]; exact halved_ok key hkb) (fun g hg => h.strs g hg) (by simp) (fun p h => by simp at h; subst h; omega))
  have H27k := hid (fun (w' : World) (b : Nat) (h : RowS w' (some ⟨b, 0, none⟩) [xs]) => Tag27 key (.slice (some ⟨b, 0, none⟩) 1 1) [xs] w' hk hkb (fun g hg => h.strs g hg) (by simp) (fun p h => by simp at h; subst h; omega))
  have e1 : bytesAll [xs] = x := by simp [bytesAll, bxs]
  rw [e1] at H27 H27k
  have htag := tag_halved key x hk hkb hxb hx
  rw [← hk2] at htag
  obtain ⟨tg, htg⟩ : ∃ s, s = strOfNums (tagK k2 x) := ⟨_, rfl⟩
  obtain ⟨tk, htk⟩ : ∃ s, s = strOfNums (tagK key x) := ⟨_, rfl⟩
  have btg : bytesOf tg = digs 256 16 (dv 256 (clampR key 16) * dv 256 (x ++ [1]) % pp) := by rw [htg, htag]; exact bytesOf_str _ (digs_ok (by decide) _ _)
  have ztg : tg.size = 16 := by rw [htg, htag, strOfNums_size, digs_length]
  rw [← htg] at H27
  rw [← htk] at H27k
  have HC := hid (fun w => Clamped30 key w hk hkb)
  have lR := clampR_length key 16
  have okR := hid (clampR_ok key hkb 16)
  have HB := hid btg
  obtain ⟨R, hRe⟩ : ∃ x, x = clampR key 16 := ⟨_, rfl⟩
  rw [← hRe] at HC lR okR HB
  have HZ := hid ztg
  have HX := hid hxs
  have HK := hid hk2
  have Hkb := hid hkb
  have Hxb := hid hxb
  clear hRe sx bxs zxs hk2 e1 htag htg htk btg ztg hxs hkb hxb hyb hcx hcy
  go_enter Try.func10, Try.ntmps10
  go_wp2_with (first | (go_at_call 25; refine (alive25 _).mono ?_; rintro e w' ⟨rfl, hb⟩; replace M' := M'.call hb) | (apply wpList_bxN 3; (· rfl); (· rfl); (· rfl); (· rfl); (· assumption); intro b3 w' M'; (conv => arg 5; simp only [Act.put, List.setIfInBounds_toArray, List.set_cons_succ, List.set_cons_zero])) | (apply wpList_bxN 4; (· rfl); (· rfl); (· rfl); (· rfl); (· assumption); intro b4 w' M'; (conv => arg 5; simp only [Act.put, List.setIfInBounds_toArray, List.set_cons_succ, List.set_cons_zero])) | (apply wpList_bxN 5; (· rfl); (· rfl); (· rfl); (· rfl); (· assumption); intro b5 w' M'; (conv => arg 5; simp only [Act.put, List.setIfInBounds_toArray, List.set_cons_succ, List.set_cons_zero])) | (apply wpList_alN z23 7; (· rfl); (· rfl); (· rfl); (· assumption); intro b7 w' M'; (conv => arg 5; simp only [Act.put, List.setIfInBounds_toArray, List.set_cons_succ, List.set_cons_zero])) | (apply wpList_ldN Try.underlying5; (· rfl); (· rfl); (· rfl); (· rfl); (· assumption); (· (repeat (first | exact List.mem_cons_self | refine List.mem_cons_of_mem _ ?_))); (· (first | with_reducible assumption | omega | (simp only [nums_length, List.length_set, List.length_replicate]; first | with_reducible assumption | omega) | rfl | (simp [*]; done) | (simp [*]; omega))); (conv => arg 5; simp only [Act.put, List.setIfInBounds_toArray, List.set_cons_succ, List.set_cons_zero])) | (apply wpList_stN s5; (· rfl); (· rfl); (· rfl); (· rfl); (· assumption); (· (repeat (first | exact Swap.head | apply Swap.tail))); (· (first | with_reducible assumption | omega | (simp only [nums_length, List.length_set, List.length_replicate]; first | with_reducible assumption | omega) | rfl | (simp [*]; done) | (simp [*]; omega))); intro w' M'; (conv => arg 5; simp only [Act.put, List.setIfInBounds_toArray, List.set_cons_succ, List.set_cons_zero])) | (apply wpList_ldrowN Try.underlying23 s23; (· rfl); (· rfl); (· rfl); (· rfl); (· assumption); (· (repeat (first | exact List.mem_cons_self | refine List.mem_cons_of_mem _ ?_))); (· (first | with_reducible assumption | omega | (simp only [nums_length, List.length_set, List.length_replicate]; first | with_reducible assumption | omega) | rfl | (simp [*]; done) | (simp [*]; omega))); (conv => arg 5; simp only [Act.put, List.setIfInBounds_toArray, List.set_cons_succ, List.set_cons_zero])) | (apply wpList_slW Try.underlying49 s5 (by decide); (· rfl); (· rfl); (· rfl); (conv => arg 5; simp only [Act.put, List.setIfInBounds_toArray, List.set_cons_succ, List.set_cons_zero, IntWalk.toNatUp, Nat.add_sub_cancel_left, Nat.add_sub_cancel, Nat.zero_add, Nat.add_zero, Nat.sub_zero])) | (apply wpList_cvV Try.underlying47 Try.underlying5 Try.underlying9; (· rfl); (· rfl); (· rfl); (· assumption); (· (repeat (first | exact List.mem_cons_self | refine List.mem_cons_of_mem _ ?_))); (conv => arg 5; simp only [Act.put, List.setIfInBounds_toArray, List.set_cons_succ, List.set_cons_zero])) | (apply wpList_cvS Try.underlying47 Try.underlying5 Try.underlying9; (· rfl); (· rfl); (· rfl); (· assumption); (· (repeat (first | exact List.mem_cons_self | refine List.mem_cons_of_mem _ ?_))); (· (first | with_reducible assumption | omega | (simp only [nums_length, List.length_set, List.length_replicate]; first | with_reducible assumption | omega) | rfl | (simp [*]; done) | (simp [*]; omega))); (conv => arg 5; simp only [Act.put, List.setIfInBounds_toArray, List.set_cons_succ, List.set_cons_zero])) | (apply wpList_app1 Try.underlying50 i52; (· rfl); (· rfl); (· rfl); (· rfl); (· assumption); (· intro A' cap'; (repeat (first | exact Swap.head | apply Swap.tail))); (· omega); (· omega); intro A' cap' w' M'; (conv => arg 5; simp only [Act.put, List.setIfInBounds_toArray, List.set_cons_succ, List.set_cons_zero])) | (apply wpList_app4 Try.underlying50 i52; (· rfl); (· rfl); (· rfl); (· rfl); (· assumption); (· intro A' cap'; (repeat (first | exact Swap.head | apply Swap.tail))); (· omega); (· omega); intro A' cap' w' M'; (conv => arg 5; simp only [Act.put, List.setIfInBounds_toArray, List.set_cons_succ, List.set_cons_zero])) | (apply wpList_ldN Try.underlying52; (· rfl); (· rfl); (· rfl); (· rfl); (· assumption); (· (repeat (first | exact List.mem_cons_self | refine List.mem_cons_of_mem _ ?_))); (· (first | with_reducible assumption | omega | (simp only [nums_length, List.length_set, List.length_replicate]; first | with_reducible assumption | omega) | rfl | (simp [*]; done) | (simp [*]; omega))); (conv => arg 5; simp only [Act.put, List.setIfInBounds_toArray, List.set_cons_succ, List.set_cons_zero])) | (apply wpList_wantLd; (· rfl)) | (apply wpList_ldrowN Try.underlying49 s49; (· rfl); (· rfl); (· rfl); (· rfl); (· assumption); (· (repeat (first | exact List.mem_cons_self | refine List.mem_cons_of_mem _ ?_))); (· (first | with_reducible assumption | omega | (simp only [nums_length, List.length_set, List.length_replicate]; first | with_reducible assumption | omega) | rfl | (simp [*]; done) | (simp [*]; omega))); (conv => arg 5; simp only [Act.put, List.setIfInBounds_toArray, List.set_cons_succ, List.set_cons_zero])) | (apply wpList_wantSl; (· rfl)) | (apply wpList_wantCv; (· rfl)))
  have M2 : Mem w [] w' [.blk b7 (rowO .u8 23 (key.take 0 ++ List.replicate (32 - 0) 0)), .blk b5 (rowO .u8 49 y), .blk b4 (rowO .u8 49 x), .blk b3 (rowO .u8 23 key)] := M'
  go_loopw [8] (fun n wr => ∃ i : Nat, n = .int .i64 i ∧ i ≤ 16 ∧ Mem w [] wr [.blk b7 (rowO .u8 23 (key.take i ++ List.replicate (32 - i) 0)), .blk b5 (rowO .u8 49 y), .blk b4 (rowO .u8 49 x), .blk b3 (rowO .u8 23 key)]) (fun n _ => 16 - (intOf n).toNat)
  case atStart => exact ⟨0, rfl, by omega, M2⟩
  case round =>
    obtain ⟨i, rfl, hi, Mi⟩ := hrel
    clear M2 M'
    by_cases hlt : i < 16
    · have hltI : (i : Int) < 16 := by omega
      have hf : (key.take i ++ List.replicate (32 - i) 0).set i (rd key i) = key.take (i + 1) ++ List.replicate (32 - i - 1) 0 := by
        rw [fill_set _ _ _ _ (by simp; omega) (by omega), take_rd_succ key i (by omega)]
      have hlen : (key.take i ++ List.replicate (32 - i) 0).length = 32 := by simp; omega
      have HF := hid hf
      obtain ⟨cu, hcu⟩ : ∃ x, x = key.take i ++ List.replicate (32 - i) 0 := ⟨_, rfl⟩
      rw [← hcu] at Mi HF hlen
      clear hf hcu
      go_wp2_with (first | (apply wpList_bxN 3; (· rfl); (· rfl); (· rfl); (· rfl); (· assumption); intro b3 w' M'; (conv => arg 5; simp only [Act.put, List.setIfInBounds_toArray, List.set_cons_succ, List.set_cons_zero])) | (apply wpList_bxN 4; (· rfl); (· rfl); (· rfl); (· rfl); (· assumption); intro b4 w' M'; (conv => arg 5; simp only [Act.put, List.setIfInBounds_toArray, List.set_cons_succ, List.set_cons_zero])) | (apply wpList_bxN 5; (· rfl); (· rfl); (· rfl); (· rfl); (· assumption); intro b5 w' M'; (conv => arg 5; simp only [Act.put, List.setIfInBounds_toArray, List.set_cons_succ, List.set_cons_zero])) | (apply wpList_alN z23 7; (· rfl); (· rfl); (· rfl); (· assumption); intro b7 w' M'; (conv => arg 5; simp only [Act.put, List.setIfInBounds_toArray, List.set_cons_succ, List.set_cons_zero])) | (apply wpList_ldN Try.underlying5; (· rfl); (· rfl); (· rfl); (· rfl); (· assumption); (· (repeat (first | exact List.mem_cons_self | refine List.mem_cons_of_mem _ ?_))); (· (first | with_reducible assumption | omega | (simp only [nums_length, List.length_set, List.length_replicate]; first | with_reducible assumption | omega) | rfl | (simp [*]; done) | (simp [*]; omega))); (conv => arg 5; simp only [Act.put, List.setIfInBounds_toArray, List.set_cons_succ, List.set_cons_zero])) | (apply wpList_stN s5; (· rfl); (· rfl); (· rfl); (· rfl); (· assumption); (· (repeat (first | exact Swap.head | apply Swap.tail))); (· (first | with_reducible assumption | omega | (simp only [nums_length, List.length_set, List.length_replicate]; first | with_reducible assumption | omega) | rfl | (simp [*]; done) | (simp [*]; omega))); intro w' M'; (conv => arg 5; simp only [Act.put, List.setIfInBounds_toArray, List.set_cons_succ, List.set_cons_zero])) | (apply wpList_ldrowN Try.underlying23 s23; (· rfl); (· rfl); (· rfl); (· rfl); (· assumption); (· (repeat (first | exact List.mem_cons_self | refine List.mem_cons_of_mem _ ?_))); (· (first | with_reducible assumption | omega | (simp only [nums_length, List.length_set, List.length_replicate]; first | with_reducible assumption | omega) | rfl | (simp [*]; done) | (simp [*]; omega))); (conv => arg 5; simp only [Act.put, List.setIfInBounds_toArray, List.set_cons_succ, List.set_cons_zero])) | (apply wpList_slW Try.underlying49 s5 (by decide); (· rfl); (· rfl); (· rfl); (conv => arg 5; simp only [Act.put, List.setIfInBounds_toArray, List.set_cons_succ, List.set_cons_zero, IntWalk.toNatUp, Nat.add_sub_cancel_left, Nat.add_sub_cancel, Nat.zero_add, Nat.add_zero, Nat.sub_zero])) | (apply wpList_cvV Try.underlying47 Try.underlying5 Try.underlying9; (· rfl); (· rfl); (· rfl); (· assumption); (· (repeat (first | exact List.mem_cons_self | refine List.mem_cons_of_mem _ ?_))); (conv => arg 5; simp only [Act.put, List.setIfInBounds_toArray, List.set_cons_succ, List.set_cons_zero])) | (apply wpList_cvS Try.underlying47 Try.underlying5 Try.underlying9; (· rfl); (· rfl); (· rfl); (· assumption); (· (repeat (first | exact List.mem_cons_self | refine List.mem_cons_of_mem _ ?_))); (· (first | with_reducible assumption | omega | (simp only [nums_length, List.length_set, List.length_replicate]; first | with_reducible assumption | omega) | rfl | (simp [*]; done) | (simp [*]; omega))); (conv => arg 5; simp only [Act.put, List.setIfInBounds_toArray, List.set_cons_succ, List.set_cons_zero])) | (apply wpList_app1 Try.underlying50 i52; (· rfl); (· rfl); (· rfl); (· rfl); (· assumption); (· intro A' cap'; (repeat (first | exact Swap.head | apply Swap.tail))); (· omega); (· omega); intro A' cap' w' M'; (conv => arg 5; simp only [Act.put, List.setIfInBounds_toArray, List.set_cons_succ, List.set_cons_zero])) | (apply wpList_app4 Try.underlying50 i52; (· rfl); (· rfl); (· rfl); (· rfl); (· assumption); (· intro A' cap'; (repeat (first | exact Swap.head | apply Swap.tail))); (· omega); (· omega); intro A' cap' w' M'; (conv => arg 5; simp only [Act.put, List.setIfInBounds_toArray, List.set_cons_succ, List.set_cons_zero])) | (apply wpList_ldN Try.underlying52; (· rfl); (· rfl); (· rfl); (· rfl); (· assumption); (· (repeat (first | exact List.mem_cons_self | refine List.mem_cons_of_mem _ ?_))); (· (first | with_reducible assumption | omega | (simp only [nums_length, List.length_set, List.length_replicate]; first | with_reducible assumption | omega) | rfl | (simp [*]; done) | (simp [*]; omega))); (conv => arg 5; simp only [Act.put, List.setIfInBounds_toArray, List.set_cons_succ, List.set_cons_zero])) | (apply wpList_wantLd; (· rfl)) | (apply wpList_ldrowN Try.underlying49 s49; (· rfl); (· rfl); (· rfl); (· rfl); (· assumption); (· (repeat (first | exact List.mem_cons_self | refine List.mem_cons_of_mem _ ?_))); (· (first | with_reducible assumption | omega | (simp only [nums_length, List.length_set, List.length_replicate]; first | with_reducible assumption | omega) | rfl | (simp [*]; done) | (simp [*]; omega))); (conv => arg 5; simp only [Act.put, List.setIfInBounds_toArray, List.set_cons_succ, List.set_cons_zero])) | (apply wpList_wantSl; (· rfl)) | (apply wpList_wantCv; (· rfl)))
      go_roundw
      case rel => exact ⟨i + 1, by go_num, by omega, by rw [HF.out] at M'; rw [show 32 - (i + 1) = 32 - i - 1 from by omega]; exact M'⟩
      case measure => simp [intOf]; omega
    · obtain rfl : i = 16 := by omega
      rw [show ((16 : Nat) : Int) = 16 from rfl]
      have M1 : Mem w [] wr [.blk b7 (rowO .u8 23 k2), .blk b5 (rowO .u8 49 y), .blk b4 (rowO .u8 49 x), .blk b3 (rowO .u8 23 key)] := by
        rw [HK.out, halved]
        exact Mi
      clear Mi
      go_wp2_with fail
      refine wp_region_planH [(true, 0), (true, 1), (true, 2), (false, 3), (false, 4), (true, 5)] (by kernel_rfl) (by kernel_rfl) (fun _ _ _ _ _ h => h) M1 (fun w1 M2 => ?_)
      clear M1
      refine wpPlan_free rfl rfl (.inl ⟨rfl, fun w hw => run_ldrowN Try.underlying23 s23 rfl rfl rfl hw List.mem_cons_self lk2⟩) (by assumption) ?_; (conv => arg 6; simp only [Act.put, List.setIfInBounds_toArray, List.set_cons_succ, List.set_cons_zero])
      refine wpPlan_free rfl rfl (.inl ⟨rfl, fun w _ => run_slW Try.underlying49 s5 (by decide) rfl rfl w⟩) (by assumption) ?_; (conv => arg 6; simp only [Act.put, List.setIfInBounds_toArray, List.set_cons_succ, List.set_cons_zero])
      refine wpPlan_free rfl rfl (.inl ⟨rfl, fun w hw => run_cvS Try.underlying47 Try.underlying5 Try.underlying9 rfl rfl hw (List.mem_cons_of_mem _ (List.mem_cons_of_mem _ List.mem_cons_self)) (by rw [hx]; decide)⟩) (by assumption) ?_; (conv => arg 6; simp only [Act.put, List.setIfInBounds_toArray, List.set_cons_succ, List.set_cons_zero])
      rw [← HX.out]
      refine wpPlan_op rfl ?_
      refine wpList_bsS1 30 rfl rfl rfl rfl M2 (fun b30 w' M3 => ?_)
      have hR := M3.rowStr List.mem_cons_self
      replace M2 := M3.sub (List.sublist_cons_self _ _)
      clear M3
      (conv => arg 5; simp only [Act.put, List.setIfInBounds_toArray, List.set_cons_succ, List.set_cons_zero])
      go_wp2_with fail
      refine PlanQ.mk M2 (wpPlan_op rfl ?_)
      go_wp2_with (go_at_call 27; refine (H27.out _ _ hR).mono ?_; rintro e w' ⟨rfl, hb⟩; replace M2 := M2.call hb)
      refine PlanQ.mk M2 ?_
      (refine wpPlan_free rfl rfl (.inl ⟨rfl, fun w _ => by go_simp; rfl⟩) (by assumption) ?_; (conv => arg 6; simp only [Act.put, List.setIfInBounds_toArray, List.set_cons_succ, List.set_cons_zero]))
      refine wpPlan_nil ?_
      clear hR
      go_wp2_with (first | (go_at_call 30; refine (HC.out _).mono ?_; rintro e w' ⟨Zr, cr, rs, rfl, Mr, hrs⟩; subst hrs; replace M2 := M2.join Mr; clear Mr) | (apply wpList_bxN 3; (· rfl); (· rfl); (· rfl); (· rfl); (· assumption); intro b3 w' M'; (conv => arg 5; simp only [Act.put, List.setIfInBounds_toArray, List.set_cons_succ, List.set_cons_zero])) | (apply wpList_bxN 4; (· rfl); (· rfl); (· rfl); (· rfl); (· assumption); intro b4 w' M'; (conv => arg 5; simp only [Act.put, List.setIfInBounds_toArray, List.set_cons_succ, List.set_cons_zero])) | (apply wpList_bxN 5; (· rfl); (· rfl); (· rfl); (· rfl); (· assumption); intro b5 w' M'; (conv => arg 5; simp only [Act.put, List.setIfInBounds_toArray, List.set_cons_succ, List.set_cons_zero])) | (apply wpList_alN z23 7; (· rfl); (· rfl); (· rfl); (· assumption); intro b7 w' M'; (conv => arg 5; simp only [Act.put, List.setIfInBounds_toArray, List.set_cons_succ, List.set_cons_zero])) | (apply wpList_ldN Try.underlying5; (· rfl); (· rfl); (· rfl); (· rfl); (· assumption); (· (repeat (first | exact List.mem_cons_self | refine List.mem_cons_of_mem _ ?_))); (· (first | with_reducible assumption | omega | (simp only [nums_length, List.length_set, List.length_replicate]; first | with_reducible assumption | omega) | rfl | (simp [*]; done) | (simp [*]; omega))); (conv => arg 5; simp only [Act.put, List.setIfInBounds_toArray, List.set_cons_succ, List.set_cons_zero])) | (apply wpList_stN s5; (· rfl); (· rfl); (· rfl); (· rfl); (· assumption); (· (repeat (first | exact Swap.head | apply Swap.tail))); (· (first | with_reducible assumption | omega | (simp only [nums_length, List.length_set, List.length_replicate]; first | with_reducible assumption | omega) | rfl | (simp [*]; done) | (simp [*]; omega))); intro w' M'; (conv => arg 5; simp only [Act.put, List.setIfInBounds_toArray, List.set_cons_succ, List.set_cons_zero])) | (apply wpList_ldrowN Try.underlying23 s23; (· rfl); (· rfl); (· rfl); (· rfl); (· assumption); (· (repeat (first | exact List.mem_cons_self | refine List.mem_cons_of_mem _ ?_))); (· (first | with_reducible assumption | omega | (simp only [nums_length, List.length_set, List.length_replicate]; first | with_reducible assumption | omega) | rfl | (simp [*]; done) | (simp [*]; omega))); (conv => arg 5; simp only [Act.put, List.setIfInBounds_toArray, List.set_cons_succ, List.set_cons_zero])) | (apply wpList_slW Try.underlying49 s5 (by decide); (· rfl); (· rfl); (· rfl); (conv => arg 5; simp only [Act.put, List.setIfInBounds_toArray, List.set_cons_succ, List.set_cons_zero, IntWalk.toNatUp, Nat.add_sub_cancel_left, Nat.add_sub_cancel, Nat.zero_add, Nat.add_zero, Nat.sub_zero])) | (apply wpList_cvV Try.underlying47 Try.underlying5 Try.underlying9; (· rfl); (· rfl); (· rfl); (· assumption); (· (repeat (first | exact List.mem_cons_self | refine List.mem_cons_of_mem _ ?_))); (conv => arg 5; simp only [Act.put, List.setIfInBounds_toArray, List.set_cons_succ, List.set_cons_zero])) | (apply wpList_cvS Try.underlying47 Try.underlying5 Try.underlying9; (· rfl); (· rfl); (· rfl); (· assumption); (· (repeat (first | exact List.mem_cons_self | refine List.mem_cons_of_mem _ ?_))); (· (first | with_reducible assumption | omega | (simp only [nums_length, List.length_set, List.length_replicate]; first | with_reducible assumption | omega) | rfl | (simp [*]; done) | (simp [*]; omega))); (conv => arg 5; simp only [Act.put, List.setIfInBounds_toArray, List.set_cons_succ, List.set_cons_zero])) | (apply wpList_app1 Try.underlying50 i52; (· rfl); (· rfl); (· rfl); (· rfl); (· assumption); (· intro A' cap'; (repeat (first | exact Swap.head | apply Swap.tail))); (· omega); (· omega); intro A' cap' w' M'; (conv => arg 5; simp only [Act.put, List.setIfInBounds_toArray, List.set_cons_succ, List.set_cons_zero])) | (apply wpList_app4 Try.underlying50 i52; (· rfl); (· rfl); (· rfl); (· rfl); (· assumption); (· intro A' cap'; (repeat (first | exact Swap.head | apply Swap.tail))); (· omega); (· omega); intro A' cap' w' M'; (conv => arg 5; simp only [Act.put, List.setIfInBounds_toArray, List.set_cons_succ, List.set_cons_zero])) | (apply wpList_ldN Try.underlying52; (· rfl); (· rfl); (· rfl); (· rfl); (· assumption); (· (repeat (first | exact List.mem_cons_self | refine List.mem_cons_of_mem _ ?_))); (· (first | with_reducible assumption | omega | (simp only [nums_length, List.length_set, List.length_replicate]; first | with_reducible assumption | omega) | rfl | (simp [*]; done) | (simp [*]; omega))); (conv => arg 5; simp only [Act.put, List.setIfInBounds_toArray, List.set_cons_succ, List.set_cons_zero])) | (apply wpList_wantLd; (· rfl)) | (apply wpList_ldrowN Try.underlying49 s49; (· rfl); (· rfl); (· rfl); (· rfl); (· assumption); (· (repeat (first | exact List.mem_cons_self | refine List.mem_cons_of_mem _ ?_))); (· (first | with_reducible assumption | omega | (simp only [nums_length, List.length_set, List.length_replicate]; first | with_reducible assumption | omega) | rfl | (simp [*]; done) | (simp [*]; omega))); (conv => arg 5; simp only [Act.put, List.setIfInBounds_toArray, List.set_cons_succ, List.set_cons_zero])) | (apply wpList_wantSl; (· rfl)) | (apply wpList_wantCv; (· rfl)))
      rw [lR] at M2
      have Mv := M2.nil 52 1
      clear M2
      go_loopw [11, 12] (fun v n wr => ∃ (i : Nat) (Z : Option Addr) (c : Nat), v = .slice Z i c ∧ n = .int .i64 i ∧ i ≤ 16 ∧ Mem w [] wr [.vec Z i c 52 1 (nums .u64 (x.take i)), .vec Zr 16 cr 52 1 (nums .u64 rs), .blk b7 (rowO .u8 23 k2), .blk b5 (rowO .u8 49 y), .blk b4 (rowO .u8 49 x), .blk b3 (rowO .u8 23 key)]) (fun _ n _ => 16 - (intOf n).toNat)
      case atStart => exact ⟨0, none, 0, rfl, rfl, by omega, Mv⟩
      case round =>
        obtain ⟨i, Z, c, rfl, rfl, hi, Mi⟩ := hrel
        clear Mv
        by_cases hlt : i < 16
        · have hltI : (i : Int) < 16 := by omega
          have hs := take_rd_succ x i (by omega)
          have hb := digOk_rd (B := 256) (by decide) Hxb.out i
          have HW := hid (u64_id (rd x i) hb.1 (by omega))
          have HS := hid hs
          clear hs hb
          go_wp2_with (first | (apply wpList_bxN 3; (· rfl); (· rfl); (· rfl); (· rfl); (· assumption); intro b3 w' M'; (conv => arg 5; simp only [Act.put, List.setIfInBounds_toArray, List.set_cons_succ, List.set_cons_zero])) | (apply wpList_bxN 4; (· rfl); (· rfl); (· rfl); (· rfl); (· assumption); intro b4 w' M'; (conv => arg 5; simp only [Act.put, List.setIfInBounds_toArray, List.set_cons_succ, List.set_cons_zero])) | (apply wpList_bxN 5; (· rfl); (· rfl); (· rfl); (· rfl); (· assumption); intro b5 w' M'; (conv => arg 5; simp only [Act.put, List.setIfInBounds_toArray, List.set_cons_succ, List.set_cons_zero])) | (apply wpList_alN z23 7; (· rfl); (· rfl); (· rfl); (· assumption); intro b7 w' M'; (conv => arg 5; simp only [Act.put, List.setIfInBounds_toArray, List.set_cons_succ, List.set_cons_zero])) | (apply wpList_ldN Try.underlying5; (· rfl); (· rfl); (· rfl); (· rfl); (· assumption); (· (repeat (first | exact List.mem_cons_self | refine List.mem_cons_of_mem _ ?_))); (· (first | with_reducible assumption | omega | (simp only [nums_length, List.length_set, List.length_replicate]; first | with_reducible assumption | omega) | rfl | (simp [*]; done) | (simp [*]; omega))); (conv => arg 5; simp only [Act.put, List.setIfInBounds_toArray, List.set_cons_succ, List.set_cons_zero])) | (apply wpList_stN s5; (· rfl); (· rfl); (· rfl); (· rfl); (· assumption); (· (repeat (first | exact Swap.head | apply Swap.tail))); (· (first | with_reducible assumption | omega | (simp only [nums_length, List.length_set, List.length_replicate]; first | with_reducible assumption | omega) | rfl | (simp [*]; done) | (simp [*]; omega))); intro w' M'; (conv => arg 5; simp only [Act.put, List.setIfInBounds_toArray, List.set_cons_succ, List.set_cons_zero])) | (apply wpList_ldrowN Try.underlying23 s23; (· rfl); (· rfl); (· rfl); (· rfl); (· assumption); (· (repeat (first | exact List.mem_cons_self | refine List.mem_cons_of_mem _ ?_))); (· (first | with_reducible assumption | omega | (simp only [nums_length, List.length_set, List.length_replicate]; first | with_reducible assumption | omega) | rfl | (simp [*]; done) | (simp [*]; omega))); (conv => arg 5; simp only [Act.put, List.setIfInBounds_toArray, List.set_cons_succ, List.set_cons_zero])) | (apply wpList_slW Try.underlying49 s5 (by decide); (· rfl); (· rfl); (· rfl); (conv => arg 5; simp only [Act.put, List.setIfInBounds_toArray, List.set_cons_succ, List.set_cons_zero, IntWalk.toNatUp, Nat.add_sub_cancel_left, Nat.add_sub_cancel, Nat.zero_add, Nat.add_zero, Nat.sub_zero])) | (apply wpList_cvV Try.underlying47 Try.underlying5 Try.underlying9; (· rfl); (· rfl); (· rfl); (· assumption); (· (repeat (first | exact List.mem_cons_self | refine List.mem_cons_of_mem _ ?_))); (conv => arg 5; simp only [Act.put, List.setIfInBounds_toArray, List.set_cons_succ, List.set_cons_zero])) | (apply wpList_cvS Try.underlying47 Try.underlying5 Try.underlying9; (· rfl); (· rfl); (· rfl); (· assumption); (· (repeat (first | exact List.mem_cons_self | refine List.mem_cons_of_mem _ ?_))); (· (first | with_reducible assumption | omega | (simp only [nums_length, List.length_set, List.length_replicate]; first | with_reducible assumption | omega) | rfl | (simp [*]; done) | (simp [*]; omega))); (conv => arg 5; simp only [Act.put, List.setIfInBounds_toArray, List.set_cons_succ, List.set_cons_zero])) | (apply wpList_app1 Try.underlying50 i52; (· rfl); (· rfl); (· rfl); (· rfl); (· assumption); (· intro A' cap'; (repeat (first | exact Swap.head | apply Swap.tail))); (· omega); (· omega); intro A' cap' w' M'; (conv => arg 5; simp only [Act.put, List.setIfInBounds_toArray, List.set_cons_succ, List.set_cons_zero])) | (apply wpList_app4 Try.underlying50 i52; (· rfl); (· rfl); (· rfl); (· rfl); (· assumption); (· intro A' cap'; (repeat (first | exact Swap.head | apply Swap.tail))); (· omega); (· omega); intro A' cap' w' M'; (conv => arg 5; simp only [Act.put, List.setIfInBounds_toArray, List.set_cons_succ, List.set_cons_zero])) | (apply wpList_ldN Try.underlying52; (· rfl); (· rfl); (· rfl); (· rfl); (· assumption); (· (repeat (first | exact List.mem_cons_self | refine List.mem_cons_of_mem _ ?_))); (· (first | with_reducible assumption | omega | (simp only [nums_length, List.length_set, List.length_replicate]; first | with_reducible assumption | omega) | rfl | (simp [*]; done) | (simp [*]; omega))); (conv => arg 5; simp only [Act.put, List.setIfInBounds_toArray, List.set_cons_succ, List.set_cons_zero])) | (apply wpList_wantLd; (· rfl)) | (apply wpList_ldrowN Try.underlying49 s49; (· rfl); (· rfl); (· rfl); (· rfl); (· assumption); (· (repeat (first | exact List.mem_cons_self | refine List.mem_cons_of_mem _ ?_))); (· (first | with_reducible assumption | omega | (simp only [nums_length, List.length_set, List.length_replicate]; first | with_reducible assumption | omega) | rfl | (simp [*]; done) | (simp [*]; omega))); (conv => arg 5; simp only [Act.put, List.setIfInBounds_toArray, List.set_cons_succ, List.set_cons_zero])) | (apply wpList_wantSl; (· rfl)) | (apply wpList_wantCv; (· rfl)))
          go_roundw
          case rel => exact ⟨i + 1, A', cap', rfl, by go_num, by omega, by rw [HW.out] at M'; rw [HS.out]; exact M'⟩
          case measure => simp [intOf]; omega
        · obtain rfl : i = 16 := by omega
          rw [show ((16 : Nat) : Int) = 16 from rfl]
          rw [List.take_of_length_le (by omega)] at Mi
          go_wp2_with (first | (apply wpList_bxN 3; (· rfl); (· rfl); (· rfl); (· rfl); (· assumption); intro b3 w' M'; (conv => arg 5; simp only [Act.put, List.setIfInBounds_toArray, List.set_cons_succ, List.set_cons_zero])) | (apply wpList_bxN 4; (· rfl); (· rfl); (· rfl); (· rfl); (· assumption); intro b4 w' M'; (conv => arg 5; simp only [Act.put, List.setIfInBounds_toArray, List.set_cons_succ, List.set_cons_zero])) | (apply wpList_bxN 5; (· rfl); (· rfl); (· rfl); (· rfl); (· assumption); intro b5 w' M'; (conv => arg 5; simp only [Act.put, List.setIfInBounds_toArray, List.set_cons_succ, List.set_cons_zero])) | (apply wpList_alN z23 7; (· rfl); (· rfl); (· rfl); (· assumption); intro b7 w' M'; (conv => arg 5; simp only [Act.put, List.setIfInBounds_toArray, List.set_cons_succ, List.set_cons_zero])) | (apply wpList_ldN Try.underlying5; (· rfl); (· rfl); (· rfl); (· rfl); (· assumption); (· (repeat (first | exact List.mem_cons_self | refine List.mem_cons_of_mem _ ?_))); (· (first | with_reducible assumption | omega | (simp only [nums_length, List.length_set, List.length_replicate]; first | with_reducible assumption | omega) | rfl | (simp [*]; done) | (simp [*]; omega))); (conv => arg 5; simp only [Act.put, List.setIfInBounds_toArray, List.set_cons_succ, List.set_cons_zero])) | (apply wpList_stN s5; (· rfl); (· rfl); (· rfl); (· rfl); (· assumption); (· (repeat (first | exact Swap.head | apply Swap.tail))); (· (first | with_reducible assumption | omega | (simp only [nums_length, List.length_set, List.length_replicate]; first | with_reducible assumption | omega) | rfl | (simp [*]; done) | (simp [*]; omega))); intro w' M'; (conv => arg 5; simp only [Act.put, List.setIfInBounds_toArray, List.set_cons_succ, List.set_cons_zero])) | (apply wpList_ldrowN Try.underlying23 s23; (· rfl); (· rfl); (· rfl); (· rfl); (· assumption); (· (repeat (first | exact List.mem_cons_self | refine List.mem_cons_of_mem _ ?_))); (· (first | with_reducible assumption | omega | (simp only [nums_length, List.length_set, List.length_replicate]; first | with_reducible assumption | omega) | rfl | (simp [*]; done) | (simp [*]; omega))); (conv => arg 5; simp only [Act.put, List.setIfInBounds_toArray, List.set_cons_succ, List.set_cons_zero])) | (apply wpList_slW Try.underlying49 s5 (by decide); (· rfl); (· rfl); (· rfl); (conv => arg 5; simp only [Act.put, List.setIfInBounds_toArray, List.set_cons_succ, List.set_cons_zero, IntWalk.toNatUp, Nat.add_sub_cancel_left, Nat.add_sub_cancel, Nat.zero_add, Nat.add_zero, Nat.sub_zero])) | (apply wpList_cvV Try.underlying47 Try.underlying5 Try.underlying9; (· rfl); (· rfl); (· rfl); (· assumption); (· (repeat (first | exact List.mem_cons_self | refine List.mem_cons_of_mem _ ?_))); (conv => arg 5; simp only [Act.put, List.setIfInBounds_toArray, List.set_cons_succ, List.set_cons_zero])) | (apply wpList_cvS Try.underlying47 Try.underlying5 Try.underlying9; (· rfl); (· rfl); (· rfl); (· assumption); (· (repeat (first | exact List.mem_cons_self | refine List.mem_cons_of_mem _ ?_))); (· (first | with_reducible assumption | omega | (simp only [nums_length, List.length_set, List.length_replicate]; first | with_reducible assumption | omega) | rfl | (simp [*]; done) | (simp [*]; omega))); (conv => arg 5; simp only [Act.put, List.setIfInBounds_toArray, List.set_cons_succ, List.set_cons_zero])) | (apply wpList_app1 Try.underlying50 i52; (· rfl); (· rfl); (· rfl); (· rfl); (· assumption); (· intro A' cap'; (repeat (first | exact Swap.head | apply Swap.tail))); (· omega); (· omega); intro A' cap' w' M'; (conv => arg 5; simp only [Act.put, List.setIfInBounds_toArray, List.set_cons_succ, List.set_cons_zero])) | (apply wpList_app4 Try.underlying50 i52; (· rfl); (· rfl); (· rfl); (· rfl); (· assumption); (· intro A' cap'; (repeat (first | exact Swap.head | apply Swap.tail))); (· omega); (· omega); intro A' cap' w' M'; (conv => arg 5; simp only [Act.put, List.setIfInBounds_toArray, List.set_cons_succ, List.set_cons_zero])) | (apply wpList_ldN Try.underlying52; (· rfl); (· rfl); (· rfl); (· rfl); (· assumption); (· (repeat (first | exact List.mem_cons_self | refine List.mem_cons_of_mem _ ?_))); (· (first | with_reducible assumption | omega | (simp only [nums_length, List.length_set, List.length_replicate]; first | with_reducible assumption | omega) | rfl | (simp [*]; done) | (simp [*]; omega))); (conv => arg 5; simp only [Act.put, List.setIfInBounds_toArray, List.set_cons_succ, List.set_cons_zero])) | (apply wpList_wantLd; (· rfl)) | (apply wpList_ldrowN Try.underlying49 s49; (· rfl); (· rfl); (· rfl); (· rfl); (· assumption); (· (repeat (first | exact List.mem_cons_self | refine List.mem_cons_of_mem _ ?_))); (· (first | with_reducible assumption | omega | (simp only [nums_length, List.length_set, List.length_replicate]; first | with_reducible assumption | omega) | rfl | (simp [*]; done) | (simp [*]; omega))); (conv => arg 5; simp only [Act.put, List.setIfInBounds_toArray, List.set_cons_succ, List.set_cons_zero])) | (apply wpList_wantSl; (· rfl)) | (apply wpList_wantCv; (· rfl)))
          have r1 := (M'.rowR (List.mem_cons_of_mem _ List.mem_cons_self)).1
          have r2 := (M'.rowR List.mem_cons_self).1
          have ok1 : digOk 256 (x ++ [1]) := digOk_append Hxb.out (fun v hv => by simp at hv; omega)
          have HTI := Times32 Zr A' cr cap' rs (x ++ [1]) _ r1 r2 okR.out ok1 (by omega) (by simp; omega)
          have l17 : (x ++ [1] : List Int).length = 17 := by simp [hx]
          rw [lR, l17] at HTI
          refine HTI.mono ?_; rintro e w2 ⟨Z3, c3, p2, rfl, M2, o2, v2, l2⟩
          have Mq2 := M'.join M2
          have r3 := (Mq2.rowR List.mem_cons_self).1
          have HRE := Rest31 Z3 c3 p2 _ r3 o2 100 (by omega) (by omega) (by omega)
          have V2 := hid v2
          clear HTI v2 l2 l17 r1 r2 M2 Mi M' ok1
          go_wp2_with fail
          refine HRE.mono ?_; rintro e w3 ⟨Z4, c4, zs, rfl, hb, r4, o3, v3, l3⟩
          have M5 : Mem w [] w3 [.blk b7 (rowO .u8 23 k2), .blk b5 (rowO .u8 49 y), .blk b4 (rowO .u8 49 x), .blk b3 (rowO .u8 23 key)] := (Mq2.call hb).sub (List.Sublist.cons _ (List.Sublist.cons _ (List.Sublist.cons _ (List.Sublist.refl _))))
          have HD : Hid (∀ i, i < 16 → rd (bytesOf tg) i = rd zs i) := hid (fun i hi => by
            rw [HB.out, digs_rd (by decide) 16 _ i hi, ← digit_any o3 i, v3, V2.out])
          clear HRE v3 V2 Mq2 hb r3
          go_wp2_with fail
          have ztg := HZ.out
          go_loop [14] (fun n => ∃ i : Nat, n = .int .i64 i ∧ i ≤ 16) (fun n => 16 - (intOf n).toNat)
          case atStart => exact ⟨0, rfl, by omega⟩
          case round =>
            obtain ⟨i, rfl, hi⟩ := hrel
            by_cases hlt : i < 16
            · have hltI : (i : Int) < 16 := by omega
              have hd := HD.out i hlt
              have hb := digOk_rd (B := 256) (by decide) o3 i
              have hit : i < tg.size := by omega
              have hitI : (i : Int) < (tg.size : Int) := by omega
              obtain ⟨y0, y1⟩ := hb
              by_cases hiz : i < zs.length
              · have hizI : (i : Int) < (zs.length : Int) := by omega
                obtain ⟨b, off, rfl, hc⟩ := r4.at hiz
                obtain ⟨u, hu⟩ : ∃ u, u = rd zs i := ⟨_, rfl⟩
                rw [← hu] at hd hc y0 y1
                clear hu ztg
                go_wp2_with fail
                go_round
                case rel => exact ⟨i + 1, by go_num, by omega⟩
                case measure => simp [intOf]; omega
              · have hizI : ¬ (i : Int) < (zs.length : Int) := by omega
                rw [rd_out zs i (by omega)] at hd y0 y1
                clear ztg
                go_wp2_with fail
                go_round
                case rel => exact ⟨i + 1, by go_num, by omega⟩
                case measure => simp [intOf]; omega
            · obtain rfl : i = 16 := by omega
              rw [show ((16 : Nat) : Int) = 16 from rfl]
              clear ztg
              go_wp2_with fail
              by_cases hxy : x = y
              · subst hxy
                refine wp_region_planT (.one 0 (.free 1 (.free 2 (.free 3 (.free 4 (.free 5 (.free 6 (.free 7 (.free 8 (.free 11 (.free 12 (.free 13 (.two 9 (.two 10 (.one 14 (.one 15 (.free 16 (.free 17 (.free 18 (.free 19 (.done))))))) 14 (.one 10 (.one 15 (.free 16 (.free 17 (.free 18 (.free 19 (.done)))))))) 14 (.one 9 (.one 10 (.one 15 (.free 16 (.free 17 (.free 18 (.free 19 (.done))))))))))))))))))))) (by kernel_rfl) (by kernel_rfl) (fun _ _ _ _ _ h => h) M5 (fun w1 M3 => ?_)
                clear M5
                refine wpT_op rfl ?_
                go_wp2_with (go_at_call 25; refine (alive25 _).mono ?_; rintro e w' ⟨rfl, hb⟩; replace M3 := M3.call hb)
                refine PlanTQ.mk M3 ?_
                (refine wpT_free rfl rfl (.inl ⟨rfl, fun w _ => by go_simp; rfl⟩) (by assumption) ?_; (conv => arg 6; simp only [Act.put, List.setIfInBounds_toArray, List.set_cons_succ, List.set_cons_zero]))
                refine wpT_free rfl rfl (.inl ⟨rfl, fun w hw => run_ldrowN Try.underlying49 s49 rfl rfl rfl hw (List.mem_cons_of_mem _ (List.mem_cons_of_mem _ List.mem_cons_self)) hx⟩) (by assumption) ?_; (conv => arg 6; simp only [Act.put, List.setIfInBounds_toArray, List.set_cons_succ, List.set_cons_zero])
                refine wpT_free rfl rfl (.inl ⟨rfl, fun w hw => run_ldrowN Try.underlying49 s49 rfl rfl rfl hw (List.mem_cons_of_mem _ List.mem_cons_self) hx⟩) (by assumption) ?_; (conv => arg 6; simp only [Act.put, List.setIfInBounds_toArray, List.set_cons_succ, List.set_cons_zero])
                refine wpT_free rfl rfl (.inl ⟨rfl, fun w _ => (run_neq49 rfl rfl rfl hx hx w).trans (by rw [decide_eq_true (rfl : x = x)])⟩) (by assumption) ?_; (conv => arg 6; simp only [Act.put, List.setIfInBounds_toArray, List.set_cons_succ, List.set_cons_zero])
                (refine wpT_free rfl rfl (.inl ⟨rfl, fun w _ => by go_simp; rfl⟩) (by assumption) ?_; (conv => arg 6; simp only [Act.put, List.setIfInBounds_toArray, List.set_cons_succ, List.set_cons_zero]))
                refine wpT_free rfl rfl (.inl ⟨rfl, fun w hw => run_ldrowN Try.underlying23 s23 rfl rfl rfl hw (List.mem_cons_of_mem _ (List.mem_cons_of_mem _ (List.mem_cons_of_mem _ List.mem_cons_self))) hk⟩) (by assumption) ?_; (conv => arg 6; simp only [Act.put, List.setIfInBounds_toArray, List.set_cons_succ, List.set_cons_zero])
                refine wpT_free rfl rfl (.inl ⟨rfl, fun w _ => run_slW Try.underlying49 s5 (by decide) rfl rfl w⟩) (by assumption) ?_; (conv => arg 6; simp only [Act.put, List.setIfInBounds_toArray, List.set_cons_succ, List.set_cons_zero])
                refine wpT_free rfl rfl (.inl ⟨rfl, fun w hw => run_cvS Try.underlying47 Try.underlying5 Try.underlying9 rfl rfl hw (List.mem_cons_of_mem _ (List.mem_cons_of_mem _ List.mem_cons_self)) (by rw [hx]; decide)⟩) (by assumption) ?_; (conv => arg 6; simp only [Act.put, List.setIfInBounds_toArray, List.set_cons_succ, List.set_cons_zero])
                rw [← HX.out]
                refine wpT_free rfl rfl (.inl ⟨rfl, fun w hw => run_ldrowN Try.underlying23 s23 rfl rfl rfl hw (List.mem_cons_of_mem _ (List.mem_cons_of_mem _ (List.mem_cons_of_mem _ List.mem_cons_self))) hk⟩) (by assumption) ?_; (conv => arg 6; simp only [Act.put, List.setIfInBounds_toArray, List.set_cons_succ, List.set_cons_zero])
                refine wpT_free rfl rfl (.inl ⟨rfl, fun w _ => run_slW Try.underlying49 s5 (by decide) rfl rfl w⟩) (by assumption) ?_; (conv => arg 6; simp only [Act.put, List.setIfInBounds_toArray, List.set_cons_succ, List.set_cons_zero])
                refine wpT_free rfl rfl (.inl ⟨rfl, fun w hw => run_cvS Try.underlying47 Try.underlying5 Try.underlying9 rfl rfl hw (List.mem_cons_of_mem _ List.mem_cons_self) (by rw [hx]; decide)⟩) (by assumption) ?_; (conv => arg 6; simp only [Act.put, List.setIfInBounds_toArray, List.set_cons_succ, List.set_cons_zero])
                rw [← HX.out]
                refine wpT_two rfl rfl ?_ ?_
                ·
                  refine wpList_want rfl ?_
                  refine wpList_bsS1 79 rfl rfl rfl rfl M3 (fun b79 w' M4 => ?_)
                  replace M3 := M4
                  clear M4
                  (conv => arg 5; simp only [Act.put, List.setIfInBounds_toArray, List.set_cons_succ, List.set_cons_zero])
                  go_wp2_with fail
                  refine PlanTQ.mk (M3.sub (by repeat (first | exact List.Sublist.refl _ | apply List.Sublist.cons))) ?_
                  refine wpT_two rfl rfl ?_ ?_
                  ·
                    go_wp2_with (go_at_call 27; refine (H27k.out _ _ (M3.rowStr (by repeat (first | exact List.mem_cons_self | apply List.mem_cons_of_mem)))).mono ?_; rintro e w' ⟨rfl, hb⟩; replace M3 := M3.call hb)
                    refine PlanTQ.mk (M3.sub (by repeat (first | exact List.Sublist.refl _ | apply List.Sublist.cons))) ?_
                    refine wpT_op rfl ?_
                    refine wpList_want rfl ?_
                    refine wpList_bsS1 84 rfl rfl rfl rfl M3 (fun b84 w' M4 => ?_)
                    replace M3 := M4
                    clear M4
                    (conv => arg 5; simp only [Act.put, List.setIfInBounds_toArray, List.set_cons_succ, List.set_cons_zero])
                    go_wp2_with fail
                    refine PlanTQ.mk (M3.sub (by repeat (first | exact List.Sublist.refl _ | apply List.Sublist.cons))) ?_
                    refine wpT_op rfl ?_
                    go_wp2_with (go_at_call 27; refine (H27k.out _ _ (M3.rowStr (by repeat (first | exact List.mem_cons_self | apply List.mem_cons_of_mem)))).mono ?_; rintro e w' ⟨rfl, hb⟩; replace M3 := M3.call hb)
                    refine PlanTQ.mk (M3.sub (by repeat (first | exact List.Sublist.refl _ | apply List.Sublist.cons))) ?_
                    have hS := ((M3.sub (by repeat (first | exact List.Sublist.refl _ | apply List.Sublist.cons))) : Mem w [] _ [.blk b7 (rowO .u8 23 k2), .blk b5 (rowO .u8 49 x), .blk b4 (rowO .u8 49 x), .blk b3 (rowO .u8 23 key)])
                    (refine wpT_free rfl rfl (.inl ⟨rfl, fun w _ => by go_simp; rfl⟩) (by assumption) ?_; (conv => arg 6; simp only [Act.put, List.setIfInBounds_toArray, List.set_cons_succ, List.set_cons_zero]))
                    (refine wpT_free rfl rfl (.inl ⟨rfl, fun w _ => by go_simp; rfl⟩) (by assumption) ?_; (conv => arg 6; simp only [Act.put, List.setIfInBounds_toArray, List.set_cons_succ, List.set_cons_zero]))
                    (refine wpT_free rfl rfl (.inl ⟨rfl, fun w _ => by go_simp; rfl⟩) (by assumption) ?_; (conv => arg 6; simp only [Act.put, List.setIfInBounds_toArray, List.set_cons_succ, List.set_cons_zero]))
                    (refine wpT_free rfl rfl (.inl ⟨rfl, fun w _ => by go_simp; rfl⟩) (by assumption) ?_; (conv => arg 6; simp only [Act.put, List.setIfInBounds_toArray, List.set_cons_succ, List.set_cons_zero]))
                    refine wpT_done ?_
                    go_wp2_with fail
                    go_ret
                    exact ⟨rfl, M3.below⟩
                  ·
                    refine wpList_want rfl ?_
                    refine wpList_bsS1 84 rfl rfl rfl rfl M3 (fun b84 w' M4 => ?_)
                    replace M3 := M4
                    clear M4
                    (conv => arg 5; simp only [Act.put, List.setIfInBounds_toArray, List.set_cons_succ, List.set_cons_zero])
                    go_wp2_with fail
                    refine PlanTQ.mk (M3.sub (by repeat (first | exact List.Sublist.refl _ | apply List.Sublist.cons))) ?_
                    refine wpT_op rfl ?_
                    go_wp2_with (go_at_call 27; refine (H27k.out _ _ (M3.rowStr (by repeat (first | exact List.mem_cons_self | apply List.mem_cons_of_mem)))).mono ?_; rintro e w' ⟨rfl, hb⟩; replace M3 := M3.call hb)
                    refine PlanTQ.mk (M3.sub (by repeat (first | exact List.Sublist.refl _ | apply List.Sublist.cons))) ?_
                    refine wpT_op rfl ?_
                    go_wp2_with (go_at_call 27; refine (H27k.out _ _ (M3.rowStr (by repeat (first | exact List.mem_cons_self | apply List.mem_cons_of_mem)))).mono ?_; rintro e w' ⟨rfl, hb⟩; replace M3 := M3.call hb)
                    refine PlanTQ.mk (M3.sub (by repeat (first | exact List.Sublist.refl _ | apply List.Sublist.cons))) ?_
                    have hS := ((M3.sub (by repeat (first | exact List.Sublist.refl _ | apply List.Sublist.cons))) : Mem w [] _ [.blk b7 (rowO .u8 23 k2), .blk b5 (rowO .u8 49 x), .blk b4 (rowO .u8 49 x), .blk b3 (rowO .u8 23 key)])
                    (refine wpT_free rfl rfl (.inl ⟨rfl, fun w _ => by go_simp; rfl⟩) (by assumption) ?_; (conv => arg 6; simp only [Act.put, List.setIfInBounds_toArray, List.set_cons_succ, List.set_cons_zero]))
                    (refine wpT_free rfl rfl (.inl ⟨rfl, fun w _ => by go_simp; rfl⟩) (by assumption) ?_; (conv => arg 6; simp only [Act.put, List.setIfInBounds_toArray, List.set_cons_succ, List.set_cons_zero]))
                    (refine wpT_free rfl rfl (.inl ⟨rfl, fun w _ => by go_simp; rfl⟩) (by assumption) ?_; (conv => arg 6; simp only [Act.put, List.setIfInBounds_toArray, List.set_cons_succ, List.set_cons_zero]))
                    (refine wpT_free rfl rfl (.inl ⟨rfl, fun w _ => by go_simp; rfl⟩) (by assumption) ?_; (conv => arg 6; simp only [Act.put, List.setIfInBounds_toArray, List.set_cons_succ, List.set_cons_zero]))
                    refine wpT_done ?_
                    go_wp2_with fail
                    go_ret
                    exact ⟨rfl, M3.below⟩
                ·
                  refine wpList_want rfl ?_
                  refine wpList_bsS1 84 rfl rfl rfl rfl M3 (fun b84 w' M4 => ?_)
                  replace M3 := M4
                  clear M4
                  (conv => arg 5; simp only [Act.put, List.setIfInBounds_toArray, List.set_cons_succ, List.set_cons_zero])
                  go_wp2_with fail
                  refine PlanTQ.mk (M3.sub (by repeat (first | exact List.Sublist.refl _ | apply List.Sublist.cons))) ?_
                  refine wpT_op rfl ?_
                  refine wpList_want rfl ?_
                  refine wpList_bsS1 79 rfl rfl rfl rfl M3 (fun b79 w' M4 => ?_)
                  replace M3 := M4
                  clear M4
                  (conv => arg 5; simp only [Act.put, List.setIfInBounds_toArray, List.set_cons_succ, List.set_cons_zero])
                  go_wp2_with fail
                  refine PlanTQ.mk (M3.sub (by repeat (first | exact List.Sublist.refl _ | apply List.Sublist.cons))) ?_
                  refine wpT_op rfl ?_
                  go_wp2_with (go_at_call 27; refine (H27k.out _ _ (M3.rowStr (by repeat (first | exact List.mem_cons_self | apply List.mem_cons_of_mem)))).mono ?_; rintro e w' ⟨rfl, hb⟩; replace M3 := M3.call hb)
                  refine PlanTQ.mk (M3.sub (by repeat (first | exact List.Sublist.refl _ | apply List.Sublist.cons))) ?_
                  refine wpT_op rfl ?_
                  go_wp2_with (go_at_call 27; refine (H27k.out _ _ (M3.rowStr (by repeat (first | exact List.mem_cons_self | apply List.mem_cons_of_mem)))).mono ?_; rintro e w' ⟨rfl, hb⟩; replace M3 := M3.call hb)
                  refine PlanTQ.mk (M3.sub (by repeat (first | exact List.Sublist.refl _ | apply List.Sublist.cons))) ?_
                  have hS := ((M3.sub (by repeat (first | exact List.Sublist.refl _ | apply List.Sublist.cons))) : Mem w [] _ [.blk b7 (rowO .u8 23 k2), .blk b5 (rowO .u8 49 x), .blk b4 (rowO .u8 49 x), .blk b3 (rowO .u8 23 key)])
                  (refine wpT_free rfl rfl (.inl ⟨rfl, fun w _ => by go_simp; rfl⟩) (by assumption) ?_; (conv => arg 6; simp only [Act.put, List.setIfInBounds_toArray, List.set_cons_succ, List.set_cons_zero]))
                  (refine wpT_free rfl rfl (.inl ⟨rfl, fun w _ => by go_simp; rfl⟩) (by assumption) ?_; (conv => arg 6; simp only [Act.put, List.setIfInBounds_toArray, List.set_cons_succ, List.set_cons_zero]))
                  (refine wpT_free rfl rfl (.inl ⟨rfl, fun w _ => by go_simp; rfl⟩) (by assumption) ?_; (conv => arg 6; simp only [Act.put, List.setIfInBounds_toArray, List.set_cons_succ, List.set_cons_zero]))
                  (refine wpT_free rfl rfl (.inl ⟨rfl, fun w _ => by go_simp; rfl⟩) (by assumption) ?_; (conv => arg 6; simp only [Act.put, List.setIfInBounds_toArray, List.set_cons_succ, List.set_cons_zero]))
                  refine wpT_done ?_
                  go_wp2_with fail
                  go_ret
                  exact ⟨rfl, M3.below⟩
              · refine wp_region_planT (.one 0 (.free 1 (.free 2 (.free 3 (.free 4 (.free 5 (.free 6 (.free 7 (.free 8 (.free 9 (.free 10 (.free 11 (.free 12 (.free 13 (.free 14 (.free 15 (.free 16 (.free 17 (.free 18 (.free 19 (.done))))))))))))))))))))) (by kernel_rfl) (by kernel_rfl) (fun _ _ _ _ _ h => h) M5 (fun w1 M3 => ?_)
                clear M5
                refine wpT_op rfl ?_
                go_wp2_with (go_at_call 25; refine (alive25 _).mono ?_; rintro e w' ⟨rfl, hb⟩; replace M3 := M3.call hb)
                refine PlanTQ.mk M3 ?_
                (refine wpT_free rfl rfl (.inl ⟨rfl, fun w _ => by go_simp; rfl⟩) (by assumption) ?_; (conv => arg 6; simp only [Act.put, List.setIfInBounds_toArray, List.set_cons_succ, List.set_cons_zero]))
                refine wpT_free rfl rfl (.inl ⟨rfl, fun w hw => run_ldrowN Try.underlying49 s49 rfl rfl rfl hw (List.mem_cons_of_mem _ (List.mem_cons_of_mem _ List.mem_cons_self)) hx⟩) (by assumption) ?_; (conv => arg 6; simp only [Act.put, List.setIfInBounds_toArray, List.set_cons_succ, List.set_cons_zero])
                refine wpT_free rfl rfl (.inl ⟨rfl, fun w hw => run_ldrowN Try.underlying49 s49 rfl rfl rfl hw (List.mem_cons_of_mem _ List.mem_cons_self) hy⟩) (by assumption) ?_; (conv => arg 6; simp only [Act.put, List.setIfInBounds_toArray, List.set_cons_succ, List.set_cons_zero])
                refine wpT_free rfl rfl (.inl ⟨rfl, fun w _ => (run_neq49 rfl rfl rfl hx hy w).trans (by rw [decide_eq_false hxy])⟩) (by assumption) ?_; (conv => arg 6; simp only [Act.put, List.setIfInBounds_toArray, List.set_cons_succ, List.set_cons_zero])
                (refine wpT_free rfl rfl (.inl ⟨rfl, fun w _ => by go_simp; rfl⟩) (by assumption) ?_; (conv => arg 6; simp only [Act.put, List.setIfInBounds_toArray, List.set_cons_succ, List.set_cons_zero]))
                iterate 11 (refine wpT_free rfl rfl (.inr ⟨rfl, rfl⟩) (by assumption) ?_; (conv => arg 6; simp only [Act.put, List.setIfInBounds_toArray, List.set_cons_succ, List.set_cons_zero]))
                (refine wpT_free rfl rfl (.inl ⟨rfl, fun w _ => by go_simp; rfl⟩) (by assumption) ?_; (conv => arg 6; simp only [Act.put, List.setIfInBounds_toArray, List.set_cons_succ, List.set_cons_zero]))
                (refine wpT_free rfl rfl (.inl ⟨rfl, fun w _ => by go_simp; rfl⟩) (by assumption) ?_; (conv => arg 6; simp only [Act.put, List.setIfInBounds_toArray, List.set_cons_succ, List.set_cons_zero]))
                (refine wpT_free rfl rfl (.inl ⟨rfl, fun w _ => by go_simp; rfl⟩) (by assumption) ?_; (conv => arg 6; simp only [Act.put, List.setIfInBounds_toArray, List.set_cons_succ, List.set_cons_zero]))
                refine wpT_done ?_
                go_wp2_with fail
                go_ret
                exact ⟨rfl, M3.below⟩
end Go.Proofs.Ytcjfpcajjhccaaa
