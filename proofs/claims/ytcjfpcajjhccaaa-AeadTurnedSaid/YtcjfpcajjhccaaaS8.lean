/- Walks of the stream layer, eighth part: the reference's masked text, whether it fits. -/
import Derived.Test.YtcjfpcajjhccaaaS7
import Derived.Test.YtcjfpcajjhccaaaM3
set_option linter.unusedVariables false
set_option linter.unusedSimpArgs false
namespace Go.Proofs.Ytcjfpcajjhccaaa
open Go.RowKit
def fitsB (ctr : Int) (n : Nat) : Bool := decide ((((n + 63) / 64 : Nat) : Int) ≤ 4294967296 - ctr)
theorem fits_zero (ctr : Int) (h : ctr < 4294967296) : fitsB ctr 0 = true := by unfold fitsB; simp; omega
theorem fits_pos (ctr : Int) (n : Nat) (h0 : 0 < n) : fitsB ctr n = decide (((n : Int) - 1) / 64 ≤ 4294967295 - ctr) := by
  unfold fitsB
  rw [decide_eq_decide]
  omega
theorem Fits23 (ctr : Int) (n : Nat) (w : World) (hc : 0 ≤ ctr ∧ ctr < 4294967296) (hn : n ≤ 1000000) :
    Calls Try.prog 23 #[.int .u32 ctr, .int .i64 n] w fun e w' => e = .returned (.bool (fitsB ctr n)) ∧ w' = w := by
  obtain ⟨hc0, hc1⟩ := hc
  by_cases h : n = 0
  · subst h
    rw [fits_zero ctr hc1]
    have h1 : (((0 : Nat) : Int) == 0) = true := rfl
    go_enter Try.func23, Try.ntmps23
    go_wp2
    go_ret
    exact ⟨rfl, rfl⟩
  · rw [fits_pos ctr n (by omega)]
    have h1 : ((n : Int) == 0) = false := by rw [beq_eq_false_iff_ne]; omega
    have h2 : (0 : Int) < n := by omega
    go_enter Try.func23, Try.ntmps23
    go_wp2
    go_ret
    exact ⟨rfl, rfl⟩
theorem mask_take_succ (key nl : List Int) (ctr : Int) (tl : List Int) (i : Nat) (h : i < tl.length) : (maskB key nl ctr tl).take (i + 1) = (maskB key nl ctr tl).take i ++ [bits .xor .u8 (rd tl i) (ksB key nl ctr i)] := by
  rw [List.take_succ_eq_append_getElem (by rw [maskB_length]; exact h)]
  simp [maskB]
set_option maxRecDepth 100000 in
set_option maxHeartbeats 4000000 in
theorem Mask24 (key : List Int) (s : ByteArray) (ctr : Int) (text : ByteArray) (w : World) (hkl : key.length = 32) (hkb : ∀ x ∈ key, isByte x) (hc : 0 ≤ ctr ∧ ctr < 4294967296) (ht : text.size ≤ 1000000) (hs : s.size = 12)
    (hf : (((text.size + 63) / 64 : Nat) : Int) ≤ 4294967296 - ctr) :
    Calls Try.prog 24 #[.agg (nums .u8 key).toArray, .string s, .int .u32 ctr, .string text] w fun e w' => e = .returned (.string (strOfNums (maskB key (bytesOf s) ctr (bytesOf text)))) ∧ Below w.heap.size w w' := by
  have M0 := Mem.start w
  obtain ⟨hc0, hc1⟩ := hc
  have h3 : (text.size : Int) ≤ 64 * (4294967296 - ctr) := by omega
  have HB := hid (fun c w => Block20 key s c w hkl hkb hs)
  obtain ⟨tl, htl⟩ : ∃ x, x = bytesOf text := ⟨_, rfl⟩
  have ltl : tl.length = text.size := by rw [htl, bytesOf_length]
  obtain ⟨nl, hnl⟩ : ∃ x, x = bytesOf s := ⟨_, rfl⟩
  rw [← hnl] at HB ⊢
  rw [← htl]
  have HT := hid htl
  have hlen := maskB_length key nl ctr tl
  obtain ⟨ml, hml⟩ : ∃ x, x = maskB key nl ctr tl := ⟨_, rfl⟩
  have HM := hid hml
  rw [← hml] at hlen ⊢
  clear hs htl hnl hf hml
  go_enter Try.func24, Try.ntmps24
  go_wp2_with (first | (apply wpList_bxN 4; (· rfl); (· rfl); (· rfl); (· rfl); (· assumption); intro b4 w' M'; (conv => arg 5; simp only [Act.put, List.setIfInBounds_toArray, List.set_cons_succ, List.set_cons_zero])) | (apply wpList_ldrowN Try.underlying23 s23; (· rfl); (· rfl); (· rfl); (· rfl); (· assumption); (· (repeat (first | exact List.mem_cons_self | refine List.mem_cons_of_mem _ ?_))); (· (first | with_reducible assumption | omega | (simp only [nums_length, List.length_set, List.length_replicate]; first | with_reducible assumption | omega) | rfl | (simp [*]; done) | (simp [*]; omega))); (conv => arg 5; simp only [Act.put, List.setIfInBounds_toArray, List.set_cons_succ, List.set_cons_zero])) | (apply wpList_app1 Try.underlying47 i5; (· rfl); (· rfl); (· rfl); (· rfl); (· assumption); (· intro A' cap'; (repeat (first | exact Swap.head | apply Swap.tail))); (· omega); (· omega); intro A' cap' w' M'; (conv => arg 5; simp only [Act.put, List.setIfInBounds_toArray, List.set_cons_succ, List.set_cons_zero])) | (apply wpList_app4 Try.underlying47 i5; (· rfl); (· rfl); (· rfl); (· rfl); (· assumption); (· intro A' cap'; (repeat (first | exact Swap.head | apply Swap.tail))); (· omega); (· omega); intro A' cap' w' M'; (conv => arg 5; simp only [Act.put, List.setIfInBounds_toArray, List.set_cons_succ, List.set_cons_zero])) | (apply wpList_cvV Try.underlying47 Try.underlying5 Try.underlying9; (· rfl); (· rfl); (· rfl); (· assumption); (· (repeat (first | exact List.mem_cons_self | refine List.mem_cons_of_mem _ ?_))); (conv => arg 5; simp only [Act.put, List.setIfInBounds_toArray, List.set_cons_succ, List.set_cons_zero])) | (apply wpList_cvS Try.underlying47 Try.underlying5 Try.underlying9; (· rfl); (· rfl); (· rfl); (· assumption); (· (repeat (first | exact List.mem_cons_self | refine List.mem_cons_of_mem _ ?_))); (· (first | with_reducible assumption | omega | (simp only [nums_length, List.length_set, List.length_replicate]; first | with_reducible assumption | omega) | rfl | (simp [*]; done) | (simp [*]; omega))); (conv => arg 5; simp only [Act.put, List.setIfInBounds_toArray, List.set_cons_succ, List.set_cons_zero])))
  have Mv := M'.nil 5 1
  clear M'
  go_loopw [9, 10, 11] (fun v b n wr => ∃ (i cap : Nat) (A : Option Addr) (bs : ByteArray), i ≤ text.size ∧ n = .int .i64 i ∧ b = .string bs ∧ Hid (i % 64 ≠ 0 → bytesOf bs = blockB key nl (ctr + (i / 64 : Nat)) ∧ bs.size = 64) ∧ v = .slice A i cap ∧ Mem w [] wr [.vec A i cap 5 1 (nums .u8 (ml.take i)), .blk b4 (rowO .u8 23 key)]) (fun _ _ n _ => text.size - (intOf n).toNat)
  case atStart => exact ⟨0, 0, none, ⟨#[]⟩, by omega, rfl, rfl, hid (fun h => absurd rfl h), rfl, Mv⟩
  case round =>
    obtain ⟨i, cap, A, bs, hi, rfl, rfl, hbs, rfl, Mi⟩ := hrel
    by_cases hlt : i < text.size
    · have hltI : (i : Int) < (text.size : Int) := by omega
      clear Mv
      have hget : bits .xor .u8 (rd tl i) (ksB key nl ctr i) = bits .xor .u8 (rd tl i) (rd (blockB key nl (ctr + (i / 64 : Nat))) (i % 64)) := by
        rw [ksB, Int.emod_eq_of_lt (by omega) (by omega)]
      have hsucc := mask_take_succ key nl ctr tl i (by omega)
      rw [hget, ← HM.out] at hsucc
      have HS := hid hsucc
      clear hsucc hget
      by_cases hm : i % 64 = 0
      · have h1 : ((i : Int) % 64 == 0) = true := by rw [beq_iff_eq]; omega
        clear hm
        go_wp2_with (first | (go_at_call 20; refine (HB.out _ _).mono ?_; rintro e w' ⟨rfl, hb⟩; replace Mi := Mi.call hb) | (apply wpList_bxN 4; (· rfl); (· rfl); (· rfl); (· rfl); (· assumption); intro b4 w' M'; (conv => arg 5; simp only [Act.put, List.setIfInBounds_toArray, List.set_cons_succ, List.set_cons_zero])) | (apply wpList_ldrowN Try.underlying23 s23; (· rfl); (· rfl); (· rfl); (· rfl); (· assumption); (· (repeat (first | exact List.mem_cons_self | refine List.mem_cons_of_mem _ ?_))); (· (first | with_reducible assumption | omega | (simp only [nums_length, List.length_set, List.length_replicate]; first | with_reducible assumption | omega) | rfl | (simp [*]; done) | (simp [*]; omega))); (conv => arg 5; simp only [Act.put, List.setIfInBounds_toArray, List.set_cons_succ, List.set_cons_zero])) | (apply wpList_app1 Try.underlying47 i5; (· rfl); (· rfl); (· rfl); (· rfl); (· assumption); (· intro A' cap'; (repeat (first | exact Swap.head | apply Swap.tail))); (· omega); (· omega); intro A' cap' w' M'; (conv => arg 5; simp only [Act.put, List.setIfInBounds_toArray, List.set_cons_succ, List.set_cons_zero])) | (apply wpList_app4 Try.underlying47 i5; (· rfl); (· rfl); (· rfl); (· rfl); (· assumption); (· intro A' cap'; (repeat (first | exact Swap.head | apply Swap.tail))); (· omega); (· omega); intro A' cap' w' M'; (conv => arg 5; simp only [Act.put, List.setIfInBounds_toArray, List.set_cons_succ, List.set_cons_zero])) | (apply wpList_cvV Try.underlying47 Try.underlying5 Try.underlying9; (· rfl); (· rfl); (· rfl); (· assumption); (· (repeat (first | exact List.mem_cons_self | refine List.mem_cons_of_mem _ ?_))); (conv => arg 5; simp only [Act.put, List.setIfInBounds_toArray, List.set_cons_succ, List.set_cons_zero])) | (apply wpList_cvS Try.underlying47 Try.underlying5 Try.underlying9; (· rfl); (· rfl); (· rfl); (· assumption); (· (repeat (first | exact List.mem_cons_self | refine List.mem_cons_of_mem _ ?_))); (· (first | with_reducible assumption | omega | (simp only [nums_length, List.length_set, List.length_replicate]; first | with_reducible assumption | omega) | rfl | (simp [*]; done) | (simp [*]; omega))); (conv => arg 5; simp only [Act.put, List.setIfInBounds_toArray, List.set_cons_succ, List.set_cons_zero])))
        obtain ⟨bx, hbx⟩ : ∃ x, x = strOfNums (blockB key nl (ctr + (i : Int) / 64)) := ⟨_, rfl⟩
        have hb1 : bytesOf bx = blockB key nl (ctr + (i / 64 : Nat)) := by rw [hbx, bytesOf_str _ (blockB_bytes _ _ _)]; rfl
        have hb2 : bx.size = 64 := by rw [hbx, strOfNums_size, blockB_length]
        rw [← hbx]
        have HX := hid hb1
        clear hb1 hbx h1
        have ii0 : i < text.size := hlt
        obtain ⟨m, hm⟩ : ∃ m, m = i % 64 := ⟨_, rfl⟩
        have ii3 : m < bx.size := by omega
        have ii1 : (m : Int) < (bx.size : Int) := by omega
        have ii4 : (i : Int).tmod 64 = (m : Int) := by rw [Int.tmod_eq_emod_of_nonneg (by omega)]; omega
        have ii5 : (i : Int) % 64 = (m : Int) := by omega
        have HMM := hid hm
        have HX2 := hid hb2
        clear hm hb2
        go_region_held3 (fun _ => True) (trivial) ((apply step_app1 Try.underlying47 i5; (· rfl); (· rfl); (· rfl); (· rfl); (· rfl); (· exact Mi); (· intro A' cap'; exact Swap.head); (· omega); (· omega); intro A' cap' w' M'))
        all_goals
          clear ii0 ii1 ii3 ii4 ii5 Mi
          go_wp2_with fail
          go_roundw
          case rel =>
            refine ⟨i + 1, cap', A', bx, by omega, by go_num, rfl, hid (fun h => ?_), rfl, ?_⟩
            · have e : (i + 1) / 64 = i / 64 := by omega
              rw [e]
              exact ⟨HX.out, HX2.out⟩
            · rw [HS.out, HT.out, ← HX.out, ← HMM.out]
              exact M'
          case measure => simp [intOf]; omega
      · have h1 : ((i : Int) % 64 == 0) = false := by rw [beq_eq_false_iff_ne]; omega
        obtain ⟨hb1, hb2⟩ := hbs.out hm
        obtain ⟨bx, rfl⟩ : ∃ x, x = bs := ⟨_, rfl⟩
        have HX := hid hb1
        clear hb1 hm
        go_wp2_with fail
        have ii0 : i < text.size := hlt
        obtain ⟨m, hm⟩ : ∃ m, m = i % 64 := ⟨_, rfl⟩
        have ii3 : m < bx.size := by omega
        have ii1 : (m : Int) < (bx.size : Int) := by omega
        have ii4 : (i : Int).tmod 64 = (m : Int) := by rw [Int.tmod_eq_emod_of_nonneg (by omega)]; omega
        have ii5 : (i : Int) % 64 = (m : Int) := by omega
        have HMM := hid hm
        have HX2 := hid hb2
        clear hm hb2
        go_region_held3 (fun _ => True) (trivial) ((apply step_app1 Try.underlying47 i5; (· rfl); (· rfl); (· rfl); (· rfl); (· rfl); (· exact Mi); (· intro A' cap'; exact Swap.head); (· omega); (· omega); intro A' cap' w' M'))
        all_goals
          clear ii0 ii1 ii3 ii4 ii5 Mi
          go_wp2_with fail
          go_roundw
          case rel =>
            refine ⟨i + 1, cap', A', bx, by omega, by go_num, rfl, hid (fun h => ?_), rfl, ?_⟩
            · have e : (i + 1) / 64 = i / 64 := by omega
              rw [e]
              exact ⟨HX.out, HX2.out⟩
            · rw [HS.out, HT.out, ← HX.out, ← HMM.out]
              exact M'
          case measure => simp [intOf]; omega
    · obtain rfl : i = text.size := by omega
      rw [List.take_of_length_le (by omega)] at Mi
      clear Mv
      go_wp2_with (first | (apply wpList_bxN 4; (· rfl); (· rfl); (· rfl); (· rfl); (· assumption); intro b4 w' M'; (conv => arg 5; simp only [Act.put, List.setIfInBounds_toArray, List.set_cons_succ, List.set_cons_zero])) | (apply wpList_ldrowN Try.underlying23 s23; (· rfl); (· rfl); (· rfl); (· rfl); (· assumption); (· (repeat (first | exact List.mem_cons_self | refine List.mem_cons_of_mem _ ?_))); (· (first | with_reducible assumption | omega | (simp only [nums_length, List.length_set, List.length_replicate]; first | with_reducible assumption | omega) | rfl | (simp [*]; done) | (simp [*]; omega))); (conv => arg 5; simp only [Act.put, List.setIfInBounds_toArray, List.set_cons_succ, List.set_cons_zero])) | (apply wpList_app1 Try.underlying47 i5; (· rfl); (· rfl); (· rfl); (· rfl); (· assumption); (· intro A' cap'; (repeat (first | exact Swap.head | apply Swap.tail))); (· omega); (· omega); intro A' cap' w' M'; (conv => arg 5; simp only [Act.put, List.setIfInBounds_toArray, List.set_cons_succ, List.set_cons_zero])) | (apply wpList_app4 Try.underlying47 i5; (· rfl); (· rfl); (· rfl); (· rfl); (· assumption); (· intro A' cap'; (repeat (first | exact Swap.head | apply Swap.tail))); (· omega); (· omega); intro A' cap' w' M'; (conv => arg 5; simp only [Act.put, List.setIfInBounds_toArray, List.set_cons_succ, List.set_cons_zero])) | (apply wpList_cvV Try.underlying47 Try.underlying5 Try.underlying9; (· rfl); (· rfl); (· rfl); (· assumption); (· (repeat (first | exact List.mem_cons_self | refine List.mem_cons_of_mem _ ?_))); (conv => arg 5; simp only [Act.put, List.setIfInBounds_toArray, List.set_cons_succ, List.set_cons_zero])) | (apply wpList_cvS Try.underlying47 Try.underlying5 Try.underlying9; (· rfl); (· rfl); (· rfl); (· assumption); (· (repeat (first | exact List.mem_cons_self | refine List.mem_cons_of_mem _ ?_))); (· (first | with_reducible assumption | omega | (simp only [nums_length, List.length_set, List.length_replicate]; first | with_reducible assumption | omega) | rfl | (simp [*]; done) | (simp [*]; omega))); (conv => arg 5; simp only [Act.put, List.setIfInBounds_toArray, List.set_cons_succ, List.set_cons_zero])))
      go_ret
      exact ⟨rfl, Mi.below⟩
end Go.Proofs.Ytcjfpcajjhccaaa
