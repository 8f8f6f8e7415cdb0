/- The walks of the stream layer's laws, fourth part: StreamParts. -/
import Derived.Test.YtcjfpcajjhccaaaL2
import Derived.Test.YtcjfpcajjhccaaaM4
set_option linter.unusedVariables false
set_option linter.unusedSimpArgs false
namespace Go.Proofs.Ytcjfpcajjhccaaa
open Go.RowKit
set_option maxRecDepth 10000
theorem rd_take (xs : List Int) (n j : Nat) (h : j < n) : rd (xs.take n) j = rd xs j := by simp [rd, List.getD_eq_getElem?_getD, h]
theorem rd_drop (xs : List Int) (n j : Nat) : rd (xs.drop n) j = rd xs (n + j) := by simp [rd, List.getD_eq_getElem?_getD]
theorem mask_take (key nl : List Int) (ctr : Int) (tl : List Int) (n : Nat) : maskB key nl ctr (tl.take n) = (maskB key nl ctr tl).take n := by
  refine ext_rd (by simp [maskB]) fun j hj => ?_
  simp [maskB] at hj
  rw [maskB, rd_range _ _ _ (by simp; omega), rd_take _ _ _ (by omega), rd_take _ _ _ (by omega), maskB, rd_range _ _ _ (by omega)]
theorem ks_shift (key nl : List Int) (ctr : Int) (q j : Nat) : ksB key nl (ctr + q) j = ksB key nl ctr (64 * q + j) := by
  have e1 : (64 * q + j) / 64 = q + j / 64 := by omega
  have e2 : (64 * q + j) % 64 = j % 64 := by omega
  have e3 : ctr + (q : Int) + ((j / 64 : Nat) : Int) = ctr + ((q + j / 64 : Nat) : Int) := by omega
  rw [ksB, ksB, e1, e2, e3]
theorem mask_drop (key nl : List Int) (ctr : Int) (tl : List Int) (q : Nat) : maskB key nl (ctr + q) (tl.drop (64 * q)) = (maskB key nl ctr tl).drop (64 * q) := by
  refine ext_rd (by simp [maskB]) fun j hj => ?_
  simp [maskB] at hj
  rw [maskB, rd_range _ _ _ (by simp; omega), rd_drop, rd_drop, maskB, rd_range _ _ _ (by omega), ks_shift]
theorem str_cut (xs : List Int) (i j : Nat) : strOfNums ((xs.drop i).take (j - i)) = (strOfNums xs).extract i j := by
  have h : (strOfNums ((xs.drop i).take (j - i))).data = ((strOfNums xs).extract i j).data := by
    apply Array.toList_inj.1
    simp [strOfNums, ByteArray.data_extract, List.map_take, List.map_drop]
  cases hA : strOfNums ((xs.drop i).take (j - i))
  cases hB : (strOfNums xs).extract i j
  rw [hA, hB] at h
  simpa using h
theorem maskS_cut (key nl : List Int) (ctr : Int) (text : ByteArray) (n : Nat) (hn : n ≤ text.size) :
    strOfNums (maskB key nl ctr (bytesOf (text.extract 0 n))) = (strOfNums (maskB key nl ctr (bytesOf text))).extract 0 n := by
  rw [extract_bytes, List.drop_zero, Nat.sub_zero, mask_take, ← str_cut, List.drop_zero, Nat.sub_zero]
theorem maskS_end (key nl : List Int) (ctr : Int) (text : ByteArray) (q : Nat) (hq : 64 * q ≤ text.size) :
    strOfNums (maskB key nl (ctr + q) (bytesOf (text.extract (64 * q) text.size))) = (strOfNums (maskB key nl ctr (bytesOf text))).extract (64 * q) text.size := by
  rw [extract_bytes, ← str_cut]
  congr 1
  rw [List.take_of_length_le (by simp [bytesOf_length]), mask_drop, List.take_of_length_le (by simp [maskB_length, bytesOf_length])]
set_option maxRecDepth 100000 in
set_option maxHeartbeats 4000000 in
theorem StreamParts7 (key : List Int) (s : ByteArray) (ctr : Int) (text : ByteArray) (blocks at1 : Int) (w : World) (hkl : key.length = 32) (hkb : ∀ x ∈ key, isByte x) (hc : 0 ≤ ctr ∧ ctr < 4294967296) (hs1 : s.size ≤ maxLen) (hs2 : text.size ≤ maxLen)
    (hbl : 0 ≤ blocks ∧ blocks < 256) (hat : 0 ≤ at1 ∧ at1 < 65536) :
    Calls Try.prog 7 #[.agg (nums .u8 key).toArray, .string s, .int .u32 ctr, .string text, .int .u8 blocks, .int .u16 at1] w fun e w' => e = .returned (.bool true) ∧ Below w.heap.size w w' := by
  have M0 := Mem.start w
  obtain ⟨hbl0, hbl1⟩ := hbl
  obtain ⟨hat0, hat1⟩ := hat
  by_cases ht : text.size ≤ 2000
  · have ht0 : ¬ (2000 : Int) < (text.size : Int) := by omega
    by_cases hs : s.size = 12
    · have h1 : ((s.size : Int) != 12) = false := by rw [bne_eq_false_iff_eq]; omega
      by_cases hf : (((text.size + 63) / 64 : Nat) : Int) ≤ 4294967296 - ctr
      · obtain ⟨n, hn⟩ : ∃ n : Nat, (n : Int) = at1 % ((text.size : Int) + 1) := ⟨(at1 % ((text.size : Int) + 1)).toNat, by have := Int.emod_nonneg at1 (b := (text.size : Int) + 1) (by omega); omega⟩
        have hn1 : n ≤ text.size := by have := Int.emod_lt_of_pos at1 (b := (text.size : Int) + 1) (by omega); omega
        obtain ⟨q, hq⟩ : ∃ q : Nat, (q : Int) = blocks % 8 := ⟨(blocks % 8).toNat, by omega⟩
        have hq1 : q < 8 := by omega
        have HB := hid (fun w => Mask22 key s ctr text w hkl hkb hc (by omega) hs hf)
        have en : (text.extract 0 n).size = n := by simp; omega
        have HN := hid (fun w => Mask22 key s ctr (text.extract 0 n) w hkl hkb hc (by omega) hs (by rw [en]; omega))
        rw [maskS_cut _ _ _ _ _ hn1] at HN
        obtain ⟨bs, hbs⟩ : ∃ x, x = strOfNums (maskB key (bytesOf s) ctr (bytesOf text)) := ⟨_, rfl⟩
        have lb : bs.size = text.size := by rw [hbs, strOfNums_size, maskB_length, bytesOf_length]
        have bs0 : (n : Int) ≤ (bs.size : Int) := by omega
        have bs1 : n ≤ bs.size := by omega
        have n0 : (n : Int) ≤ (text.size : Int) := by omega
        have m1 : at1.tmod ((text.size : Int) + 1) = (n : Int) := by rw [Int.tmod_eq_emod_of_nonneg hat0]; exact hn.symm
        have m2 : at1 % ((text.size : Int) + 1) = (n : Int) := hn.symm
        have m3 : blocks.tmod 8 = (q : Int) := by rw [Int.tmod_eq_emod_of_nonneg hbl0]; exact hq.symm
        have m4 : blocks % 8 = (q : Int) := hq.symm
        rw [← hbs] at HB HN
        obtain ⟨k, hk64⟩ : ∃ k, k = 64 * q := ⟨_, rfl⟩
        have m5 : 64 * (q : Int) = (k : Int) := by omega
        by_cases hk : k < text.size
        · have ek : (text.extract (64 * q) text.size).size = text.size - 64 * q := by simp
          have HK := hid (fun w => Mask22 key s (ctr + q) (text.extract (64 * q) text.size) w hkl hkb (by omega) (by omega) hs (by rw [ek]; omega))
          rw [maskS_end _ _ _ _ _ (by omega), ← hbs, ← hk64, show bs.extract k text.size = bs.extract k bs.size from by rw [lb]] at HK
          have k0 : ¬ (text.size : Int) ≤ (k : Int) := by omega
          have k1 : (k : Int) ≤ (text.size : Int) := by omega
          have k2 : k ≤ text.size := by omega
          have k3 : (k : Int) ≤ (bs.size : Int) := by omega
          have k4 : k ≤ bs.size := by omega
          have m6 : IntKind.u32.wrap (ctr + (q : Int)) = ctr + (q : Int) := by rw [IntKind.wrap_u32]; omega
          have m7 : IntKind.u32.wrap (q : Int) = (q : Int) := by rw [IntKind.wrap_u32]; omega
          have HBS := hid lb
          clear hk64
          clear hbs hs hf ek en hq hn hc lb
          go_enter Try.func7, Try.ntmps7
          go_wp2_with (first | (go_at_call 18; refine (alive18 _).mono ?_; rintro e w' ⟨rfl, hb⟩; replace M' := M'.call hb) | (apply wpList_bxN 6; (· rfl); (· rfl); (· rfl); (· rfl); (· assumption); intro b6 w' M'; (conv => arg 5; simp only [Act.put, List.setIfInBounds_toArray, List.set_cons_succ, List.set_cons_zero])) | (apply wpList_ldrowN Try.underlying23 s23; (· rfl); (· rfl); (· rfl); (· rfl); (· assumption); (· (repeat (first | exact List.mem_cons_self | refine List.mem_cons_of_mem _ ?_))); (· (first | with_reducible assumption | omega | (simp only [nums_length, List.length_set, List.length_replicate]; first | with_reducible assumption | omega) | rfl | (simp [*]; done) | (simp [*]; omega))); (conv => arg 5; simp only [Act.put, List.setIfInBounds_toArray, List.set_cons_succ, List.set_cons_zero])) | (apply wpList_wantSl; (· rfl)))
          refine (HB.out _).mono ?_; rintro e w' ⟨rfl, hb⟩; replace M' := M'.call hb
          go_wp2_with fail
          refine wp_region_midM 6 (by kernel_rfl) (by kernel_rfl) M' (fun w1 M1 => ?_)
          simp only [List.take_succ_cons, List.take_zero, List.drop_succ_cons, List.drop_zero]
          refine wpStill_ldrowN Try.underlying23 s23 rfl rfl rfl rfl M1 List.mem_cons_self hkl ?_
          repeat still_step
          refine wpStill_nil ?_
          clear M'
          go_wp2_with fail
          refine (HN.out _).mono ?_; rintro e w' ⟨rfl, hb⟩; replace M1 := M1.call hb
          go_wp2_with fail
          refine Mid.mk ?_
          repeat still_step
          refine wpStill_nil ?_
          go_wp2_with fail
          refine wp_region_midM 10 (by kernel_rfl) (by kernel_rfl) M1 (fun w2 M2 => ?_)
          simp only [List.take_succ_cons, List.take_zero, List.drop_succ_cons, List.drop_zero]
          refine wpStill_ldrowN Try.underlying23 s23 rfl rfl rfl rfl M2 List.mem_cons_self hkl ?_
          repeat still_step
          refine wpStill_nil ?_
          clear M1
          go_wp2_with fail
          refine (HK.out _).mono ?_; rintro e w' ⟨rfl, hb⟩; replace M2 := M2.call hb
          go_wp2_with fail
          refine Mid.mk ?_
          repeat still_step
          refine wpStill_nil ?_
          go_wp2_with (go_at_call 18; refine (alive18 _).mono ?_; rintro e w' ⟨rfl, hb⟩; replace M2 := M2.call hb)
          go_ret
          exact ⟨rfl, M2.below⟩
        · have k0 : (text.size : Int) ≤ (k : Int) := by omega
          clear hbs hs hf en hq hn hc lb hk64
          go_enter Try.func7, Try.ntmps7
          go_wp2_with (first | (go_at_call 18; refine (alive18 _).mono ?_; rintro e w' ⟨rfl, hb⟩; replace M' := M'.call hb) | (apply wpList_bxN 6; (· rfl); (· rfl); (· rfl); (· rfl); (· assumption); intro b6 w' M'; (conv => arg 5; simp only [Act.put, List.setIfInBounds_toArray, List.set_cons_succ, List.set_cons_zero])) | (apply wpList_ldrowN Try.underlying23 s23; (· rfl); (· rfl); (· rfl); (· rfl); (· assumption); (· (repeat (first | exact List.mem_cons_self | refine List.mem_cons_of_mem _ ?_))); (· (first | with_reducible assumption | omega | (simp only [nums_length, List.length_set, List.length_replicate]; first | with_reducible assumption | omega) | rfl | (simp [*]; done) | (simp [*]; omega))); (conv => arg 5; simp only [Act.put, List.setIfInBounds_toArray, List.set_cons_succ, List.set_cons_zero])) | (apply wpList_wantSl; (· rfl)))
          refine (HB.out _).mono ?_; rintro e w' ⟨rfl, hb⟩; replace M' := M'.call hb
          go_wp2_with fail
          refine wp_region_midM 6 (by kernel_rfl) (by kernel_rfl) M' (fun w1 M1 => ?_)
          simp only [List.take_succ_cons, List.take_zero, List.drop_succ_cons, List.drop_zero]
          refine wpStill_ldrowN Try.underlying23 s23 rfl rfl rfl rfl M1 List.mem_cons_self hkl ?_
          repeat still_step
          refine wpStill_nil ?_
          clear M'
          go_wp2_with fail
          refine (HN.out _).mono ?_; rintro e w' ⟨rfl, hb⟩; replace M1 := M1.call hb
          go_wp2_with fail
          refine Mid.mk ?_
          repeat still_step
          refine wpStill_nil ?_
          go_wp2_with (go_at_call 18; refine (alive18 _).mono ?_; rintro e w' ⟨rfl, hb⟩; replace M1 := M1.call hb)
          go_ret
          exact ⟨rfl, M1.below⟩
      · have HB := hid (fun w => Mask22_no key s ctr text w hc (by omega) (by omega))
        clear hs hc hf
        go_enter Try.func7, Try.ntmps7
        go_wp2_with (first | (go_at_call 18; refine (alive18 _).mono ?_; rintro e w' ⟨rfl, hb⟩; replace M' := M'.call hb) | (go_at_call 22; refine (HB.out _).mono ?_; rintro e w' ⟨rfl, hb⟩; replace M' := M'.call hb) | (apply wpList_bxN 6; (· rfl); (· rfl); (· rfl); (· rfl); (· assumption); intro b6 w' M'; (conv => arg 5; simp only [Act.put, List.setIfInBounds_toArray, List.set_cons_succ, List.set_cons_zero])) | (apply wpList_ldrowN Try.underlying23 s23; (· rfl); (· rfl); (· rfl); (· rfl); (· assumption); (· (repeat (first | exact List.mem_cons_self | refine List.mem_cons_of_mem _ ?_))); (· (first | with_reducible assumption | omega | (simp only [nums_length, List.length_set, List.length_replicate]; first | with_reducible assumption | omega) | rfl | (simp [*]; done) | (simp [*]; omega))); (conv => arg 5; simp only [Act.put, List.setIfInBounds_toArray, List.set_cons_succ, List.set_cons_zero])) | (apply wpList_wantSl; (· rfl)))
        go_ret
        exact ⟨rfl, M'.below⟩
    · have h1 : ((s.size : Int) != 12) = true := by rw [bne_iff_ne]; omega
      clear hs
      go_enter Try.func7, Try.ntmps7
      go_wp2_with (first | (go_at_call 18; refine (alive18 _).mono ?_; rintro e w' ⟨rfl, hb⟩; replace M' := M'.call hb) | (apply wpList_bxN 6; (· rfl); (· rfl); (· rfl); (· rfl); (· assumption); intro b6 w' M'; (conv => arg 5; simp only [Act.put, List.setIfInBounds_toArray, List.set_cons_succ, List.set_cons_zero])) | (apply wpList_ldrowN Try.underlying23 s23; (· rfl); (· rfl); (· rfl); (· rfl); (· assumption); (· (repeat (first | exact List.mem_cons_self | refine List.mem_cons_of_mem _ ?_))); (· (first | with_reducible assumption | omega | (simp only [nums_length, List.length_set, List.length_replicate]; first | with_reducible assumption | omega) | rfl | (simp [*]; done) | (simp [*]; omega))); (conv => arg 5; simp only [Act.put, List.setIfInBounds_toArray, List.set_cons_succ, List.set_cons_zero])) | (apply wpList_wantSl; (· rfl)))
      go_ret
      exact ⟨rfl, M'.below⟩
  · have ht0 : (2000 : Int) < (text.size : Int) := by omega
    go_enter Try.func7, Try.ntmps7
    go_wp2_with (first | (go_at_call 18; refine (alive18 _).mono ?_; rintro e w' ⟨rfl, hb⟩; replace M' := M'.call hb) | (apply wpList_bxN 6; (· rfl); (· rfl); (· rfl); (· rfl); (· assumption); intro b6 w' M'; (conv => arg 5; simp only [Act.put, List.setIfInBounds_toArray, List.set_cons_succ, List.set_cons_zero])) | (apply wpList_ldrowN Try.underlying23 s23; (· rfl); (· rfl); (· rfl); (· rfl); (· assumption); (· (repeat (first | exact List.mem_cons_self | refine List.mem_cons_of_mem _ ?_))); (· (first | with_reducible assumption | omega | (simp only [nums_length, List.length_set, List.length_replicate]; first | with_reducible assumption | omega) | rfl | (simp [*]; done) | (simp [*]; omega))); (conv => arg 5; simp only [Act.put, List.setIfInBounds_toArray, List.set_cons_succ, List.set_cons_zero])) | (apply wpList_wantSl; (· rfl)))
    go_ret
    exact ⟨rfl, M'.below⟩
end Go.Proofs.Ytcjfpcajjhccaaa
