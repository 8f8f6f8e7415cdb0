/- The walks of the stream layer's laws, second part: StreamBack, StreamQuarter. -/
import Derived.Test.YtcjfpcajjhccaaaS9
set_option linter.unusedVariables false
set_option linter.unusedSimpArgs false
namespace Go.Proofs.Ytcjfpcajjhccaaa
open Go.RowKit
theorem isByte_nat {x : Int} (h : isByte x) : ∃ n : Nat, x = n ∧ n < 256 := ⟨x.toNat, by have := h.1; omega, by have := h.1; have := h.2; omega⟩
theorem xor_u8 (a b : Nat) (ha : a < 256) (hb : b < 256) : bits .xor .u8 (a : Int) (b : Int) = ((a ^^^ b : Nat) : Int) := by
  have hx : a ^^^ b < 2 ^ 8 := Nat.xor_lt_two_pow (by omega) (by omega)
  have h1 : (BitVec.ofInt 8 (a : Int)).toNat = a := by rw [BitVec.ofInt_natCast, BitVec.toNat_ofNat]; exact Nat.mod_eq_of_lt (by omega)
  have h2 : (BitVec.ofInt 8 (b : Int)).toNat = b := by rw [BitVec.ofInt_natCast, BitVec.toNat_ofNat]; exact Nat.mod_eq_of_lt (by omega)
  show IntKind.u8.wrap ((BitVec.ofInt 8 (a : Int) ^^^ BitVec.ofInt 8 (b : Int)).toNat : Int) = _
  rw [BitVec.toNat_xor, h1, h2, IntKind.wrap_u8]
  omega
theorem xor_back {x y : Int} (hx : isByte x) (hy : isByte y) : bits .xor .u8 (bits .xor .u8 x y) y = x := by
  obtain ⟨a, rfl, ha⟩ := isByte_nat hx
  obtain ⟨b, rfl, hb⟩ := isByte_nat hy
  have hab : a ^^^ b < 2 ^ 8 := Nat.xor_lt_two_pow (by omega) (by omega)
  rw [xor_u8 a b ha hb, xor_u8 _ b (by omega) hb, Nat.xor_assoc, Nat.xor_self, Nat.xor_zero]
theorem rd_mem {xs : List Int} {i : Nat} (h : i < xs.length) : rd xs i ∈ xs := by
  rw [rd, List.getD_eq_getElem?_getD, List.getElem?_eq_getElem h]
  exact List.getElem_mem h
theorem ksB_byte (key nl : List Int) (ctr : Int) (j : Nat) : isByte (ksB key nl ctr j) :=
  blockB_bytes _ _ _ _ (rd_mem (by rw [blockB_length]; omega))
theorem mask_back (key nl : List Int) (ctr : Int) (tl : List Int) (h : ∀ x ∈ tl, isByte x) : maskB key nl ctr (maskB key nl ctr tl) = tl := by
  refine ext_rd (by rw [maskB_length, maskB_length]) fun j hj => ?_
  rw [maskB_length, maskB_length] at hj
  rw [maskB, rd_range _ _ _ (by rw [maskB_length]; exact hj), maskB, rd_range _ _ _ hj]
  exact xor_back (h _ (rd_mem hj)) (ksB_byte _ _ _ _)
set_option maxRecDepth 100000 in
set_option maxHeartbeats 2000000 in
theorem StreamBack6 (key : List Int) (s : ByteArray) (ctr : Int) (text : ByteArray) (w : World) (hkl : key.length = 32) (hkb : ∀ x ∈ key, isByte x) (hc : 0 ≤ ctr ∧ ctr < 4294967296) (hs1 : s.size ≤ maxLen) (hs2 : text.size ≤ maxLen) :
    Calls Try.prog 6 #[.agg (nums .u8 key).toArray, .string s, .int .u32 ctr, .string text] w fun e w' => e = .returned (.bool true) ∧ Below w.heap.size w w' := by
  have M0 := Mem.start w
  by_cases ht : text.size ≤ 2000
  · have ht0 : ¬ (2000 : Int) < (text.size : Int) := by omega
    by_cases hs : s.size = 12 ∧ (((text.size + 63) / 64 : Nat) : Int) ≤ 4294967296 - ctr
    · obtain ⟨hs, hf⟩ := hs
      have HB := hid (fun w => Mask22 key s ctr text w hkl hkb hc (by omega) hs hf)
      obtain ⟨bs, hbs⟩ : ∃ x, x = strOfNums (maskB key (bytesOf s) ctr (bytesOf text)) := ⟨_, rfl⟩
      have lb : bs.size = text.size := by rw [hbs, strOfNums_size, maskB_length, bytesOf_length]
      have HR := hid (fun w => Mask22 key s ctr bs w hkl hkb hc (by omega) hs (by rw [lb]; exact hf))
      have hback : strOfNums (maskB key (bytesOf s) ctr (bytesOf bs)) = text := by
        rw [hbs, bytesOf_str _ (maskB_bytes _ _ _ _), mask_back _ _ _ _ (bytesOf_all text), str_bytesOf]
      rw [hback] at HR
      rw [← hbs] at HB
      have l1 : ((bs.size : Int) == (text.size : Int)) = true := by rw [beq_iff_eq]; omega
      clear hbs hs hf hback hc lb
      go_enter Try.func6, Try.ntmps6
      go_wp2_with (first | (go_at_call 18; refine (alive18 _).mono ?_; rintro e w' ⟨rfl, hb⟩; replace M' := M'.call hb) | (apply wpList_bxN 4; (· rfl); (· rfl); (· rfl); (· rfl); (· assumption); intro b4 w' M'; (conv => arg 5; simp only [Act.put, List.setIfInBounds_toArray, List.set_cons_succ, List.set_cons_zero])) | (apply wpList_ldrowN Try.underlying23 s23; (· rfl); (· rfl); (· rfl); (· rfl); (· assumption); (· (repeat (first | exact List.mem_cons_self | refine List.mem_cons_of_mem _ ?_))); (· (first | with_reducible assumption | omega | (simp only [nums_length, List.length_set, List.length_replicate]; first | with_reducible assumption | omega) | rfl | (simp [*]; done) | (simp [*]; omega))); (conv => arg 5; simp only [Act.put, List.setIfInBounds_toArray, List.set_cons_succ, List.set_cons_zero])))
      refine (HB.out _).mono ?_; rintro e w' ⟨rfl, hb⟩; replace M' := M'.call hb
      go_wp2_with (first | (go_at_call 18; refine (alive18 _).mono ?_; rintro e w' ⟨rfl, hb⟩; replace M' := M'.call hb) | (apply wpList_bxN 4; (· rfl); (· rfl); (· rfl); (· rfl); (· assumption); intro b4 w' M'; (conv => arg 5; simp only [Act.put, List.setIfInBounds_toArray, List.set_cons_succ, List.set_cons_zero])) | (apply wpList_ldrowN Try.underlying23 s23; (· rfl); (· rfl); (· rfl); (· rfl); (· assumption); (· (repeat (first | exact List.mem_cons_self | refine List.mem_cons_of_mem _ ?_))); (· (first | with_reducible assumption | omega | (simp only [nums_length, List.length_set, List.length_replicate]; first | with_reducible assumption | omega) | rfl | (simp [*]; done) | (simp [*]; omega))); (conv => arg 5; simp only [Act.put, List.setIfInBounds_toArray, List.set_cons_succ, List.set_cons_zero])))
      refine (HR.out _).mono ?_; rintro e w' ⟨rfl, hb⟩; replace M' := M'.call hb
      go_wp2_with (first | (go_at_call 18; refine (alive18 _).mono ?_; rintro e w' ⟨rfl, hb⟩; replace M' := M'.call hb) | (apply wpList_bxN 4; (· rfl); (· rfl); (· rfl); (· rfl); (· assumption); intro b4 w' M'; (conv => arg 5; simp only [Act.put, List.setIfInBounds_toArray, List.set_cons_succ, List.set_cons_zero])) | (apply wpList_ldrowN Try.underlying23 s23; (· rfl); (· rfl); (· rfl); (· rfl); (· assumption); (· (repeat (first | exact List.mem_cons_self | refine List.mem_cons_of_mem _ ?_))); (· (first | with_reducible assumption | omega | (simp only [nums_length, List.length_set, List.length_replicate]; first | with_reducible assumption | omega) | rfl | (simp [*]; done) | (simp [*]; omega))); (conv => arg 5; simp only [Act.put, List.setIfInBounds_toArray, List.set_cons_succ, List.set_cons_zero])))
      go_ret
      exact ⟨rfl, M'.below⟩
    · have HB := hid (fun w => Mask22_no key s ctr text w hc (by omega) (by omega))
      clear hs hc
      go_enter Try.func6, Try.ntmps6
      go_wp2_with (first | (go_at_call 18; refine (alive18 _).mono ?_; rintro e w' ⟨rfl, hb⟩; replace M' := M'.call hb) | (go_at_call 22; refine (HB.out _).mono ?_; rintro e w' ⟨rfl, hb⟩; replace M' := M'.call hb) | (apply wpList_bxN 4; (· rfl); (· rfl); (· rfl); (· rfl); (· assumption); intro b4 w' M'; (conv => arg 5; simp only [Act.put, List.setIfInBounds_toArray, List.set_cons_succ, List.set_cons_zero])) | (apply wpList_ldrowN Try.underlying23 s23; (· rfl); (· rfl); (· rfl); (· rfl); (· assumption); (· (repeat (first | exact List.mem_cons_self | refine List.mem_cons_of_mem _ ?_))); (· (first | with_reducible assumption | omega | (simp only [nums_length, List.length_set, List.length_replicate]; first | with_reducible assumption | omega) | rfl | (simp [*]; done) | (simp [*]; omega))); (conv => arg 5; simp only [Act.put, List.setIfInBounds_toArray, List.set_cons_succ, List.set_cons_zero])))
      go_ret
      exact ⟨rfl, M'.below⟩
  · have ht0 : (2000 : Int) < (text.size : Int) := by omega
    go_enter Try.func6, Try.ntmps6
    go_wp2_with (first | (go_at_call 18; refine (alive18 _).mono ?_; rintro e w' ⟨rfl, hb⟩; replace M' := M'.call hb) | (apply wpList_bxN 4; (· rfl); (· rfl); (· rfl); (· rfl); (· assumption); intro b4 w' M'; (conv => arg 5; simp only [Act.put, List.setIfInBounds_toArray, List.set_cons_succ, List.set_cons_zero])) | (apply wpList_ldrowN Try.underlying23 s23; (· rfl); (· rfl); (· rfl); (· rfl); (· assumption); (· (repeat (first | exact List.mem_cons_self | refine List.mem_cons_of_mem _ ?_))); (· (first | with_reducible assumption | omega | (simp only [nums_length, List.length_set, List.length_replicate]; first | with_reducible assumption | omega) | rfl | (simp [*]; done) | (simp [*]; omega))); (conv => arg 5; simp only [Act.put, List.setIfInBounds_toArray, List.set_cons_succ, List.set_cons_zero])))
    go_ret
    exact ⟨rfl, M'.below⟩
end Go.Proofs.Ytcjfpcajjhccaaa
