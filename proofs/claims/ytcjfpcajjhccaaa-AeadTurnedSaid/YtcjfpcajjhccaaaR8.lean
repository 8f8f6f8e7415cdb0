/- Walks of the reference of the onetime layer: Tag. -/
import Derived.Test.YtcjfpcajjhccaaaR7
set_option linter.unusedVariables false
set_option linter.unusedSimpArgs false
namespace Go.Proofs.Ytcjfpcajjhccaaa
open Go.RowKit
/-- What is gathered of a text, by blocks of 16. -/
def accN (R : Int) (bs : List Int) : Nat → Int
  | 0 => 0
  | q + 1 => (accN R bs q + dv 256 ((bs.drop (16 * q)).take 16 ++ [1])) * R % pp
/-- The document's tag. -/
def tagV (key bs : List Int) : List Int := digs 256 16 (accN (dv 256 (clampR key 16)) bs ((bs.length + 15) / 16) + dv 256 (key.drop 16))
theorem clampB_ok (i : Nat) (b : Int) (h : 0 ≤ b ∧ b < 256) : 0 ≤ clampB i b ∧ clampB i b < 256 := by
  unfold clampB
  split
  · omega
  · split <;> omega
theorem clampR_ok (key : List Int) (h : digOk 256 key) (n : Nat) : digOk 256 (clampR key n) := by
  intro x hx
  simp only [clampR, List.mem_map] at hx
  obtain ⟨i, _, rfl⟩ := hx
  exact clampB_ok i _ (digOk_rd (by decide) h i)
theorem cut_succ (xs : List Int) (i k : Nat) (h : i + k < xs.length) : (xs.drop i).take (k + 1) = (xs.drop i).take k ++ [rd xs (i + k)] := by
  rw [List.take_succ_eq_append_getElem (by simp; omega)]
  simp [rd, List.getD_eq_getElem?_getD, List.getElem?_eq_getElem h]
theorem digs_take_succ (B : Int) (hB : 0 < B) (n : Nat) (v : Int) (i : Nat) (h : i < n) : (digs B n v).take (i + 1) = (digs B n v).take i ++ [v / B ^ i % B] := by
  rw [List.take_succ_eq_append_getElem (by rw [digs_length]; exact h), ← digs_rd hB n v i h]
  simp [rd, List.getD_eq_getElem?_getD, List.getElem?_eq_getElem (show i < (digs B n v).length by rw [digs_length]; exact h)]
theorem digit_any {xs : List Int} (h : digOk 256 xs) (j : Nat) : dv 256 xs / 256 ^ j % 256 = rd xs j := by
  by_cases hj : j < xs.length
  · exact dv_digit (by decide) h j hj
  · have hb := dv_bound (B := 256) (by decide) xs h
    have hp := pow256_le xs.length j (by omega)
    rw [Int.ediv_eq_zero_of_lt hb.1 (by omega), rd_out _ _ (by omega)]
    rfl
structure AccSt (R : Int) (bs ys : List Int) (q : Nat) : Prop where
  ok : digOk 256 ys
  val : dv 256 ys = accN R bs q
  len : ys.length ≤ 40 * q + 40
theorem acc_round (R : Int) (bs ys p1 p2 p3 part : List Int) (q : Nat) (h1 : dv 256 p1 = dv 256 ys + dv 256 part) (h2 : dv 256 p2 = dv 256 p1 * R) (h3 : dv 256 p3 = dv 256 p2 % pp) (hp : part = (bs.drop (16 * q)).take 16 ++ [1]) (h : AccSt R bs ys q) (ok : digOk 256 p3) (hl : p3.length ≤ 40 * q + 59) :
    AccSt R bs p3 (q + 1) :=
  ⟨ok, by rw [h3, h2, h1, h.val, hp]; rfl, by omega⟩
set_option maxRecDepth 100000 in
set_option maxHeartbeats 4000000 in
theorem Tag28 (key : List Int) (text : ByteArray) (w : World) (hk : key.length = 32) (hkb : digOk 256 key) (ht : text.size ≤ 17000) :
    Calls Try.prog 28 #[.agg (nums .u8 key).toArray, .string text] w fun e w' => e = .returned (.string (strOfNums (tagV key (bytesOf text)))) ∧ Below w.heap.size w w' := by
  have M0 := Mem.start w
  obtain ⟨tl, htl⟩ : ∃ x, x = bytesOf text := ⟨_, rfl⟩
  have ltl : tl.length = text.size := by rw [htl, bytesOf_length]
  have HC := hid (fun w => Clamped30 key w hk hkb)
  have hRok := clampR_ok key hkb 16
  have hRl := clampR_length key 16
  have HTV := hid (show tagV key tl = digs 256 16 (accN (dv 256 (clampR key 16)) tl ((tl.length + 15) / 16) + dv 256 (key.drop 16)) from rfl)
  obtain ⟨R, hR⟩ : ∃ x, x = clampR key 16 := ⟨_, rfl⟩
  obtain ⟨tg, htg⟩ : ∃ x, x = tagV key tl := ⟨_, rfl⟩
  rw [← htl, ← htg]
  rw [← htg, ← hR] at HTV
  rw [← hR] at hRok hRl
  have HT := hid htl
  have HR := hid hR
  clear htl hR htg
  go_enter Try.func28, Try.ntmps28
  go_wp2_with (first | (go_at_call 30; refine (HC.out _).mono ?_; rintro e w' ⟨Zr, cr, rs, rfl, Mr, hrs⟩; rw [← HR.out] at hrs; subst hrs; replace M' := M'.join Mr; clear Mr) | (apply wpList_bxN 2; (· rfl); (· rfl); (· rfl); (· rfl); (· assumption); intro b2 w' M'; (conv => arg 5; simp only [Act.put, List.setIfInBounds_toArray, List.set_cons_succ, List.set_cons_zero])) | (apply wpList_ldrowN Try.underlying23 s23; (· rfl); (· rfl); (· rfl); (· rfl); (· assumption); (· (repeat (first | exact List.mem_cons_self | refine List.mem_cons_of_mem _ ?_))); (· (first | with_reducible assumption | omega | (simp only [nums_length, List.length_set, List.length_replicate]; first | with_reducible assumption | omega) | rfl | (simp [*]; done) | (simp [*]; omega))); (conv => arg 5; simp only [Act.put, List.setIfInBounds_toArray, List.set_cons_succ, List.set_cons_zero])) | (apply wpList_app1 Try.underlying50 i52; (· rfl); (· rfl); (· rfl); (· rfl); (· assumption); (· intro A' cap'; (repeat (first | exact Swap.head | apply Swap.tail))); (· omega); (· omega); intro A' cap' w' M'; (conv => arg 5; simp only [Act.put, List.setIfInBounds_toArray, List.set_cons_succ, List.set_cons_zero])) | (apply wpList_app4 Try.underlying50 i52; (· rfl); (· rfl); (· rfl); (· rfl); (· assumption); (· intro A' cap'; (repeat (first | exact Swap.head | apply Swap.tail))); (· omega); (· omega); intro A' cap' w' M'; (conv => arg 5; simp only [Act.put, List.setIfInBounds_toArray, List.set_cons_succ, List.set_cons_zero])) | (apply wpList_ldN Try.underlying5; (· rfl); (· rfl); (· rfl); (· rfl); (· assumption); (· (repeat (first | exact List.mem_cons_self | refine List.mem_cons_of_mem _ ?_))); (· (first | with_reducible assumption | omega | (simp only [nums_length, List.length_set, List.length_replicate]; first | with_reducible assumption | omega) | rfl | (simp [*]; done) | (simp [*]; omega))); (conv => arg 5; simp only [Act.put, List.setIfInBounds_toArray, List.set_cons_succ, List.set_cons_zero])) | (apply wpList_ldN Try.underlying52; (· rfl); (· rfl); (· rfl); (· rfl); (· assumption); (· (repeat (first | exact List.mem_cons_self | refine List.mem_cons_of_mem _ ?_))); (· (first | with_reducible assumption | omega | (simp only [nums_length, List.length_set, List.length_replicate]; first | with_reducible assumption | omega) | rfl | (simp [*]; done) | (simp [*]; omega))); (conv => arg 5; simp only [Act.put, List.setIfInBounds_toArray, List.set_cons_succ, List.set_cons_zero])) | (apply wpList_app1 Try.underlying47 i5; (· rfl); (· rfl); (· rfl); (· rfl); (· assumption); (· intro A' cap'; (repeat (first | exact Swap.head | apply Swap.tail))); (· omega); (· omega); intro A' cap' w' M'; (conv => arg 5; simp only [Act.put, List.setIfInBounds_toArray, List.set_cons_succ, List.set_cons_zero])) | (apply wpList_app4 Try.underlying47 i5; (· rfl); (· rfl); (· rfl); (· rfl); (· assumption); (· intro A' cap'; (repeat (first | exact Swap.head | apply Swap.tail))); (· omega); (· omega); intro A' cap' w' M'; (conv => arg 5; simp only [Act.put, List.setIfInBounds_toArray, List.set_cons_succ, List.set_cons_zero])) | (apply wpList_cvV Try.underlying47 Try.underlying5 Try.underlying9; (· rfl); (· rfl); (· rfl); (· assumption); (· (repeat (first | exact List.mem_cons_self | refine List.mem_cons_of_mem _ ?_))); (conv => arg 5; simp only [Act.put, List.setIfInBounds_toArray, List.set_cons_succ, List.set_cons_zero])) | (apply wpList_cvS Try.underlying47 Try.underlying5 Try.underlying9; (· rfl); (· rfl); (· rfl); (· assumption); (· (repeat (first | exact List.mem_cons_self | refine List.mem_cons_of_mem _ ?_))); (· (first | with_reducible assumption | omega | (simp only [nums_length, List.length_set, List.length_replicate]; first | with_reducible assumption | omega) | rfl | (simp [*]; done) | (simp [*]; omega))); (conv => arg 5; simp only [Act.put, List.setIfInBounds_toArray, List.set_cons_succ, List.set_cons_zero])))
  have rr := (M'.rowR List.mem_cons_self).1
  have hRlen : rs.length = 16 := hRl
  rw [hRlen] at M'
  clear hRl
  go_loopw [6, 7] (fun v n wr => ∃ (q m : Nat) (Z : Option Addr) (cap : Nat) (ys : List Int), v = .slice Z ys.length cap ∧ n = .int .i64 m ∧ m ≤ text.size + 15 ∧ RowR .u64 wr Z ys ∧ Hid (m = 16 * q ∧ AccSt (dv 256 rs) tl ys q) ∧ Mem w [] wr [.vec Zr 16 cr 52 1 (nums .u64 rs), .blk b2 (rowO .u8 23 key)]) (fun _ n _ => text.size + 16 - (intOf n).toNat)
  case atStart => exact ⟨0, 0, none, 0, [], rfl, rfl, by omega, RowR.nil _ _ _, hid ⟨rfl, fun x hx => by simp at hx, rfl, by simp⟩, M'⟩
  case round =>
    obtain ⟨q, m, Z, cap, ys, rfl, rfl, hm, rZ, HQ, Mr⟩ := hrel
    clear M' rr
    have hyl : ys.length ≤ 42600 := by
      obtain ⟨h1, h2⟩ := HQ.out
      have := h2.len
      omega
    by_cases hlt : m < text.size
    · have hltI : (m : Int) < (text.size : Int) := by omega
      have rR := (Mr.rowR List.mem_cons_self).1
      go_wp2_with fail
      have Ms := (Mem.start wr).nil 52 1
      go_loopw [8, 9] (fun v n wi => ∃ (j k : Nat) (Z1 : Option Addr) (c1 : Nat), v = .slice Z1 j c1 ∧ n = .int .i64 k ∧ k ≤ text.size ∧ j ≤ 16 ∧ Hid (k = m + j) ∧ Mem wr [] wi [.vec Z1 j c1 52 1 (nums .u64 ((tl.drop m).take j))]) (fun _ n _ => text.size - (intOf n).toNat)
      case atStart => exact ⟨0, m, none, 0, rfl, rfl, by omega, by omega, hid rfl, Ms⟩
      case round =>
        obtain ⟨j, k, Z1, c1, rfl, rfl, hk2, hj, HK, Mi⟩ := hrel
        clear Ms
        by_cases hks : k < text.size
        · have hkI : (k : Int) < (text.size : Int) := by omega
          by_cases h16 : j < 16
          · have hkm : (k : Int) < (m : Int) + 16 := by have := HK.out; omega
            have hs := cut_succ tl m j (by have := HK.out; omega)
            rw [← HK.out] at hs
            have hw := u64_id (rd tl k) (digOk_rd (B := 256) (by decide) (fun x hx => bytesOf_all text x (by rw [← HT.out]; exact hx)) k).1 (by have := (digOk_rd (B := 256) (by decide) (xs := tl) (fun x hx => bytesOf_all text x (by rw [← HT.out]; exact hx)) k).2; omega)
            have HS := hid hs
            have HW := hid hw
            clear hs hw
            go_wp2_with (first | (apply wpList_bxN 2; (· rfl); (· rfl); (· rfl); (· rfl); (· assumption); intro b2 w' M'; (conv => arg 5; simp only [Act.put, List.setIfInBounds_toArray, List.set_cons_succ, List.set_cons_zero])) | (apply wpList_ldrowN Try.underlying23 s23; (· rfl); (· rfl); (· rfl); (· rfl); (· assumption); (· (repeat (first | exact List.mem_cons_self | refine List.mem_cons_of_mem _ ?_))); (· (first | with_reducible assumption | omega | (simp only [nums_length, List.length_set, List.length_replicate]; first | with_reducible assumption | omega) | rfl | (simp [*]; done) | (simp [*]; omega))); (conv => arg 5; simp only [Act.put, List.setIfInBounds_toArray, List.set_cons_succ, List.set_cons_zero])) | (apply wpList_app1 Try.underlying50 i52; (· rfl); (· rfl); (· rfl); (· rfl); (· assumption); (· intro A' cap'; (repeat (first | exact Swap.head | apply Swap.tail))); (· omega); (· omega); intro A' cap' w' M'; (conv => arg 5; simp only [Act.put, List.setIfInBounds_toArray, List.set_cons_succ, List.set_cons_zero])) | (apply wpList_app4 Try.underlying50 i52; (· rfl); (· rfl); (· rfl); (· rfl); (· assumption); (· intro A' cap'; (repeat (first | exact Swap.head | apply Swap.tail))); (· omega); (· omega); intro A' cap' w' M'; (conv => arg 5; simp only [Act.put, List.setIfInBounds_toArray, List.set_cons_succ, List.set_cons_zero])) | (apply wpList_ldN Try.underlying5; (· rfl); (· rfl); (· rfl); (· rfl); (· assumption); (· (repeat (first | exact List.mem_cons_self | refine List.mem_cons_of_mem _ ?_))); (· (first | with_reducible assumption | omega | (simp only [nums_length, List.length_set, List.length_replicate]; first | with_reducible assumption | omega) | rfl | (simp [*]; done) | (simp [*]; omega))); (conv => arg 5; simp only [Act.put, List.setIfInBounds_toArray, List.set_cons_succ, List.set_cons_zero])) | (apply wpList_ldN Try.underlying52; (· rfl); (· rfl); (· rfl); (· rfl); (· assumption); (· (repeat (first | exact List.mem_cons_self | refine List.mem_cons_of_mem _ ?_))); (· (first | with_reducible assumption | omega | (simp only [nums_length, List.length_set, List.length_replicate]; first | with_reducible assumption | omega) | rfl | (simp [*]; done) | (simp [*]; omega))); (conv => arg 5; simp only [Act.put, List.setIfInBounds_toArray, List.set_cons_succ, List.set_cons_zero])) | (apply wpList_app1 Try.underlying47 i5; (· rfl); (· rfl); (· rfl); (· rfl); (· assumption); (· intro A' cap'; (repeat (first | exact Swap.head | apply Swap.tail))); (· omega); (· omega); intro A' cap' w' M'; (conv => arg 5; simp only [Act.put, List.setIfInBounds_toArray, List.set_cons_succ, List.set_cons_zero])) | (apply wpList_app4 Try.underlying47 i5; (· rfl); (· rfl); (· rfl); (· rfl); (· assumption); (· intro A' cap'; (repeat (first | exact Swap.head | apply Swap.tail))); (· omega); (· omega); intro A' cap' w' M'; (conv => arg 5; simp only [Act.put, List.setIfInBounds_toArray, List.set_cons_succ, List.set_cons_zero])) | (apply wpList_cvV Try.underlying47 Try.underlying5 Try.underlying9; (· rfl); (· rfl); (· rfl); (· assumption); (· (repeat (first | exact List.mem_cons_self | refine List.mem_cons_of_mem _ ?_))); (conv => arg 5; simp only [Act.put, List.setIfInBounds_toArray, List.set_cons_succ, List.set_cons_zero])) | (apply wpList_cvS Try.underlying47 Try.underlying5 Try.underlying9; (· rfl); (· rfl); (· rfl); (· assumption); (· (repeat (first | exact List.mem_cons_self | refine List.mem_cons_of_mem _ ?_))); (· (first | with_reducible assumption | omega | (simp only [nums_length, List.length_set, List.length_replicate]; first | with_reducible assumption | omega) | rfl | (simp [*]; done) | (simp [*]; omega))); (conv => arg 5; simp only [Act.put, List.setIfInBounds_toArray, List.set_cons_succ, List.set_cons_zero])))
            go_roundw
            case rel => exact ⟨j + 1, k + 1, A', cap', rfl, by go_num, by omega, by omega, hid (by rw [HK.out]; omega), by rw [← HT.out, HW.out] at M'; rw [HS.out]; exact M'⟩
            case measure => simp [intOf]; omega
          · have hkm : ¬ (k : Int) < (m : Int) + 16 := by have := HK.out; omega
            have hpart : Hid ((tl.drop m).take j = (tl.drop m).take 16) := hid (by rw [show j = 16 from by omega])
            obtain ⟨pt, hpt⟩ : ∃ x, x = (tl.drop m).take j := ⟨_, rfl⟩
            have hptl : pt.length = j := by
              have := HK.out
              rw [hpt, List.length_take, List.length_drop]
              omega
            have hptk : digOk 256 (pt ++ [1]) := digOk_append (fun x hx => by rw [hpt] at hx; exact bytesOf_all text x (by rw [← HT.out]; exact List.mem_of_mem_drop (List.mem_of_mem_take hx))) (fun x hx => by simp at hx; omega)
            have hpl : (pt ++ [1]).length = j + 1 := by simp [hptl]
            rw [← hpt] at Mi hpart
            have HPLn := hid hpl
            clear hptl hpl hpt
            go_wp2_with (first | (apply wpList_bxN 2; (· rfl); (· rfl); (· rfl); (· rfl); (· assumption); intro b2 w' M'; (conv => arg 5; simp only [Act.put, List.setIfInBounds_toArray, List.set_cons_succ, List.set_cons_zero])) | (apply wpList_ldrowN Try.underlying23 s23; (· rfl); (· rfl); (· rfl); (· rfl); (· assumption); (· (repeat (first | exact List.mem_cons_self | refine List.mem_cons_of_mem _ ?_))); (· (first | with_reducible assumption | omega | (simp only [nums_length, List.length_set, List.length_replicate]; first | with_reducible assumption | omega) | rfl | (simp [*]; done) | (simp [*]; omega))); (conv => arg 5; simp only [Act.put, List.setIfInBounds_toArray, List.set_cons_succ, List.set_cons_zero])) | (apply wpList_app1 Try.underlying50 i52; (· rfl); (· rfl); (· rfl); (· rfl); (· assumption); (· intro A' cap'; (repeat (first | exact Swap.head | apply Swap.tail))); (· omega); (· omega); intro A' cap' w' M'; (conv => arg 5; simp only [Act.put, List.setIfInBounds_toArray, List.set_cons_succ, List.set_cons_zero])) | (apply wpList_app4 Try.underlying50 i52; (· rfl); (· rfl); (· rfl); (· rfl); (· assumption); (· intro A' cap'; (repeat (first | exact Swap.head | apply Swap.tail))); (· omega); (· omega); intro A' cap' w' M'; (conv => arg 5; simp only [Act.put, List.setIfInBounds_toArray, List.set_cons_succ, List.set_cons_zero])) | (apply wpList_ldN Try.underlying5; (· rfl); (· rfl); (· rfl); (· rfl); (· assumption); (· (repeat (first | exact List.mem_cons_self | refine List.mem_cons_of_mem _ ?_))); (· (first | with_reducible assumption | omega | (simp only [nums_length, List.length_set, List.length_replicate]; first | with_reducible assumption | omega) | rfl | (simp [*]; done) | (simp [*]; omega))); (conv => arg 5; simp only [Act.put, List.setIfInBounds_toArray, List.set_cons_succ, List.set_cons_zero])) | (apply wpList_ldN Try.underlying52; (· rfl); (· rfl); (· rfl); (· rfl); (· assumption); (· (repeat (first | exact List.mem_cons_self | refine List.mem_cons_of_mem _ ?_))); (· (first | with_reducible assumption | omega | (simp only [nums_length, List.length_set, List.length_replicate]; first | with_reducible assumption | omega) | rfl | (simp [*]; done) | (simp [*]; omega))); (conv => arg 5; simp only [Act.put, List.setIfInBounds_toArray, List.set_cons_succ, List.set_cons_zero])) | (apply wpList_app1 Try.underlying47 i5; (· rfl); (· rfl); (· rfl); (· rfl); (· assumption); (· intro A' cap'; (repeat (first | exact Swap.head | apply Swap.tail))); (· omega); (· omega); intro A' cap' w' M'; (conv => arg 5; simp only [Act.put, List.setIfInBounds_toArray, List.set_cons_succ, List.set_cons_zero])) | (apply wpList_app4 Try.underlying47 i5; (· rfl); (· rfl); (· rfl); (· rfl); (· assumption); (· intro A' cap'; (repeat (first | exact Swap.head | apply Swap.tail))); (· omega); (· omega); intro A' cap' w' M'; (conv => arg 5; simp only [Act.put, List.setIfInBounds_toArray, List.set_cons_succ, List.set_cons_zero])) | (apply wpList_cvV Try.underlying47 Try.underlying5 Try.underlying9; (· rfl); (· rfl); (· rfl); (· assumption); (· (repeat (first | exact List.mem_cons_self | refine List.mem_cons_of_mem _ ?_))); (conv => arg 5; simp only [Act.put, List.setIfInBounds_toArray, List.set_cons_succ, List.set_cons_zero])) | (apply wpList_cvS Try.underlying47 Try.underlying5 Try.underlying9; (· rfl); (· rfl); (· rfl); (· assumption); (· (repeat (first | exact List.mem_cons_self | refine List.mem_cons_of_mem _ ?_))); (· (first | with_reducible assumption | omega | (simp only [nums_length, List.length_set, List.length_replicate]; first | with_reducible assumption | omega) | rfl | (simp [*]; done) | (simp [*]; omega))); (conv => arg 5; simp only [Act.put, List.setIfInBounds_toArray, List.set_cons_succ, List.set_cons_zero])))
            have rP := (M'.rowR List.mem_cons_self).1
            have HPL := Plus47 Z A' cap cap' ys (pt ++ [1]) _ (rZ.kept M') rP HQ.out.2.ok hptk (by omega) (by rw [HPLn.out]; omega)
            rw [HPLn.out] at HPL
            refine HPL.mono ?_; rintro e w1 ⟨Z2, c2, p1, rfl, M1, o1, v1, l1⟩
            have Mq := M'.join M1
            have hl1 : p1.length ≤ 40 * q + 41 := by
              have := HQ.out.2.len
              omega
            have r1 := (Mq.rowR List.mem_cons_self).1
            have hq : q ≤ 1062 := by have := HQ.out.1; omega
            have HTI := Times32 Z2 Zr c2 cr p1 rs _ r1 (rR.kept Mq) o1 hRok (by omega) (by omega)
            rw [hRlen] at HTI
            have V1 := hid v1
            clear HPL v1 l1 rP M1 M' rZ
            go_wp2_with fail
            refine HTI.mono ?_; rintro e w2 ⟨Z3, c3, p2, rfl, M2, o2, v2, l2⟩
            have Mq2 := Mq.join M2
            have r2 := (Mq2.rowR List.mem_cons_self).1
            have HRE := Rest31 Z3 c3 p2 _ r2 o2 (40 * q + 58) (by omega) (by omega) (by omega)
            have V2 := hid v2
            clear HTI v2 l2 r1 M2 Mq
            go_wp2_with fail
            refine HRE.mono ?_; rintro e w3 ⟨Z4, c4, p3, rfl, hb, r4, o3, v3, l3⟩
            have Mw := Mr.call (Mq2.call hb).below
            have V3 := hid v3
            clear HRE v3 hb Mq2 r2
            go_wp2_with fail
            go_roundw
            case rel => exact ⟨q + 1, m + 16, Z4, c4, p3, rfl, by go_num, by omega, r4, hid ⟨by have := HQ.out.1; omega, acc_round _ tl ys p1 p2 p3 (pt ++ [1]) q V1.out V2.out V3.out (by rw [hpart.out, HQ.out.1]) HQ.out.2 o3 l3⟩, Mw⟩
            case measure => simp [intOf]; omega
        · have hkI : ¬ (k : Int) < (text.size : Int) := by omega
          have hpart : Hid ((tl.drop m).take j = (tl.drop m).take 16) := hid (by
            have := HK.out
            rw [List.take_of_length_le (by rw [List.length_drop]; omega), List.take_of_length_le (by rw [List.length_drop]; omega)])
          obtain ⟨pt, hpt⟩ : ∃ x, x = (tl.drop m).take j := ⟨_, rfl⟩
          have hptl : pt.length = j := by
            have := HK.out
            rw [hpt, List.length_take, List.length_drop]
            omega
          have hptk : digOk 256 (pt ++ [1]) := digOk_append (fun x hx => by rw [hpt] at hx; exact bytesOf_all text x (by rw [← HT.out]; exact List.mem_of_mem_drop (List.mem_of_mem_take hx))) (fun x hx => by simp at hx; omega)
          have hpl : (pt ++ [1]).length = j + 1 := by simp [hptl]
          rw [← hpt] at Mi hpart
          have HPLn := hid hpl
          clear hptl hpl hpt
          go_wp2_with (first | (apply wpList_bxN 2; (· rfl); (· rfl); (· rfl); (· rfl); (· assumption); intro b2 w' M'; (conv => arg 5; simp only [Act.put, List.setIfInBounds_toArray, List.set_cons_succ, List.set_cons_zero])) | (apply wpList_ldrowN Try.underlying23 s23; (· rfl); (· rfl); (· rfl); (· rfl); (· assumption); (· (repeat (first | exact List.mem_cons_self | refine List.mem_cons_of_mem _ ?_))); (· (first | with_reducible assumption | omega | (simp only [nums_length, List.length_set, List.length_replicate]; first | with_reducible assumption | omega) | rfl | (simp [*]; done) | (simp [*]; omega))); (conv => arg 5; simp only [Act.put, List.setIfInBounds_toArray, List.set_cons_succ, List.set_cons_zero])) | (apply wpList_app1 Try.underlying50 i52; (· rfl); (· rfl); (· rfl); (· rfl); (· assumption); (· intro A' cap'; (repeat (first | exact Swap.head | apply Swap.tail))); (· omega); (· omega); intro A' cap' w' M'; (conv => arg 5; simp only [Act.put, List.setIfInBounds_toArray, List.set_cons_succ, List.set_cons_zero])) | (apply wpList_app4 Try.underlying50 i52; (· rfl); (· rfl); (· rfl); (· rfl); (· assumption); (· intro A' cap'; (repeat (first | exact Swap.head | apply Swap.tail))); (· omega); (· omega); intro A' cap' w' M'; (conv => arg 5; simp only [Act.put, List.setIfInBounds_toArray, List.set_cons_succ, List.set_cons_zero])) | (apply wpList_ldN Try.underlying5; (· rfl); (· rfl); (· rfl); (· rfl); (· assumption); (· (repeat (first | exact List.mem_cons_self | refine List.mem_cons_of_mem _ ?_))); (· (first | with_reducible assumption | omega | (simp only [nums_length, List.length_set, List.length_replicate]; first | with_reducible assumption | omega) | rfl | (simp [*]; done) | (simp [*]; omega))); (conv => arg 5; simp only [Act.put, List.setIfInBounds_toArray, List.set_cons_succ, List.set_cons_zero])) | (apply wpList_ldN Try.underlying52; (· rfl); (· rfl); (· rfl); (· rfl); (· assumption); (· (repeat (first | exact List.mem_cons_self | refine List.mem_cons_of_mem _ ?_))); (· (first | with_reducible assumption | omega | (simp only [nums_length, List.length_set, List.length_replicate]; first | with_reducible assumption | omega) | rfl | (simp [*]; done) | (simp [*]; omega))); (conv => arg 5; simp only [Act.put, List.setIfInBounds_toArray, List.set_cons_succ, List.set_cons_zero])) | (apply wpList_app1 Try.underlying47 i5; (· rfl); (· rfl); (· rfl); (· rfl); (· assumption); (· intro A' cap'; (repeat (first | exact Swap.head | apply Swap.tail))); (· omega); (· omega); intro A' cap' w' M'; (conv => arg 5; simp only [Act.put, List.setIfInBounds_toArray, List.set_cons_succ, List.set_cons_zero])) | (apply wpList_app4 Try.underlying47 i5; (· rfl); (· rfl); (· rfl); (· rfl); (· assumption); (· intro A' cap'; (repeat (first | exact Swap.head | apply Swap.tail))); (· omega); (· omega); intro A' cap' w' M'; (conv => arg 5; simp only [Act.put, List.setIfInBounds_toArray, List.set_cons_succ, List.set_cons_zero])) | (apply wpList_cvV Try.underlying47 Try.underlying5 Try.underlying9; (· rfl); (· rfl); (· rfl); (· assumption); (· (repeat (first | exact List.mem_cons_self | refine List.mem_cons_of_mem _ ?_))); (conv => arg 5; simp only [Act.put, List.setIfInBounds_toArray, List.set_cons_succ, List.set_cons_zero])) | (apply wpList_cvS Try.underlying47 Try.underlying5 Try.underlying9; (· rfl); (· rfl); (· rfl); (· assumption); (· (repeat (first | exact List.mem_cons_self | refine List.mem_cons_of_mem _ ?_))); (· (first | with_reducible assumption | omega | (simp only [nums_length, List.length_set, List.length_replicate]; first | with_reducible assumption | omega) | rfl | (simp [*]; done) | (simp [*]; omega))); (conv => arg 5; simp only [Act.put, List.setIfInBounds_toArray, List.set_cons_succ, List.set_cons_zero])))
          have rP := (M'.rowR List.mem_cons_self).1
          have HPL := Plus47 Z A' cap cap' ys (pt ++ [1]) _ (rZ.kept M') rP HQ.out.2.ok hptk (by omega) (by rw [HPLn.out]; omega)
          rw [HPLn.out] at HPL
          refine HPL.mono ?_; rintro e w1 ⟨Z2, c2, p1, rfl, M1, o1, v1, l1⟩
          have Mq := M'.join M1
          have hl1 : p1.length ≤ 40 * q + 41 := by
            have := HQ.out.2.len
            omega
          have r1 := (Mq.rowR List.mem_cons_self).1
          have hq : q ≤ 1062 := by have := HQ.out.1; omega
          have HTI := Times32 Z2 Zr c2 cr p1 rs _ r1 (rR.kept Mq) o1 hRok (by omega) (by omega)
          rw [hRlen] at HTI
          have V1 := hid v1
          clear HPL v1 l1 rP M1 M' rZ
          go_wp2_with fail
          refine HTI.mono ?_; rintro e w2 ⟨Z3, c3, p2, rfl, M2, o2, v2, l2⟩
          have Mq2 := Mq.join M2
          have r2 := (Mq2.rowR List.mem_cons_self).1
          have HRE := Rest31 Z3 c3 p2 _ r2 o2 (40 * q + 58) (by omega) (by omega) (by omega)
          have V2 := hid v2
          clear HTI v2 l2 r1 M2 Mq
          go_wp2_with fail
          refine HRE.mono ?_; rintro e w3 ⟨Z4, c4, p3, rfl, hb, r4, o3, v3, l3⟩
          have Mw := Mr.call (Mq2.call hb).below
          have V3 := hid v3
          clear HRE v3 hb Mq2 r2
          go_wp2_with fail
          go_roundw
          case rel => exact ⟨q + 1, m + 16, Z4, c4, p3, rfl, by go_num, by omega, r4, hid ⟨by have := HQ.out.1; omega, acc_round _ tl ys p1 p2 p3 (pt ++ [1]) q V1.out V2.out V3.out (by rw [hpart.out, HQ.out.1]) HQ.out.2 o3 l3⟩, Mw⟩
          case measure => simp [intOf]; omega
    · have hltI : ¬ (m : Int) < (text.size : Int) := by omega
      have hys := HQ.out.2.ok
      have hval : Hid (dv 256 ys = accN (dv 256 rs) tl ((tl.length + 15) / 16)) := by
        obtain ⟨h1, h2⟩ := HQ.out
        rw [show (tl.length + 15) / 16 = q from by omega]
        exact hid h2.val
      clear HQ
      have hkc : ∀ k, k < 32 → wr.cell? ⟨b2, k, none⟩ = some (.int .u8 (rd key k)) := fun k h => Mr.cell (List.mem_cons_of_mem _ List.mem_cons_self) (nums_get .u8 key k (by omega))
      have HKC := hid hkc
      clear hkc
      go_wp2_with fail
      have Ms := (Mem.start wr).nil 52 1
      go_loopw [10, 11] (fun v n wi => ∃ (j k : Nat) (Z1 : Option Addr) (c1 : Nat), v = .slice Z1 j c1 ∧ n = .int .i64 k ∧ k ≤ 32 ∧ Hid (k = 16 + j) ∧ Mem wr [] wi [.vec Z1 j c1 52 1 (nums .u64 ((key.drop 16).take j))]) (fun _ n _ => 32 - (intOf n).toNat)
      case atStart => exact ⟨0, 16, none, 0, rfl, rfl, by omega, hid rfl, Ms⟩
      case round =>
        obtain ⟨j, k, Z1, c1, rfl, rfl, hk2, HK, Mi⟩ := hrel
        clear Ms
        by_cases hks : k < 32
        · have hkI : (k : Int) < 32 := by omega
          have hc := Mi.cell0 (HKC.out k hks)
          have hs := cut_succ key 16 j (by have := HK.out; omega)
          rw [← HK.out] at hs
          obtain ⟨y0, y1⟩ := digOk_rd (B := 256) (by decide) hkb k
          have hj : j ≤ 32 := by have := HK.out; omega
          obtain ⟨y, hy⟩ : ∃ y, y = rd key k := ⟨_, rfl⟩
          rw [← hy] at hs hc y0 y1
          have HS := hid hs
          clear hs hy
          go_wp2_with (first | (apply wpList_bxN 2; (· rfl); (· rfl); (· rfl); (· rfl); (· assumption); intro b2 w' M'; (conv => arg 5; simp only [Act.put, List.setIfInBounds_toArray, List.set_cons_succ, List.set_cons_zero])) | (apply wpList_ldrowN Try.underlying23 s23; (· rfl); (· rfl); (· rfl); (· rfl); (· assumption); (· (repeat (first | exact List.mem_cons_self | refine List.mem_cons_of_mem _ ?_))); (· (first | with_reducible assumption | omega | (simp only [nums_length, List.length_set, List.length_replicate]; first | with_reducible assumption | omega) | rfl | (simp [*]; done) | (simp [*]; omega))); (conv => arg 5; simp only [Act.put, List.setIfInBounds_toArray, List.set_cons_succ, List.set_cons_zero])) | (apply wpList_app1 Try.underlying50 i52; (· rfl); (· rfl); (· rfl); (· rfl); (· assumption); (· intro A' cap'; (repeat (first | exact Swap.head | apply Swap.tail))); (· omega); (· omega); intro A' cap' w' M'; (conv => arg 5; simp only [Act.put, List.setIfInBounds_toArray, List.set_cons_succ, List.set_cons_zero])) | (apply wpList_app4 Try.underlying50 i52; (· rfl); (· rfl); (· rfl); (· rfl); (· assumption); (· intro A' cap'; (repeat (first | exact Swap.head | apply Swap.tail))); (· omega); (· omega); intro A' cap' w' M'; (conv => arg 5; simp only [Act.put, List.setIfInBounds_toArray, List.set_cons_succ, List.set_cons_zero])) | (apply wpList_ldN Try.underlying5; (· rfl); (· rfl); (· rfl); (· rfl); (· assumption); (· (repeat (first | exact List.mem_cons_self | refine List.mem_cons_of_mem _ ?_))); (· (first | with_reducible assumption | omega | (simp only [nums_length, List.length_set, List.length_replicate]; first | with_reducible assumption | omega) | rfl | (simp [*]; done) | (simp [*]; omega))); (conv => arg 5; simp only [Act.put, List.setIfInBounds_toArray, List.set_cons_succ, List.set_cons_zero])) | (apply wpList_ldN Try.underlying52; (· rfl); (· rfl); (· rfl); (· rfl); (· assumption); (· (repeat (first | exact List.mem_cons_self | refine List.mem_cons_of_mem _ ?_))); (· (first | with_reducible assumption | omega | (simp only [nums_length, List.length_set, List.length_replicate]; first | with_reducible assumption | omega) | rfl | (simp [*]; done) | (simp [*]; omega))); (conv => arg 5; simp only [Act.put, List.setIfInBounds_toArray, List.set_cons_succ, List.set_cons_zero])) | (apply wpList_app1 Try.underlying47 i5; (· rfl); (· rfl); (· rfl); (· rfl); (· assumption); (· intro A' cap'; (repeat (first | exact Swap.head | apply Swap.tail))); (· omega); (· omega); intro A' cap' w' M'; (conv => arg 5; simp only [Act.put, List.setIfInBounds_toArray, List.set_cons_succ, List.set_cons_zero])) | (apply wpList_app4 Try.underlying47 i5; (· rfl); (· rfl); (· rfl); (· rfl); (· assumption); (· intro A' cap'; (repeat (first | exact Swap.head | apply Swap.tail))); (· omega); (· omega); intro A' cap' w' M'; (conv => arg 5; simp only [Act.put, List.setIfInBounds_toArray, List.set_cons_succ, List.set_cons_zero])) | (apply wpList_cvV Try.underlying47 Try.underlying5 Try.underlying9; (· rfl); (· rfl); (· rfl); (· assumption); (· (repeat (first | exact List.mem_cons_self | refine List.mem_cons_of_mem _ ?_))); (conv => arg 5; simp only [Act.put, List.setIfInBounds_toArray, List.set_cons_succ, List.set_cons_zero])) | (apply wpList_cvS Try.underlying47 Try.underlying5 Try.underlying9; (· rfl); (· rfl); (· rfl); (· assumption); (· (repeat (first | exact List.mem_cons_self | refine List.mem_cons_of_mem _ ?_))); (· (first | with_reducible assumption | omega | (simp only [nums_length, List.length_set, List.length_replicate]; first | with_reducible assumption | omega) | rfl | (simp [*]; done) | (simp [*]; omega))); (conv => arg 5; simp only [Act.put, List.setIfInBounds_toArray, List.set_cons_succ, List.set_cons_zero])))
          go_roundw
          case rel => exact ⟨j + 1, k + 1, A', cap', rfl, by go_num, by omega, hid (by rw [HK.out]; omega), by rw [HS.out]; exact M'⟩
          case measure => simp [intOf]; omega
        · obtain rfl : k = 32 := by omega
          obtain rfl : j = 16 := by have := HK.out; omega
          rw [show ((32 : Nat) : Int) = 32 from rfl]
          rw [List.take_of_length_le (by rw [List.length_drop]; omega)] at Mi
          have hkd : (key.drop 16).length = 16 := by rw [List.length_drop]; omega
          have r1 := (Mi.rowR List.mem_cons_self).1
          have HPL := Plus47 Z Z1 cap c1 ys (key.drop 16) _ (rZ.kept Mi) r1 hys (digOk_drop hkb 16) (by omega) (by omega)
          rw [hkd] at HPL
          have HKD := hid hkd
          clear hkd HK
          go_wp2_with fail
          refine HPL.mono ?_; rintro e w1 ⟨Z2, c2, ps, rfl, M1, o1, v1, l1⟩
          have Mq := M1.below
          have r2 := (M1.rowR List.mem_cons_self).1
          have hpl : ps.length ≤ 42700 := by omega
          have M2 := Mr.call (Mi.call Mq).below
          have HT2 : Hid (tg = digs 256 16 (dv 256 ps)) := hid (by rw [HTV.out, v1, hval.out])
          clear HPL v1 l1 Mi Mq M1
          go_wp2_with fail
          have Mo := (Mem.start w1).nil 5 1
          go_loopw [13, 14] (fun v n wi => ∃ (i : Nat) (Z1 : Option Addr) (c1 : Nat), v = .slice Z1 i c1 ∧ n = .int .i64 i ∧ i ≤ 16 ∧ Mem w1 [] wi [.vec Z1 i c1 5 1 (nums .u8 (tg.take i))]) (fun _ n _ => 16 - (intOf n).toNat)
          case atStart => exact ⟨0, none, 0, rfl, rfl, by omega, Mo⟩
          case round =>
            obtain ⟨i, Z5, c5, rfl, rfl, hi, Mi⟩ := hrel
            clear Mo
            by_cases hlt : i < 16
            · have hltI : (i : Int) < 16 := by omega
              have hs := digs_take_succ 256 (by decide) 16 (dv 256 ps) i hlt
              rw [digit_any o1, ← HT2.out] at hs
              obtain ⟨y0, y1⟩ := digOk_rd (B := 256) (by decide) o1 i
              by_cases hip : i < ps.length
              · have hipI : (i : Int) < (ps.length : Int) := by omega
                obtain ⟨b, off, rfl, hc⟩ := r2.at hip
                have hc' := Mi.cell0 hc
                obtain ⟨y, hy⟩ : ∃ y, y = rd ps i := ⟨_, rfl⟩
                rw [← hy] at hs hc' y0 y1
                have HS := hid hs
                clear hs hy hc
                go_wp2_with (first | (apply wpList_bxN 2; (· rfl); (· rfl); (· rfl); (· rfl); (· assumption); intro b2 w' M'; (conv => arg 5; simp only [Act.put, List.setIfInBounds_toArray, List.set_cons_succ, List.set_cons_zero])) | (apply wpList_ldrowN Try.underlying23 s23; (· rfl); (· rfl); (· rfl); (· rfl); (· assumption); (· (repeat (first | exact List.mem_cons_self | refine List.mem_cons_of_mem _ ?_))); (· (first | with_reducible assumption | omega | (simp only [nums_length, List.length_set, List.length_replicate]; first | with_reducible assumption | omega) | rfl | (simp [*]; done) | (simp [*]; omega))); (conv => arg 5; simp only [Act.put, List.setIfInBounds_toArray, List.set_cons_succ, List.set_cons_zero])) | (apply wpList_app1 Try.underlying50 i52; (· rfl); (· rfl); (· rfl); (· rfl); (· assumption); (· intro A' cap'; (repeat (first | exact Swap.head | apply Swap.tail))); (· omega); (· omega); intro A' cap' w' M'; (conv => arg 5; simp only [Act.put, List.setIfInBounds_toArray, List.set_cons_succ, List.set_cons_zero])) | (apply wpList_app4 Try.underlying50 i52; (· rfl); (· rfl); (· rfl); (· rfl); (· assumption); (· intro A' cap'; (repeat (first | exact Swap.head | apply Swap.tail))); (· omega); (· omega); intro A' cap' w' M'; (conv => arg 5; simp only [Act.put, List.setIfInBounds_toArray, List.set_cons_succ, List.set_cons_zero])) | (apply wpList_ldN Try.underlying5; (· rfl); (· rfl); (· rfl); (· rfl); (· assumption); (· (repeat (first | exact List.mem_cons_self | refine List.mem_cons_of_mem _ ?_))); (· (first | with_reducible assumption | omega | (simp only [nums_length, List.length_set, List.length_replicate]; first | with_reducible assumption | omega) | rfl | (simp [*]; done) | (simp [*]; omega))); (conv => arg 5; simp only [Act.put, List.setIfInBounds_toArray, List.set_cons_succ, List.set_cons_zero])) | (apply wpList_ldN Try.underlying52; (· rfl); (· rfl); (· rfl); (· rfl); (· assumption); (· (repeat (first | exact List.mem_cons_self | refine List.mem_cons_of_mem _ ?_))); (· (first | with_reducible assumption | omega | (simp only [nums_length, List.length_set, List.length_replicate]; first | with_reducible assumption | omega) | rfl | (simp [*]; done) | (simp [*]; omega))); (conv => arg 5; simp only [Act.put, List.setIfInBounds_toArray, List.set_cons_succ, List.set_cons_zero])) | (apply wpList_app1 Try.underlying47 i5; (· rfl); (· rfl); (· rfl); (· rfl); (· assumption); (· intro A' cap'; (repeat (first | exact Swap.head | apply Swap.tail))); (· omega); (· omega); intro A' cap' w' M'; (conv => arg 5; simp only [Act.put, List.setIfInBounds_toArray, List.set_cons_succ, List.set_cons_zero])) | (apply wpList_app4 Try.underlying47 i5; (· rfl); (· rfl); (· rfl); (· rfl); (· assumption); (· intro A' cap'; (repeat (first | exact Swap.head | apply Swap.tail))); (· omega); (· omega); intro A' cap' w' M'; (conv => arg 5; simp only [Act.put, List.setIfInBounds_toArray, List.set_cons_succ, List.set_cons_zero])) | (apply wpList_cvV Try.underlying47 Try.underlying5 Try.underlying9; (· rfl); (· rfl); (· rfl); (· assumption); (· (repeat (first | exact List.mem_cons_self | refine List.mem_cons_of_mem _ ?_))); (conv => arg 5; simp only [Act.put, List.setIfInBounds_toArray, List.set_cons_succ, List.set_cons_zero])) | (apply wpList_cvS Try.underlying47 Try.underlying5 Try.underlying9; (· rfl); (· rfl); (· rfl); (· assumption); (· (repeat (first | exact List.mem_cons_self | refine List.mem_cons_of_mem _ ?_))); (· (first | with_reducible assumption | omega | (simp only [nums_length, List.length_set, List.length_replicate]; first | with_reducible assumption | omega) | rfl | (simp [*]; done) | (simp [*]; omega))); (conv => arg 5; simp only [Act.put, List.setIfInBounds_toArray, List.set_cons_succ, List.set_cons_zero])))
                go_roundw
                case rel => exact ⟨i + 1, A', cap', rfl, by go_num, by omega, by rw [HS.out]; exact M'⟩
                case measure => simp [intOf]; omega
              · have hipI : ¬ (i : Int) < (ps.length : Int) := by omega
                rw [rd_out ps i (by omega)] at hs
                have HS := hid hs
                clear hs y0 y1
                go_wp2_with (first | (apply wpList_bxN 2; (· rfl); (· rfl); (· rfl); (· rfl); (· assumption); intro b2 w' M'; (conv => arg 5; simp only [Act.put, List.setIfInBounds_toArray, List.set_cons_succ, List.set_cons_zero])) | (apply wpList_ldrowN Try.underlying23 s23; (· rfl); (· rfl); (· rfl); (· rfl); (· assumption); (· (repeat (first | exact List.mem_cons_self | refine List.mem_cons_of_mem _ ?_))); (· (first | with_reducible assumption | omega | (simp only [nums_length, List.length_set, List.length_replicate]; first | with_reducible assumption | omega) | rfl | (simp [*]; done) | (simp [*]; omega))); (conv => arg 5; simp only [Act.put, List.setIfInBounds_toArray, List.set_cons_succ, List.set_cons_zero])) | (apply wpList_app1 Try.underlying50 i52; (· rfl); (· rfl); (· rfl); (· rfl); (· assumption); (· intro A' cap'; (repeat (first | exact Swap.head | apply Swap.tail))); (· omega); (· omega); intro A' cap' w' M'; (conv => arg 5; simp only [Act.put, List.setIfInBounds_toArray, List.set_cons_succ, List.set_cons_zero])) | (apply wpList_app4 Try.underlying50 i52; (· rfl); (· rfl); (· rfl); (· rfl); (· assumption); (· intro A' cap'; (repeat (first | exact Swap.head | apply Swap.tail))); (· omega); (· omega); intro A' cap' w' M'; (conv => arg 5; simp only [Act.put, List.setIfInBounds_toArray, List.set_cons_succ, List.set_cons_zero])) | (apply wpList_ldN Try.underlying5; (· rfl); (· rfl); (· rfl); (· rfl); (· assumption); (· (repeat (first | exact List.mem_cons_self | refine List.mem_cons_of_mem _ ?_))); (· (first | with_reducible assumption | omega | (simp only [nums_length, List.length_set, List.length_replicate]; first | with_reducible assumption | omega) | rfl | (simp [*]; done) | (simp [*]; omega))); (conv => arg 5; simp only [Act.put, List.setIfInBounds_toArray, List.set_cons_succ, List.set_cons_zero])) | (apply wpList_ldN Try.underlying52; (· rfl); (· rfl); (· rfl); (· rfl); (· assumption); (· (repeat (first | exact List.mem_cons_self | refine List.mem_cons_of_mem _ ?_))); (· (first | with_reducible assumption | omega | (simp only [nums_length, List.length_set, List.length_replicate]; first | with_reducible assumption | omega) | rfl | (simp [*]; done) | (simp [*]; omega))); (conv => arg 5; simp only [Act.put, List.setIfInBounds_toArray, List.set_cons_succ, List.set_cons_zero])) | (apply wpList_app1 Try.underlying47 i5; (· rfl); (· rfl); (· rfl); (· rfl); (· assumption); (· intro A' cap'; (repeat (first | exact Swap.head | apply Swap.tail))); (· omega); (· omega); intro A' cap' w' M'; (conv => arg 5; simp only [Act.put, List.setIfInBounds_toArray, List.set_cons_succ, List.set_cons_zero])) | (apply wpList_app4 Try.underlying47 i5; (· rfl); (· rfl); (· rfl); (· rfl); (· assumption); (· intro A' cap'; (repeat (first | exact Swap.head | apply Swap.tail))); (· omega); (· omega); intro A' cap' w' M'; (conv => arg 5; simp only [Act.put, List.setIfInBounds_toArray, List.set_cons_succ, List.set_cons_zero])) | (apply wpList_cvV Try.underlying47 Try.underlying5 Try.underlying9; (· rfl); (· rfl); (· rfl); (· assumption); (· (repeat (first | exact List.mem_cons_self | refine List.mem_cons_of_mem _ ?_))); (conv => arg 5; simp only [Act.put, List.setIfInBounds_toArray, List.set_cons_succ, List.set_cons_zero])) | (apply wpList_cvS Try.underlying47 Try.underlying5 Try.underlying9; (· rfl); (· rfl); (· rfl); (· assumption); (· (repeat (first | exact List.mem_cons_self | refine List.mem_cons_of_mem _ ?_))); (· (first | with_reducible assumption | omega | (simp only [nums_length, List.length_set, List.length_replicate]; first | with_reducible assumption | omega) | rfl | (simp [*]; done) | (simp [*]; omega))); (conv => arg 5; simp only [Act.put, List.setIfInBounds_toArray, List.set_cons_succ, List.set_cons_zero])))
                go_roundw
                case rel => exact ⟨i + 1, A', cap', rfl, by go_num, by omega, by rw [HS.out]; exact M'⟩
                case measure => simp [intOf]; omega
            · obtain rfl : i = 16 := by omega
              rw [show ((16 : Nat) : Int) = 16 from rfl]
              rw [List.take_of_length_le (by rw [HT2.out, digs_length]; omega)] at Mi
              go_wp2_with (first | (apply wpList_bxN 2; (· rfl); (· rfl); (· rfl); (· rfl); (· assumption); intro b2 w' M'; (conv => arg 5; simp only [Act.put, List.setIfInBounds_toArray, List.set_cons_succ, List.set_cons_zero])) | (apply wpList_ldrowN Try.underlying23 s23; (· rfl); (· rfl); (· rfl); (· rfl); (· assumption); (· (repeat (first | exact List.mem_cons_self | refine List.mem_cons_of_mem _ ?_))); (· (first | with_reducible assumption | omega | (simp only [nums_length, List.length_set, List.length_replicate]; first | with_reducible assumption | omega) | rfl | (simp [*]; done) | (simp [*]; omega))); (conv => arg 5; simp only [Act.put, List.setIfInBounds_toArray, List.set_cons_succ, List.set_cons_zero])) | (apply wpList_app1 Try.underlying50 i52; (· rfl); (· rfl); (· rfl); (· rfl); (· assumption); (· intro A' cap'; (repeat (first | exact Swap.head | apply Swap.tail))); (· omega); (· omega); intro A' cap' w' M'; (conv => arg 5; simp only [Act.put, List.setIfInBounds_toArray, List.set_cons_succ, List.set_cons_zero])) | (apply wpList_app4 Try.underlying50 i52; (· rfl); (· rfl); (· rfl); (· rfl); (· assumption); (· intro A' cap'; (repeat (first | exact Swap.head | apply Swap.tail))); (· omega); (· omega); intro A' cap' w' M'; (conv => arg 5; simp only [Act.put, List.setIfInBounds_toArray, List.set_cons_succ, List.set_cons_zero])) | (apply wpList_ldN Try.underlying5; (· rfl); (· rfl); (· rfl); (· rfl); (· assumption); (· (repeat (first | exact List.mem_cons_self | refine List.mem_cons_of_mem _ ?_))); (· (first | with_reducible assumption | omega | (simp only [nums_length, List.length_set, List.length_replicate]; first | with_reducible assumption | omega) | rfl | (simp [*]; done) | (simp [*]; omega))); (conv => arg 5; simp only [Act.put, List.setIfInBounds_toArray, List.set_cons_succ, List.set_cons_zero])) | (apply wpList_ldN Try.underlying52; (· rfl); (· rfl); (· rfl); (· rfl); (· assumption); (· (repeat (first | exact List.mem_cons_self | refine List.mem_cons_of_mem _ ?_))); (· (first | with_reducible assumption | omega | (simp only [nums_length, List.length_set, List.length_replicate]; first | with_reducible assumption | omega) | rfl | (simp [*]; done) | (simp [*]; omega))); (conv => arg 5; simp only [Act.put, List.setIfInBounds_toArray, List.set_cons_succ, List.set_cons_zero])) | (apply wpList_app1 Try.underlying47 i5; (· rfl); (· rfl); (· rfl); (· rfl); (· assumption); (· intro A' cap'; (repeat (first | exact Swap.head | apply Swap.tail))); (· omega); (· omega); intro A' cap' w' M'; (conv => arg 5; simp only [Act.put, List.setIfInBounds_toArray, List.set_cons_succ, List.set_cons_zero])) | (apply wpList_app4 Try.underlying47 i5; (· rfl); (· rfl); (· rfl); (· rfl); (· assumption); (· intro A' cap'; (repeat (first | exact Swap.head | apply Swap.tail))); (· omega); (· omega); intro A' cap' w' M'; (conv => arg 5; simp only [Act.put, List.setIfInBounds_toArray, List.set_cons_succ, List.set_cons_zero])) | (apply wpList_cvV Try.underlying47 Try.underlying5 Try.underlying9; (· rfl); (· rfl); (· rfl); (· assumption); (· (repeat (first | exact List.mem_cons_self | refine List.mem_cons_of_mem _ ?_))); (conv => arg 5; simp only [Act.put, List.setIfInBounds_toArray, List.set_cons_succ, List.set_cons_zero])) | (apply wpList_cvS Try.underlying47 Try.underlying5 Try.underlying9; (· rfl); (· rfl); (· rfl); (· assumption); (· (repeat (first | exact List.mem_cons_self | refine List.mem_cons_of_mem _ ?_))); (· (first | with_reducible assumption | omega | (simp only [nums_length, List.length_set, List.length_replicate]; first | with_reducible assumption | omega) | rfl | (simp [*]; done) | (simp [*]; omega))); (conv => arg 5; simp only [Act.put, List.setIfInBounds_toArray, List.set_cons_succ, List.set_cons_zero])))
              go_ret
              exact ⟨rfl, (M2.call Mi.below).below⟩
end Go.Proofs.Ytcjfpcajjhccaaa
