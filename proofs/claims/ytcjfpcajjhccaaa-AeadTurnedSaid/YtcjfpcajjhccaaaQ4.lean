/- The program's tag is the document's. Plain laws; no program is named. -/
import Derived.Test.YtcjfpcajjhccaaaQ3
import Derived.Test.YtcjfpcajjhccaaaP11
import Derived.Test.YtcjfpcajjhccaaaR8
set_option linter.unusedVariables false
set_option linter.unusedSimpArgs false
namespace Go.Proofs.Ytcjfpcajjhccaaa
open Go.RowKit
theorem len16 (xs : List Int) (h : xs.length = 16) : ∃ x0 x1 x2 x3 x4 x5 x6 x7 x8 x9 x10 x11 x12 x13 x14 x15 : Int, xs = [x0, x1, x2, x3, x4, x5, x6, x7, x8, x9, x10, x11, x12, x13, x14, x15] := by
  match xs, h with
  | [x0, x1, x2, x3, x4, x5, x6, x7, x8, x9, x10, x11, x12, x13, x14, x15], _ => exact ⟨_, _, _, _, _, _, _, _, _, _, _, _, _, _, _, _, rfl⟩
set_option maxRecDepth 10000 in
theorem and252_nat : ∀ n : Fin 256, n.val &&& 252 = n.val - n.val % 4 := by decide
theorem and252_eq (x : Int) (h : 0 ≤ x ∧ x < 256) : bits .and .u8 x 252 = x - x % 4 := by
  obtain ⟨n, rfl⟩ := Int.eq_ofNat_of_zero_le h.1
  have hn : n < 256 := by omega
  have e1 : (BitVec.ofInt 8 (n : Int)).toNat = n := by rw [BitVec.ofInt_natCast, BitVec.toNat_ofNat]; exact Nat.mod_eq_of_lt (by omega)
  show IntKind.u8.wrap ((BitVec.ofInt 8 (n : Int) &&& BitVec.ofInt 8 (252 : Int)).toNat : Int) = _
  have e2 : (BitVec.ofInt 8 (252 : Int)).toNat = 252 := by decide
  have e3 : n &&& 252 = n - n % 4 := and252_nat ⟨n, hn⟩
  rw [BitVec.toNat_and, e1, e2, e3, IntKind.wrap_u8]
  omega
theorem and15_eq (x : Int) (h : 0 ≤ x ∧ x < 256) : bits .and .u8 x 15 = x % 16 := by
  obtain ⟨n, rfl⟩ := Int.eq_ofNat_of_zero_le h.1
  have hn : n < 256 := by omega
  have e1 : (BitVec.ofInt 8 (n : Int)).toNat = n := by rw [BitVec.ofInt_natCast, BitVec.toNat_ofNat]; exact Nat.mod_eq_of_lt (by omega)
  show IntKind.u8.wrap ((BitVec.ofInt 8 (n : Int) &&& BitVec.ofInt 8 (15 : Int)).toNat : Int) = _
  have e2 : (BitVec.ofInt 8 (15 : Int)).toNat = 2 ^ 4 - 1 := by decide
  rw [BitVec.toNat_and, e1, e2, Nat.and_two_pow_sub_one_eq_mod, IntKind.wrap_u8]
  omega
theorem clampR_take (key : List Int) : clampR key 16 = clampR (key.take 16) 16 := by
  refine List.map_congr_left fun i hi => ?_
  have hi' : i < 16 := by simpa using hi
  congr 1
  simp [rd, List.getD_eq_getElem?_getD, List.getElem?_take, hi']
theorem clamp_eq (key : List Int) (hk : key.length = 32) (hb : digOk 256 key) : clampP key = clampR key 16 ++ [0] := by
  have ht := digOk_take hb 16
  rw [clampR_take, clampP]
  obtain ⟨x0, x1, x2, x3, x4, x5, x6, x7, x8, x9, x10, x11, x12, x13, x14, x15, he⟩ := len16 (key.take 16) (by simp [hk])
  rw [he] at ht ⊢
  have hx : ∀ x ∈ [x0, x1, x2, x3, x4, x5, x6, x7, x8, x9, x10, x11, x12, x13, x14, x15], 0 ≤ x ∧ x < 256 := ht
  show [x0, x1, x2, bits .and .u8 x3 15, bits .and .u8 x4 252, x5, x6, bits .and .u8 x7 15, bits .and .u8 x8 252, x9, x10, bits .and .u8 x11 15, bits .and .u8 x12 252, x13, x14, bits .and .u8 x15 15, 0] = _
  rw [and15_eq x3 (hx _ (by simp)), and15_eq x7 (hx _ (by simp)), and15_eq x11 (hx _ (by simp)), and15_eq x15 (hx _ (by simp)), and252_eq x4 (hx _ (by simp)), and252_eq x8 (hx _ (by simp)), and252_eq x12 (hx _ (by simp))]
  rfl
theorem dv_limbs (b : List Int) (hl : b.length = 17) (h : digOk 256 b) (h2 : rd b 16 ≤ 1) : dv 67108864 (limbsL b) = dv 256 b := by
  have hs := dv_split 256 b 16 (by omega)
  have ht := dv_bound (B := 256) (by decide) _ (digOk_take h 16)
  rw [List.length_take, Nat.min_eq_left (by omega)] at ht
  have hd := dv_drop 256 b 16
  rw [List.drop_eq_nil_of_le (show b.length ≤ 16 + 1 by omega)] at hd
  have h0 := (digOk_rd (B := 256) (by decide) h 16).1
  simp only [dv] at hd
  rw [limbsL, dv_digs (by decide), Int.emod_eq_of_lt (dv_bound (by decide) _ h).1]
  have e : (67108864 : Int) ^ 5 = 256 ^ 16 * 4 := by decide
  have e0 : (0 : Int) < 256 ^ 16 := by decide
  rw [e, hs, hd]
  have : (256 : Int) ^ 16 * (rd b 16 + 256 * 0) ≤ 256 ^ 16 * 1 := Int.mul_le_mul_of_nonneg_left (by omega) (by omega)
  generalize (256 : Int) ^ 16 = P at *
  omega
theorem accN_range (R : Int) (bs : List Int) (q : Nat) : 0 ≤ accN R bs q ∧ accN R bs q < pp := by
  have hp : (0 : Int) < pp := by decide
  cases q with
  | zero => exact ⟨Int.le_refl _, hp⟩
  | succ q => exact ⟨Int.emod_nonneg _ (by omega), Int.emod_lt_of_pos _ hp⟩
theorem accN_append (R : Int) (bs xs : List Int) (q : Nat) (h : 16 * q ≤ bs.length) : accN R (bs ++ xs) q = accN R bs q := by
  induction q with
  | zero => rfl
  | succ q ih =>
    have e : ((bs ++ xs).drop (16 * q)).take 16 = (bs.drop (16 * q)).take 16 := by
      rw [List.drop_append_of_le_length (by omega), List.take_append_of_le_length (by rw [List.length_drop]; omega)]
    rw [accN, accN, ih (by omega), e]
structure PolySt (r bs : List Int) (st : List Int × List Int × Nat) : Prop where
  lim : Lim 67108872 67108864 st.1
  val : dv 67108864 st.1 % pp = accN (dv 67108864 r) bs (bs.length / 16)
  many : st.2.2 = bs.length % 16
  rest : st.2.1 = bs.drop (16 * (bs.length / 16)) ++ List.replicate (17 - bs.length % 16) 0
theorem block_round (r a blk : List Int) (R acc : Int) (hr : Lim 67108864 67108864 r) (hR : dv 67108864 r = R) (ha : Lim 67108872 67108864 a) (hv : dv 67108864 a % pp = acc) (hl : blk.length = 17) (hb : digOk 256 blk) (h1 : rd blk 16 ≤ 1) :
    Lim 67108872 67108864 (timesL (addTo a (limbsL blk) 5) r) ∧ dv 67108864 (timesL (addTo a (limbsL blk) 5) r) % pp = (acc + dv 256 blk) * R % pp := by
  obtain ⟨h2, h3⟩ := add_spec a (limbsL blk) ha Lim.digs
  obtain ⟨h4, h5⟩ := times_spec _ r h2 hr
  refine ⟨h4, ?_⟩
  rw [h5, h3, dv_limbs blk hl hb h1, hR, ← hv, Int.mul_emod, Int.mul_emod ((_ % _) + _), Int.emod_add_emod]
theorem poly_step (r bs : List Int) (st : List Int × List Int × Nat) (x : Int) (hr : Lim 67108864 67108864 r) (hbs : digOk 256 bs) (hx : 0 ≤ x ∧ x < 256) (h : PolySt r bs st) : PolySt r (bs ++ [x]) (pstep r st x) := by
  obtain ⟨h1, h2, h3, h4⟩ := h
  obtain ⟨a, rest, m⟩ := st
  simp only at h1 h2 h3 h4
  have hm := h3
  obtain ⟨q, hq⟩ : ∃ q, q = bs.length / 16 := ⟨_, rfl⟩
  have hD : (bs.drop (16 * q)).length = m := by rw [List.length_drop]; omega
  have hDok := digOk_drop hbs (16 * q)
  have hdx : (bs ++ [x]).drop (16 * q) = bs.drop (16 * q) ++ [x] := List.drop_append_of_le_length (by omega)
  rw [← hq] at h2 h4
  rw [← h3] at h4
  have hset : rest.set m x = bs.drop (16 * q) ++ [x] ++ List.replicate (16 - m) 0 := by
    rw [h4, fill_set _ _ _ _ hD.symm (by omega), show 17 - m - 1 = 16 - m from by omega]
  unfold pstep
  simp only []
  by_cases h16 : m + 1 = 16
  · rw [if_pos h16]
    have hblk : (rest.set m x).set 16 1 = bs.drop (16 * q) ++ [x] ++ [1] := by
      rw [hset, fill_set _ _ _ _ (by simp [hD]; omega) (by omega), show 16 - m - 1 = 0 from by omega]
      simp
    have hql : (bs ++ [x]).length / 16 = q + 1 := by simp; omega
    have hqm : (bs ++ [x]).length % 16 = 0 := by simp; omega
    have hlen : ((rest.set m x).set 16 1).length = 17 := by rw [hblk]; simp [hD]; omega
    have hok : digOk 256 ((rest.set m x).set 16 1) := by
      rw [hblk]
      exact digOk_append (digOk_append hDok (fun v hv => by simp at hv; omega)) (fun v hv => by simp at hv; omega)
    have h1' : rd ((rest.set m x).set 16 1) 16 ≤ 1 := by rw [rd_set_same _ _ _ (by rw [← List.length_set (i := 16) (a := (1 : Int)), hlen]; omega)]; omega
    obtain ⟨g1, g2⟩ := block_round r a _ _ _ hr rfl h1 h2 hlen hok h1'
    refine ⟨g1, ?_, hqm.symm, ?_⟩
    · rw [hql, accN, accN_append _ _ _ _ (by omega), hdx, List.take_of_length_le (by simp [hD]; omega), ← hblk]
      exact g2
    · rw [hql, hqm, List.drop_eq_nil_of_le (by simp; omega)]
      rfl
  · rw [if_neg h16]
    have hql : (bs ++ [x]).length / 16 = q := by simp; omega
    have hqm : (bs ++ [x]).length % 16 = m + 1 := by simp; omega
    refine ⟨h1, ?_, hqm.symm, ?_⟩
    · rw [hql, accN_append _ _ _ _ (by omega)]
      exact h2
    · rw [hql, hqm, hdx]
      show rest.set m x = _
      rw [hset, show 17 - (m + 1) = 16 - m from by omega]
theorem poly_all (r : List Int) (hr : Lim 67108864 67108864 r) (n : Nat) : ∀ bs : List Int, bs.length = n → digOk 256 bs → PolySt r bs (pfeed r st0 bs) := by
  induction n with
  | zero =>
    intro bs hl hb
    obtain rfl := List.eq_nil_of_length_eq_zero hl
    exact ⟨⟨0, 0, 0, 0, 0, rfl, by omega, by omega, by omega, by omega, by omega⟩, rfl, rfl, rfl⟩
  | succ n ih =>
    intro bs hl hb
    have he : bs = bs.take n ++ [rd bs n] := by rw [← take_rd_succ bs n (by omega), List.take_of_length_le (by omega)]
    have h1 := ih (bs.take n) (by simp; omega) (digOk_take hb n)
    have h2 := poly_step r _ _ (rd bs n) hr (digOk_take hb n) (digOk_rd (by decide) hb n) h1
    have h3 : pstep r (pfeed r st0 (bs.take n)) (rd bs n) = pfeed r st0 bs := by
      rw [show pfeed r st0 bs = pfeed r st0 (bs.take n ++ [rd bs n]) from by rw [← he], pfeed_append]
      rfl
    rw [h3, ← he] at h2
    exact h2
theorem end_spec (r bs : List Int) (hr : Lim 67108864 67108864 r) (hbs : digOk 256 bs) (st : List Int × List Int × Nat) (h : PolySt r bs st) :
    Lim 67108872 67108864 (endA r st) ∧ dv 67108864 (endA r st) % pp = accN (dv 67108864 r) bs ((bs.length + 15) / 16) := by
  obtain ⟨h1, h2, h3, h4⟩ := h
  obtain ⟨a, rest, m⟩ := st
  simp only at h1 h2 h3 h4
  have hm := h3
  obtain ⟨q, hq⟩ : ∃ q, q = bs.length / 16 := ⟨_, rfl⟩
  have hD : (bs.drop (16 * q)).length = m := by rw [List.length_drop]; omega
  have hDok := digOk_drop hbs (16 * q)
  rw [← hq] at h2 h4
  rw [← h3] at h4
  unfold endA
  simp only []
  split
  · rename_i hpos
    have hset : rest.set m 1 = bs.drop (16 * q) ++ [1] ++ List.replicate (16 - m) 0 := by
      rw [h4, fill_set _ _ _ _ hD.symm (by omega), show 17 - m - 1 = 16 - m from by omega]
    have hok : digOk 256 (rest.set m 1) := by
      rw [hset]
      exact digOk_append (digOk_append hDok (fun v hv => by simp at hv; omega)) (digOk_zeros (by decide) _)
    have hlen : (rest.set m 1).length = 17 := by rw [hset]; simp [hD]; omega
    have h16 : rd (rest.set m 1) 16 ≤ 1 := by
      rw [hset, rd, List.getD_eq_getElem?_getD, List.getElem?_append_right (by simp [hD]; omega)]
      simp [List.getElem?_replicate]
      split <;> simp
    obtain ⟨g1, g2⟩ := block_round r a _ _ _ hr rfl h1 h2 hlen hok h16
    refine ⟨g1, ?_⟩
    rw [show (bs.length + 15) / 16 = q + 1 from by omega, accN, List.take_of_length_le (by omega), g2, hset, dv_append, dv_zeros, Int.mul_zero, Int.add_zero]
  · rename_i hpos
    refine ⟨h1, ?_⟩
    rw [show (bs.length + 15) / 16 = q from by omega]
    exact h2
/-- The two tags are one. -/
theorem tag_eq (key bs : List Int) (hk : key.length = 32) (hkb : digOk 256 key) (hb : digOk 256 bs) : tagK key bs = tagV key bs := by
  have hr : Lim 67108864 67108864 (limbsL (clampP key)) := Lim.digs
  have hc := clamp_eq key hk hkb
  have hrl := clampR_length key 16
  have hR : dv 67108864 (limbsL (clampP key)) = dv 256 (clampR key 16) := by
    rw [dv_limbs _ (clampP_length key hk) (clampP_ok key hkb), hc, dv_append]
    · simp [dv]
    · rw [hc, rd, List.getD_eq_getElem?_getD, List.getElem?_append_right (by omega), hrl]
      simp
  obtain ⟨h1, h2⟩ := end_spec _ bs hr hb _ (poly_all _ hr bs.length bs rfl hb)
  have hrange := accN_range (dv 256 (clampR key 16)) bs ((bs.length + 15) / 16)
  rw [hR] at h2
  rw [tagK, tagP, least_spec _ h1, h2, out_spec _ _ (digs_ok (by decide) _ _) (digs_length _ _ _) (digOk_drop hkb 16) (by simp [hk]), dv_digs (by decide), Int.emod_eq_of_lt hrange.1, tagV]
  have : pp < (67108864 : Int) ^ 5 := by decide
  omega
end Go.Proofs.Ytcjfpcajjhccaaa
