/- What follows, by the reference: does a key follow, its public key, can a term be made. -/
import Derived.Test.YtcapfnbmmdbcoaaDA
set_option linter.unusedVariables false
set_option linter.unusedSimpArgs false
namespace Go.Proofs.Ytcapfnbmmdbcoaa
open Go.RowKit
/-- A row of booleans, read. -/
def BsR (w : World) (kb : Nat) (bs : List Bool) : Prop := ∀ (i : Nat) (b : Bool), bs[i]? = some b → w.cell? ⟨kb, i, none⟩ = some (.bool b)
theorem BsR.mem {w0 w : World} {kb : Nat} {bs : List Bool} {L : List Item} (h : BsR w0 kb bs) (M : Mem w0 [] w L) : BsR w kb bs := fun i b hi => M.cell0 (h i b hi)
set_option maxRecDepth 100000 in
set_option maxHeartbeats 2000000 in
theorem Has37 (m c kb : Nat) (A : Option Addr) (ts : List Tm) (bs : List Bool) (k : List Int) (w : World) (hc : w.cell? ⟨m, 0, none⟩ = some (.slice A ts.length c)) (hb : BsR w kb bs) (hl : bs.length = ts.length) (hk : KeyOk k) (hn : ts.length ≤ 1000000) :
    Calls Try.prog 37 #[.pointer (some ⟨m, 0, none⟩), .slice (some ⟨kb, 0, none⟩) bs.length bs.length, .agg (nums .u8 k).toArray] w (BoolR (hasM bs k) w) := by
  have M0 := Mem.start w
  have HC := hid hc
  have HB := hid hb
  have HK := hid hk
  rcases numT_cases ts.length k hk with hm | ⟨i, hi, hm⟩
  · rw [show hasM bs k = !decide (nameL (numK k) = k) from by rw [hasM, hl, hm, if_neg (by decide)]]
    have HM := hid hm
    clear hc hb hk hm
    go_enter Try.func37, Try.ntmps37
    go_wp2_with (first | (refine wpList_bxN 5 rfl rfl rfl rfl M0 (fun b5 w1 M => ?_); clear M0; (conv => arg 5; simp only [Act.put, List.setIfInBounds_toArray, List.set_cons_succ, List.set_cons_zero])) | (refine wpList_ldrowN Try.underlying26 s26 rfl rfl rfl rfl M (by (repeat (first | exact List.mem_cons_self | refine List.mem_cons_of_mem _ ?_))) HK.out.1 ?_; (conv => arg 5; simp only [Act.put, List.setIfInBounds_toArray, List.set_cons_succ, List.set_cons_zero])) | (go_at_call 59; refine (Number59 m ts.length c A k _ (M.cell0 HC.out) HK.out.1 HK.out.2 hn).mono ?_; rw [HM.out]; rintro e w6 ⟨rfl, M6⟩; replace M := M.call M6.below; clear M6) | (go_at_call 62; refine (Shaped62 k _ HK.out.1 HK.out.2).mono ?_; rintro e w6 ⟨rfl, M6⟩; replace M := M.call M6.below; clear M6))
    go_ret
    exact ⟨rfl, M.sub (List.nil_sublist _)⟩
  · obtain ⟨b, hbi⟩ : ∃ b, bs[i]? = some b := ⟨_, List.getElem?_eq_getElem (by omega)⟩
    rw [show hasM bs k = b from by rw [hasM, show numT bs.length k = (i : Int) from by rw [hl]; exact hm, if_pos (by omega), Int.toNat_natCast, List.getD_eq_getElem?_getD, hbi]; rfl]
    have HM := hid hm
    have HBI := hid hbi
    have hiI : (i : Int) < (bs.length : Int) := by omega
    have hi0 : ¬ (i : Int) < 0 := by omega
    clear hc hb hk hm hbi
    go_enter Try.func37, Try.ntmps37
    go_wp2_with (first | (apply wpList_want; (· rfl)) | (refine wpList_bxN 5 rfl rfl rfl rfl M0 (fun b5 w1 M => ?_); clear M0; (conv => arg 5; simp only [Act.put, List.setIfInBounds_toArray, List.set_cons_succ, List.set_cons_zero])) | (refine wpList_ldrowN Try.underlying26 s26 rfl rfl rfl rfl M (by (repeat (first | exact List.mem_cons_self | refine List.mem_cons_of_mem _ ?_))) HK.out.1 ?_; (conv => arg 5; simp only [Act.put, List.setIfInBounds_toArray, List.set_cons_succ, List.set_cons_zero])) | (go_at_call 59; refine (Number59 m ts.length c A k _ (M.cell0 HC.out) HK.out.1 HK.out.2 hn).mono ?_; rw [HM.out]; rintro e w6 ⟨rfl, M6⟩; replace M := M.call M6.below; clear M6; have ck := M.cell0 (HB.out i b HBI.out)))
    go_ret
    exact ⟨rfl, M.sub (List.nil_sublist _)⟩
theorem b95p (b : Nat) : ∀ w : World, (Instr.build 95 #[(0, .int .i64 3), (2, .slice (some ⟨b, 0, none⟩) 1 1)]).run Try.prog w = .ok (.agg #[.int .i64 3, .string ⟨#[]⟩, .slice (some ⟨b, 0, none⟩) 1 1]) w := fun w => by kernel_rfl
set_option maxRecDepth 100000 in
set_option maxHeartbeats 2000000 in
theorem pub77 (K : Nat → Prop) (m c e kb : Nat) (A S : Option Addr) (ts : List Tm) (bs : List Bool) (k : List Int) (w : World) (T : RefP K w m A c S e ts) (hb : BsR w kb bs) (hl : bs.length = ts.length) (hk : KeyOk k) :
    Calls Try.prog 77 #[.pointer (some ⟨m, 0, none⟩), .slice (some ⟨kb, 0, none⟩) bs.length bs.length, .agg (nums .u8 k).toArray] w (BoolR (pubM ts bs k) w) := by
  have M0 := Mem.start w
  have hn : ts.length ≤ 1000000 := T.few
  have HC := hid T.cap.1
  have HT := hid T
  have HB := hid hb
  have HK := hid hk
  have HP := hid (pubT_ok hk)
  have HL := hid hl
  cases hh : hasM bs k
  · have HH := hid hh
    by_cases hin : pubT k ∈ ts
    · have hi := List.idxOf_lt_length_of_mem hin
      obtain ⟨b, hbi⟩ : ∃ b, bs[ts.idxOf (pubT k)]? = some b := ⟨_, List.getElem?_eq_getElem (by omega)⟩
      rw [show pubM ts bs k = b from by rw [pubM, hh, decide_eq_true hin, List.getD_eq_getElem?_getD, hbi]; simp]
      have hf : findT ts (pubT k) = (ts.idxOf (pubT k) : Int) := by rw [findT, if_pos hin]
      generalize hix : ts.idxOf (pubT k) = ix at *
      have HF := hid hf
      have HBI := hid hbi
      have hiI : (ix : Int) < (bs.length : Int) := by omega
      have hi0 : (0 : Int) ≤ (ix : Int) := by omega
      clear T hb hk hin hbi hf hh hix hl
      go_enter Try.func77, Try.ntmps77
      go_wp2_with (first | (apply wpList_want; (· rfl)) | (refine wpList_bxN 5 rfl rfl rfl rfl M0 (fun b5 w1 M => ?_); clear M0; (conv => arg 5; simp only [Act.put, List.setIfInBounds_toArray, List.set_cons_succ, List.set_cons_zero])) | (refine wpList_ldrowN Try.underlying26 s26 rfl rfl rfl rfl M (by (repeat (first | exact List.mem_cons_self | refine List.mem_cons_of_mem _ ?_))) HK.out.1 ?_; (conv => arg 5; simp only [Act.put, List.setIfInBounds_toArray, List.set_cons_succ, List.set_cons_zero])) | (refine wpList_bsK1 10 rfl rfl rfl rfl HK.out M (fun b10 w2 M2 => ?_); clear M; have M := M2; clear M2; (conv => arg 5; simp only [Act.put, List.setIfInBounds_toArray, List.set_cons_succ, List.set_cons_zero])) | (refine wpList_bld (vs := #[(0, .int .i64 3), (2, .slice (some ⟨b10, 0, none⟩) 1 1)]) (b95p b10) rfl rfl rfl ?_; (conv => arg 5; simp only [Act.put, List.setIfInBounds_toArray, List.set_cons_succ, List.set_cons_zero])) | (go_at_call 69; refine (find69 K m c e 1 A S (some ⟨b10, 0, none⟩) ts (pubT k) _ (HT.out.below M.below) HP.out (M.blkT List.mem_cons_self)).mono ?_; rw [HF.out]; rintro e w6 ⟨rfl, M6⟩; replace M := M.call M6.below; clear M6) | (go_at_call 37; refine (Has37 m c kb A ts bs k _ (M.cell0 HC.out) (HB.out.mem (M.sub (List.nil_sublist _))) HL.out HK.out hn).mono ?_; rw [HH.out]; rintro e w6 ⟨rfl, M6⟩; replace M := M.call M6.below; clear M6; have ck := M.cell0 (HB.out ix b HBI.out)))
      go_ret
      exact ⟨rfl, M.sub (List.nil_sublist _)⟩
    · rw [show pubM ts bs k = false from by rw [pubM, hh, decide_eq_false hin]; rfl]
      have HF := hid (show findT ts (pubT k) = -1 from by rw [findT, if_neg hin])
      clear T hb hk hin hh hl
      go_enter Try.func77, Try.ntmps77
      go_wp2_with (first | (apply wpList_want; (· rfl)) | (refine wpList_bxN 5 rfl rfl rfl rfl M0 (fun b5 w1 M => ?_); clear M0; (conv => arg 5; simp only [Act.put, List.setIfInBounds_toArray, List.set_cons_succ, List.set_cons_zero])) | (refine wpList_ldrowN Try.underlying26 s26 rfl rfl rfl rfl M (by (repeat (first | exact List.mem_cons_self | refine List.mem_cons_of_mem _ ?_))) HK.out.1 ?_; (conv => arg 5; simp only [Act.put, List.setIfInBounds_toArray, List.set_cons_succ, List.set_cons_zero])) | (refine wpList_bsK1 10 rfl rfl rfl rfl HK.out M (fun b10 w2 M2 => ?_); clear M; have M := M2; clear M2; (conv => arg 5; simp only [Act.put, List.setIfInBounds_toArray, List.set_cons_succ, List.set_cons_zero])) | (refine wpList_bld (vs := #[(0, .int .i64 3), (2, .slice (some ⟨b10, 0, none⟩) 1 1)]) (b95p b10) rfl rfl rfl ?_; (conv => arg 5; simp only [Act.put, List.setIfInBounds_toArray, List.set_cons_succ, List.set_cons_zero])) | (go_at_call 69; refine (find69 K m c e 1 A S (some ⟨b10, 0, none⟩) ts (pubT k) _ (HT.out.below M.below) HP.out (M.blkT List.mem_cons_self)).mono ?_; rw [HF.out]; rintro e w6 ⟨rfl, M6⟩; replace M := M.call M6.below; clear M6) | (go_at_call 37; refine (Has37 m c kb A ts bs k _ (M.cell0 HC.out) (HB.out.mem (M.sub (List.nil_sublist _))) HL.out HK.out hn).mono ?_; rw [HH.out]; rintro e w6 ⟨rfl, M6⟩; replace M := M.call M6.below; clear M6; have ck := HC.out))
      go_ret
      exact ⟨rfl, M.sub (List.nil_sublist _)⟩
  · have HH := hid hh
    rw [show pubM ts bs k = true from by rw [pubM, hh]; rfl]
    obtain ⟨q, hq⟩ : ∃ q, findT ts (pubT k) = q := ⟨_, rfl⟩
    have HF := hid hq
    clear T hb hk hh hq hl
    go_enter Try.func77, Try.ntmps77
    go_wp2_with (first | (apply wpList_want; (· rfl)) | (refine wpList_bxN 5 rfl rfl rfl rfl M0 (fun b5 w1 M => ?_); clear M0; (conv => arg 5; simp only [Act.put, List.setIfInBounds_toArray, List.set_cons_succ, List.set_cons_zero])) | (refine wpList_ldrowN Try.underlying26 s26 rfl rfl rfl rfl M (by (repeat (first | exact List.mem_cons_self | refine List.mem_cons_of_mem _ ?_))) HK.out.1 ?_; (conv => arg 5; simp only [Act.put, List.setIfInBounds_toArray, List.set_cons_succ, List.set_cons_zero])) | (refine wpList_bsK1 10 rfl rfl rfl rfl HK.out M (fun b10 w2 M2 => ?_); clear M; have M := M2; clear M2; (conv => arg 5; simp only [Act.put, List.setIfInBounds_toArray, List.set_cons_succ, List.set_cons_zero])) | (refine wpList_bld (vs := #[(0, .int .i64 3), (2, .slice (some ⟨b10, 0, none⟩) 1 1)]) (b95p b10) rfl rfl rfl ?_; (conv => arg 5; simp only [Act.put, List.setIfInBounds_toArray, List.set_cons_succ, List.set_cons_zero])) | (go_at_call 69; refine (find69 K m c e 1 A S (some ⟨b10, 0, none⟩) ts (pubT k) _ (HT.out.below M.below) HP.out (M.blkT List.mem_cons_self)).mono ?_; rw [HF.out]; rintro e w6 ⟨rfl, M6⟩; replace M := M.call M6.below; clear M6) | (go_at_call 37; refine (Has37 m c kb A ts bs k _ (M.cell0 HC.out) (HB.out.mem (M.sub (List.nil_sublist _))) HL.out HK.out hn).mono ?_; rw [HH.out]; rintro e w6 ⟨rfl, M6⟩; replace M := M.call M6.below; clear M6; have ck := HC.out))
    go_ret
    exact ⟨rfl, M.sub (List.nil_sublist _)⟩
end Go.Proofs.Ytcapfnbmmdbcoaa
