/- Walks of the term layer: a name's number. -/
import Derived.Test.YtcapfnbmmdbcoaaC1
set_option linter.unusedVariables false
set_option linter.unusedSimpArgs false
namespace Go.Proofs.Ytcapfnbmmdbcoaa
open Go.RowKit
/-- The number of a name in a table of n terms; -1: it is none. -/
def numT (n : Nat) (k : List Int) : Int := if numK k < n ∧ nameL (numK k) = k then numK k else -1
set_option maxRecDepth 100000 in
set_option maxHeartbeats 1000000 in
theorem number43 (g n c : Nat) (A : Option Addr) (k : List Int) (w : World) (hg : w.cell? ⟨g, 0, none⟩ = some (Value.slice A n c)) (hk : k.length = 32) (hb : ∀ x ∈ k, isByte x) (hn : n ≤ 1000000) :
    Calls Try.prog 43 #[.pointer (some ⟨g, 0, none⟩), .agg (nums .u8 k).toArray] w (IntR (numT n k) w) := by
  have M0 := Mem.start w
  obtain ⟨r4, q4⟩ := rd_byte hb 4
  obtain ⟨r5, q5⟩ := rd_byte hb 5
  obtain ⟨r6, q6⟩ := rd_byte hb 6
  obtain ⟨r7, q7⟩ := rd_byte hb 7
  have hnum := or_num (rd k 4) (rd k 5) (rd k 6) (rd k 7) ⟨r4, q4⟩ ⟨r5, q5⟩ ⟨r6, q6⟩ ⟨r7, q7⟩
  rw [show rd k 4 * 16777216 + rd k 5 * 65536 + rd k 6 * 256 + rd k 7 = numK k from rfl] at hnum
  obtain ⟨n0, n1⟩ := numK_range hb
  have HN := hid hnum
  have HK := hid hk
  have HG := hid hg
  have HNL := hid (nameL_length (numK k))
  clear hnum hb hk hg
  by_cases h : numK k < (n : Int)
  · have h' : decide ((n : Int) ≤ numK k) = false := decide_eq_false (by omega)
    by_cases he : nameL (numK k) = k
    · rw [show numT n k = numK k from if_pos ⟨h, he⟩]
      have hd := hid (decide_eq_true he)
      clear he
      go_enter Try.func43, Try.ntmps43
      have hkl := HK.out
      go_wp2_with (first | (apply wpList_bxN 3; (· rfl); (· rfl); (· rfl); (· rfl); (· assumption); intro b3 w' M'; (conv => arg 5; simp only [Act.put, List.setIfInBounds_toArray, List.set_cons_succ, List.set_cons_zero])) | (apply wpList_ldN Try.underlying5; (· rfl); (· rfl); (· rfl); (· rfl); (· assumption); (· (repeat (first | exact List.mem_cons_self | refine List.mem_cons_of_mem _ ?_))); (· (first | with_reducible assumption | omega | (simp only [nums_length, List.length_set, List.length_replicate]; first | with_reducible assumption | omega) | rfl | (simp [*]; done) | (simp [*]; omega))); (conv => arg 5; simp only [Act.put, List.setIfInBounds_toArray, List.set_cons_succ, List.set_cons_zero])) | (apply wpList_wantLd; (· rfl)) | (apply wpList_ldrowN Try.underlying26 s26; (· rfl); (· rfl); (· rfl); (· rfl); (· assumption); (· (repeat (first | exact List.mem_cons_self | refine List.mem_cons_of_mem _ ?_))); (· (first | with_reducible assumption | omega | (simp only [nums_length, List.length_set, List.length_replicate]; first | with_reducible assumption | omega) | rfl | (simp [*]; done) | (simp [*]; omega))); (conv => arg 5; simp only [Act.put, List.setIfInBounds_toArray, List.set_cons_succ, List.set_cons_zero])))
      clear hkl
      rw [HN.out]
      refine wp_region_planT (.free 0 (.free 1 (.free 2 (.free 3 (.free 4 (.free 5 (.free 6 (.free 7 (.free 8 (.free 10 (.one 9 (.free 11 (.free 12 (.done)))))))))))))) (by kernel_rfl) (by kernel_rfl) (fun _ _ _ _ _ h => h) M' (fun w1 M1 => ?_)
      clear M'
      iterate 4 (refine wpT_free rfl rfl (.inl ⟨rfl, fun w _ => by go_simp; rfl⟩) (by assumption) ?_; (conv => arg 6; simp only [Act.put, List.setIfInBounds_toArray, List.set_cons_succ, List.set_cons_zero]))
      refine wpT_free rfl rfl (.inl ⟨rfl, fun w hw => run_ld1 Try.underlying45 rfl rfl rfl (hw.cell0 HG.out)⟩) (by assumption) ?_; (conv => arg 6; simp only [Act.put, List.setIfInBounds_toArray, List.set_cons_succ, List.set_cons_zero])
      iterate 4 (refine wpT_free rfl rfl (.inl ⟨rfl, fun w _ => by go_simp; rfl⟩) (by assumption) ?_; (conv => arg 6; simp only [Act.put, List.setIfInBounds_toArray, List.set_cons_succ, List.set_cons_zero]))
      refine wpT_free rfl rfl (.inl ⟨rfl, fun w hw => run_ldrowN Try.underlying26 s26 rfl rfl rfl hw List.mem_cons_self HK.out⟩) (by assumption) ?_; (conv => arg 6; simp only [Act.put, List.setIfInBounds_toArray, List.set_cons_succ, List.set_cons_zero])
      refine wpT_op rfl (wpList_want rfl ?_)
      go_wp2_with (go_at_call 66; refine (name66 (numK k) _ n0 (by omega)).mono ?_; rintro e w2 ⟨rfl, M2⟩; replace M1 := M1.call M2.below)
      refine PlanTQ.mk M1 ?_
      refine wpT_free (v := .bool false) rfl rfl (.inl ⟨rfl, fun w _ => run_neq26b false rfl rfl rfl HNL.out HK.out (by rw [hd.out]; rfl) w⟩) (by assumption) ?_; (conv => arg 6; simp only [Act.put, List.setIfInBounds_toArray, List.set_cons_succ, List.set_cons_zero])
      (refine wpT_free rfl rfl (.inl ⟨rfl, fun w _ => by go_simp; rfl⟩) (by assumption) ?_; (conv => arg 6; simp only [Act.put, List.setIfInBounds_toArray, List.set_cons_succ, List.set_cons_zero]))
      refine wpT_done ?_
      go_wp2_with fail
      go_ret
      exact ⟨rfl, M1.sub (List.nil_sublist _)⟩
    · rw [show numT n k = -1 from if_neg (fun hh => he hh.2)]
      have hd := hid (decide_eq_false he)
      clear he
      go_enter Try.func43, Try.ntmps43
      have hkl := HK.out
      go_wp2_with (first | (apply wpList_bxN 3; (· rfl); (· rfl); (· rfl); (· rfl); (· assumption); intro b3 w' M'; (conv => arg 5; simp only [Act.put, List.setIfInBounds_toArray, List.set_cons_succ, List.set_cons_zero])) | (apply wpList_ldN Try.underlying5; (· rfl); (· rfl); (· rfl); (· rfl); (· assumption); (· (repeat (first | exact List.mem_cons_self | refine List.mem_cons_of_mem _ ?_))); (· (first | with_reducible assumption | omega | (simp only [nums_length, List.length_set, List.length_replicate]; first | with_reducible assumption | omega) | rfl | (simp [*]; done) | (simp [*]; omega))); (conv => arg 5; simp only [Act.put, List.setIfInBounds_toArray, List.set_cons_succ, List.set_cons_zero])) | (apply wpList_wantLd; (· rfl)) | (apply wpList_ldrowN Try.underlying26 s26; (· rfl); (· rfl); (· rfl); (· rfl); (· assumption); (· (repeat (first | exact List.mem_cons_self | refine List.mem_cons_of_mem _ ?_))); (· (first | with_reducible assumption | omega | (simp only [nums_length, List.length_set, List.length_replicate]; first | with_reducible assumption | omega) | rfl | (simp [*]; done) | (simp [*]; omega))); (conv => arg 5; simp only [Act.put, List.setIfInBounds_toArray, List.set_cons_succ, List.set_cons_zero])))
      clear hkl
      rw [HN.out]
      refine wp_region_planT (.free 0 (.free 1 (.free 2 (.free 3 (.free 4 (.free 5 (.free 6 (.free 7 (.free 8 (.free 10 (.one 9 (.free 11 (.free 12 (.done)))))))))))))) (by kernel_rfl) (by kernel_rfl) (fun _ _ _ _ _ h => h) M' (fun w1 M1 => ?_)
      clear M'
      iterate 4 (refine wpT_free rfl rfl (.inl ⟨rfl, fun w _ => by go_simp; rfl⟩) (by assumption) ?_; (conv => arg 6; simp only [Act.put, List.setIfInBounds_toArray, List.set_cons_succ, List.set_cons_zero]))
      refine wpT_free rfl rfl (.inl ⟨rfl, fun w hw => run_ld1 Try.underlying45 rfl rfl rfl (hw.cell0 HG.out)⟩) (by assumption) ?_; (conv => arg 6; simp only [Act.put, List.setIfInBounds_toArray, List.set_cons_succ, List.set_cons_zero])
      iterate 4 (refine wpT_free rfl rfl (.inl ⟨rfl, fun w _ => by go_simp; rfl⟩) (by assumption) ?_; (conv => arg 6; simp only [Act.put, List.setIfInBounds_toArray, List.set_cons_succ, List.set_cons_zero]))
      refine wpT_free rfl rfl (.inl ⟨rfl, fun w hw => run_ldrowN Try.underlying26 s26 rfl rfl rfl hw List.mem_cons_self HK.out⟩) (by assumption) ?_; (conv => arg 6; simp only [Act.put, List.setIfInBounds_toArray, List.set_cons_succ, List.set_cons_zero])
      refine wpT_op rfl (wpList_want rfl ?_)
      go_wp2_with (go_at_call 66; refine (name66 (numK k) _ n0 (by omega)).mono ?_; rintro e w2 ⟨rfl, M2⟩; replace M1 := M1.call M2.below)
      refine PlanTQ.mk M1 ?_
      refine wpT_free (v := .bool true) rfl rfl (.inl ⟨rfl, fun w _ => run_neq26b true rfl rfl rfl HNL.out HK.out (by rw [hd.out]; rfl) w⟩) (by assumption) ?_; (conv => arg 6; simp only [Act.put, List.setIfInBounds_toArray, List.set_cons_succ, List.set_cons_zero])
      (refine wpT_free rfl rfl (.inl ⟨rfl, fun w _ => by go_simp; rfl⟩) (by assumption) ?_; (conv => arg 6; simp only [Act.put, List.setIfInBounds_toArray, List.set_cons_succ, List.set_cons_zero]))
      refine wpT_done ?_
      go_wp2_with fail
      go_ret
      exact ⟨rfl, M1.sub (List.nil_sublist _)⟩
  · rw [show numT n k = -1 from if_neg (fun hh => h hh.1)]
    have h' : decide ((n : Int) ≤ numK k) = true := decide_eq_true (by omega)
    go_enter Try.func43, Try.ntmps43
    have hkl := HK.out
    go_wp2_with (first | (apply wpList_bxN 3; (· rfl); (· rfl); (· rfl); (· rfl); (· assumption); intro b3 w' M'; (conv => arg 5; simp only [Act.put, List.setIfInBounds_toArray, List.set_cons_succ, List.set_cons_zero])) | (apply wpList_ldN Try.underlying5; (· rfl); (· rfl); (· rfl); (· rfl); (· assumption); (· (repeat (first | exact List.mem_cons_self | refine List.mem_cons_of_mem _ ?_))); (· (first | with_reducible assumption | omega | (simp only [nums_length, List.length_set, List.length_replicate]; first | with_reducible assumption | omega) | rfl | (simp [*]; done) | (simp [*]; omega))); (conv => arg 5; simp only [Act.put, List.setIfInBounds_toArray, List.set_cons_succ, List.set_cons_zero])) | (apply wpList_wantLd; (· rfl)) | (apply wpList_ldrowN Try.underlying26 s26; (· rfl); (· rfl); (· rfl); (· rfl); (· assumption); (· (repeat (first | exact List.mem_cons_self | refine List.mem_cons_of_mem _ ?_))); (· (first | with_reducible assumption | omega | (simp only [nums_length, List.length_set, List.length_replicate]; first | with_reducible assumption | omega) | rfl | (simp [*]; done) | (simp [*]; omega))); (conv => arg 5; simp only [Act.put, List.setIfInBounds_toArray, List.set_cons_succ, List.set_cons_zero])))
    clear hkl
    rw [HN.out]
    refine wp_region_planT (.free 0 (.free 1 (.free 2 (.free 3 (.free 4 (.free 5 (.free 6 (.free 7 (.free 8 (.free 9 (.free 10 (.free 11 (.free 12 (.done)))))))))))))) (by kernel_rfl) (by kernel_rfl) (fun _ _ _ _ _ h => h) M' (fun w1 M1 => ?_)
    clear M'
    iterate 4 (refine wpT_free rfl rfl (.inl ⟨rfl, fun w _ => by go_simp; rfl⟩) (by assumption) ?_; (conv => arg 6; simp only [Act.put, List.setIfInBounds_toArray, List.set_cons_succ, List.set_cons_zero]))
    refine wpT_free rfl rfl (.inl ⟨rfl, fun w hw => run_ld1 Try.underlying45 rfl rfl rfl (hw.cell0 HG.out)⟩) (by assumption) ?_; (conv => arg 6; simp only [Act.put, List.setIfInBounds_toArray, List.set_cons_succ, List.set_cons_zero])
    iterate 3 (refine wpT_free rfl rfl (.inl ⟨rfl, fun w _ => by go_simp; rfl⟩) (by assumption) ?_; (conv => arg 6; simp only [Act.put, List.setIfInBounds_toArray, List.set_cons_succ, List.set_cons_zero]))
    iterate 4 (refine wpT_free rfl rfl (.inr ⟨rfl, rfl⟩) (by assumption) ?_; (conv => arg 6; simp only [Act.put, List.setIfInBounds_toArray, List.set_cons_succ, List.set_cons_zero]))
    (refine wpT_free rfl rfl (.inl ⟨rfl, fun w _ => by go_simp; rfl⟩) (by assumption) ?_; (conv => arg 6; simp only [Act.put, List.setIfInBounds_toArray, List.set_cons_succ, List.set_cons_zero]))
    refine wpT_done ?_
    go_wp2_with fail
    go_ret
    exact ⟨rfl, M1.sub (List.nil_sublist _)⟩
end Go.Proofs.Ytcapfnbmmdbcoaa
