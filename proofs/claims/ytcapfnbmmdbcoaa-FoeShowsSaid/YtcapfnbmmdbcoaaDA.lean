/- Walks of the term layer's reference: names and numbers. -/
import Derived.Test.YtcapfnbmmdbcoaaCU
set_option linter.unusedVariables false
set_option linter.unusedSimpArgs false
namespace Go.Proofs.Ytcapfnbmmdbcoaa
open Go.RowKit
theorem str_eqb (s t : ByteArray) : (s.toList == t.toList) = decide (s = t) := by
  by_cases h : s = t
  · subst h; simp
  · rw [decide_eq_false h]
    have : s.toList ≠ t.toList := fun e => h (by
      rw [ByteArray.toList_eq, ByteArray.toList_eq] at e
      exact ByteArray.ext (Array.toList_inj.1 e))
    simpa using this
theorem tmw_oth {t : Tm} (h3 : t.kind ≠ 3) (h4 : t.kind ≠ 4) (h6 : t.kind ≠ 6) : TmW t := ⟨fun h => absurd h h3, fun h => h.elim (fun h => absurd h h4) (fun h => absurd h h6)⟩
set_option maxRecDepth 100000 in
theorem Name32 (n : Int) (w : World) (h0 : 0 ≤ n) (hn : n ≤ 1000000000000) : Calls Try.prog 32 #[.int .i64 n] w (KeyR (nameL n) w) := by
  have M0 := Mem.start w
  have HL := hid (nameL_length n)
  go_enter Try.func32, Try.ntmps32
  go_wp2_with (first | (refine wpList_alN z26 2 rfl rfl rfl M0 (fun b2 w1 M1 => ?_); clear M0; (conv => arg 5; simp only [Act.put, List.setIfInBounds_toArray, List.set_cons_succ, List.set_cons_zero])) | (refine wpList_strowN (ys := nameL n) s26 rfl rfl rfl rfl M1 Swap.head (by simp) HL.out (fun w2 M2 => ?_); clear M1; (conv => arg 5; simp only [Act.put, List.setIfInBounds_toArray, List.set_cons_succ, List.set_cons_zero])))
  (try simp only [Exit.inBlock, Exit.then])
  refine ret_rowN Try.underlying26 s26 rfl rfl rfl rfl M2 List.mem_cons_self HL.out ?_
  exact ⟨rfl, M2.sub (List.nil_sublist _)⟩
theorem kn_Name {i : Nat} (w : World) (h : i ≤ 1000000000) : Calls Try.prog 32 #[.int .i64 (i : Int)] w (KeyR (kn i) w) := by
  have := Name32 (i : Int) w (by omega) (by omega)
  unfold kn
  exact this
set_option maxRecDepth 100000 in
set_option maxHeartbeats 1000000 in
theorem Shaped62 (k : List Int) (w : World) (hk : k.length = 32) (hb : ∀ x ∈ k, isByte x) : Calls Try.prog 62 #[.agg (nums .u8 k).toArray] w (BoolR (decide (nameL (numK k) = k)) w) := by
  have M0 := Mem.start w
  obtain ⟨r4, q4⟩ := rd_byte hb 4
  obtain ⟨r5, q5⟩ := rd_byte hb 5
  obtain ⟨r6, q6⟩ := rd_byte hb 6
  obtain ⟨r7, q7⟩ := rd_byte hb 7
  obtain ⟨n0, n1⟩ := numK_range hb
  have HK := hid hk
  have HNL := hid (nameL_length (numK k))
  clear hb hk
  go_enter Try.func62, Try.ntmps62
  go_wp2_with (refine wpList_bxN 1 rfl rfl rfl rfl M0 (fun b1 w1 M1 => ?_); clear M0; (conv => arg 5; simp only [Act.put, List.setIfInBounds_toArray, List.set_cons_succ, List.set_cons_zero]))
  refine wp_region_planT (.free 0 (.free 1 (.free 2 (.free 3 (.free 4 (.free 5 (.free 6 (.free 7 (.free 8 (.free 9 (.free 10 (.free 11 (.free 12 (.free 13 (.free 14 (.free 15 (.free 16 (.free 17 (.free 18 (.one 19 (.free 20 (.free 21 (.done))))))))))))))))))))))) (by kernel_rfl) (by kernel_rfl) (fun _ _ _ _ _ h => h) M1 (fun w2 M2 => ?_)
  clear M1
  refine wpT_free rfl rfl (.inl ⟨rfl, fun w hw => run_ldrowN Try.underlying26 s26 rfl rfl rfl hw List.mem_cons_self HK.out⟩) (by assumption) ?_; (conv => arg 6; simp only [Act.put, List.setIfInBounds_toArray, List.set_cons_succ, List.set_cons_zero])
  (refine wpT_free rfl rfl (.inl ⟨rfl, fun w _ => by go_simp; rfl⟩) (by assumption) ?_; (conv => arg 6; simp only [Act.put, List.setIfInBounds_toArray, List.set_cons_succ, List.set_cons_zero]))
  refine wpT_free rfl rfl (.inl ⟨rfl, fun w hw => run_ld1 Try.underlying5 rfl rfl rfl (hw.cellN List.mem_cons_self (by rw [HK.out]; decide))⟩) (by assumption) ?_; (conv => arg 6; simp only [Act.put, List.setIfInBounds_toArray, List.set_cons_succ, List.set_cons_zero])
  refine wpT_free (v := .int .i64 (rd k 4)) rfl rfl (.inl ⟨rfl, fun w _ => by go_simp; exact IntWalk.i64_in _ (by omega)⟩) (by assumption) ?_; (conv => arg 6; simp only [Act.put, List.setIfInBounds_toArray, List.set_cons_succ, List.set_cons_zero])
  refine wpT_free (v := .int .i64 (rd k 4 * 16777216)) rfl rfl (.inl ⟨rfl, fun w _ => by go_simp; exact IntWalk.i64_in _ (by omega)⟩) (by assumption) ?_; (conv => arg 6; simp only [Act.put, List.setIfInBounds_toArray, List.set_cons_succ, List.set_cons_zero])
  (refine wpT_free rfl rfl (.inl ⟨rfl, fun w _ => by go_simp; rfl⟩) (by assumption) ?_; (conv => arg 6; simp only [Act.put, List.setIfInBounds_toArray, List.set_cons_succ, List.set_cons_zero]))
  refine wpT_free rfl rfl (.inl ⟨rfl, fun w hw => run_ld1 Try.underlying5 rfl rfl rfl (hw.cellN List.mem_cons_self (by rw [HK.out]; decide))⟩) (by assumption) ?_; (conv => arg 6; simp only [Act.put, List.setIfInBounds_toArray, List.set_cons_succ, List.set_cons_zero])
  refine wpT_free (v := .int .i64 (rd k 5)) rfl rfl (.inl ⟨rfl, fun w _ => by go_simp; exact IntWalk.i64_in _ (by omega)⟩) (by assumption) ?_; (conv => arg 6; simp only [Act.put, List.setIfInBounds_toArray, List.set_cons_succ, List.set_cons_zero])
  refine wpT_free (v := .int .i64 (rd k 5 * 65536)) rfl rfl (.inl ⟨rfl, fun w _ => by go_simp; exact IntWalk.i64_in _ (by omega)⟩) (by assumption) ?_; (conv => arg 6; simp only [Act.put, List.setIfInBounds_toArray, List.set_cons_succ, List.set_cons_zero])
  refine wpT_free (v := .int .i64 (rd k 4 * 16777216 + rd k 5 * 65536)) rfl rfl (.inl ⟨rfl, fun w _ => by go_simp; exact IntWalk.i64_in _ (by omega)⟩) (by assumption) ?_; (conv => arg 6; simp only [Act.put, List.setIfInBounds_toArray, List.set_cons_succ, List.set_cons_zero])
  (refine wpT_free rfl rfl (.inl ⟨rfl, fun w _ => by go_simp; rfl⟩) (by assumption) ?_; (conv => arg 6; simp only [Act.put, List.setIfInBounds_toArray, List.set_cons_succ, List.set_cons_zero]))
  refine wpT_free rfl rfl (.inl ⟨rfl, fun w hw => run_ld1 Try.underlying5 rfl rfl rfl (hw.cellN List.mem_cons_self (by rw [HK.out]; decide))⟩) (by assumption) ?_; (conv => arg 6; simp only [Act.put, List.setIfInBounds_toArray, List.set_cons_succ, List.set_cons_zero])
  refine wpT_free (v := .int .i64 (rd k 6)) rfl rfl (.inl ⟨rfl, fun w _ => by go_simp; exact IntWalk.i64_in _ (by omega)⟩) (by assumption) ?_; (conv => arg 6; simp only [Act.put, List.setIfInBounds_toArray, List.set_cons_succ, List.set_cons_zero])
  refine wpT_free (v := .int .i64 (rd k 6 * 256)) rfl rfl (.inl ⟨rfl, fun w _ => by go_simp; exact IntWalk.i64_in _ (by omega)⟩) (by assumption) ?_; (conv => arg 6; simp only [Act.put, List.setIfInBounds_toArray, List.set_cons_succ, List.set_cons_zero])
  refine wpT_free (v := .int .i64 (rd k 4 * 16777216 + rd k 5 * 65536 + rd k 6 * 256)) rfl rfl (.inl ⟨rfl, fun w _ => by go_simp; exact IntWalk.i64_in _ (by omega)⟩) (by assumption) ?_; (conv => arg 6; simp only [Act.put, List.setIfInBounds_toArray, List.set_cons_succ, List.set_cons_zero])
  (refine wpT_free rfl rfl (.inl ⟨rfl, fun w _ => by go_simp; rfl⟩) (by assumption) ?_; (conv => arg 6; simp only [Act.put, List.setIfInBounds_toArray, List.set_cons_succ, List.set_cons_zero]))
  refine wpT_free rfl rfl (.inl ⟨rfl, fun w hw => run_ld1 Try.underlying5 rfl rfl rfl (hw.cellN List.mem_cons_self (by rw [HK.out]; decide))⟩) (by assumption) ?_; (conv => arg 6; simp only [Act.put, List.setIfInBounds_toArray, List.set_cons_succ, List.set_cons_zero])
  refine wpT_free (v := .int .i64 (rd k 7)) rfl rfl (.inl ⟨rfl, fun w _ => by go_simp; exact IntWalk.i64_in _ (by omega)⟩) (by assumption) ?_; (conv => arg 6; simp only [Act.put, List.setIfInBounds_toArray, List.set_cons_succ, List.set_cons_zero])
  refine wpT_free (v := .int .i64 (numK k)) rfl rfl (.inl ⟨rfl, fun w _ => by go_simp; exact IntWalk.i64_in _ (by unfold numK at n1; omega)⟩) (by assumption) ?_; (conv => arg 6; simp only [Act.put, List.setIfInBounds_toArray, List.set_cons_succ, List.set_cons_zero])
  refine wpT_op rfl ?_
  go_wp2_with (go_at_call 32; refine (Name32 (numK k) _ n0 (by omega)).mono ?_; rintro e w3 ⟨rfl, M3⟩; replace M2 := M2.call M3.below)
  refine PlanTQ.mk M2 ?_
  refine wpT_free (v := .bool (decide (k = nameL (numK k)))) rfl rfl (.inl ⟨rfl, fun w _ => run_eq26 rfl rfl rfl HK.out HNL.out w⟩) (by assumption) ?_; (conv => arg 6; simp only [Act.put, List.setIfInBounds_toArray, List.set_cons_succ, List.set_cons_zero])
  (refine wpT_free rfl rfl (.inl ⟨rfl, fun w _ => by go_simp; rfl⟩) (by assumption) ?_; (conv => arg 6; simp only [Act.put, List.setIfInBounds_toArray, List.set_cons_succ, List.set_cons_zero]))
  refine wpT_done ?_
  go_wp2_with fail
  go_ret
  refine ⟨?_, M2.sub (List.nil_sublist _)⟩
  rw [show decide (nameL (numK k) = k) = decide (k = nameL (numK k)) from decide_eq_decide.2 eq_comm]
  rfl
set_option maxRecDepth 100000 in
set_option maxHeartbeats 1000000 in
theorem Number59 (g n c : Nat) (A : Option Addr) (k : List Int) (w : World) (hg : w.cell? ⟨g, 0, none⟩ = some (Value.slice A n c)) (hk : k.length = 32) (hb : ∀ x ∈ k, isByte x) (hn : n ≤ 1000000) :
    Calls Try.prog 59 #[.pointer (some ⟨g, 0, none⟩), .agg (nums .u8 k).toArray] w (IntR (numT n k) w) := by
  have M0 := Mem.start w
  obtain ⟨r4, q4⟩ := rd_byte hb 4
  obtain ⟨r5, q5⟩ := rd_byte hb 5
  obtain ⟨r6, q6⟩ := rd_byte hb 6
  obtain ⟨r7, q7⟩ := rd_byte hb 7
  obtain ⟨n0, n1⟩ := numK_range hb
  have HN := hid (show rd k 4 * 16777216 + rd k 5 * 65536 + rd k 6 * 256 + rd k 7 = numK k from rfl)
  have HK := hid hk
  have HG := hid hg
  have HNL := hid (nameL_length (numK k))
  clear hb hk hg
  by_cases h : numK k < (n : Int)
  ·
    by_cases he : nameL (numK k) = k
    · rw [show numT n k = numK k from if_pos ⟨h, he⟩]
      have hd := hid (decide_eq_true he.symm)
      clear he
      go_enter Try.func59, Try.ntmps59
      have hkl := HK.out
      go_wp2_with (first | (apply wpList_bxN 3; (· rfl); (· rfl); (· rfl); (· rfl); (· assumption); intro b3 w' M'; (conv => arg 5; simp only [Act.put, List.setIfInBounds_toArray, List.set_cons_succ, List.set_cons_zero])) | (apply wpList_ldN Try.underlying5; (· rfl); (· rfl); (· rfl); (· rfl); (· assumption); (· (repeat (first | exact List.mem_cons_self | refine List.mem_cons_of_mem _ ?_))); (· (first | with_reducible assumption | omega | (simp only [nums_length, List.length_set, List.length_replicate]; first | with_reducible assumption | omega) | rfl | (simp [*]; done) | (simp [*]; omega))); (conv => arg 5; simp only [Act.put, List.setIfInBounds_toArray, List.set_cons_succ, List.set_cons_zero])) | (apply wpList_wantLd; (· rfl)) | (apply wpList_ldrowN Try.underlying26 s26; (· rfl); (· rfl); (· rfl); (· rfl); (· assumption); (· (repeat (first | exact List.mem_cons_self | refine List.mem_cons_of_mem _ ?_))); (· (first | with_reducible assumption | omega | (simp only [nums_length, List.length_set, List.length_replicate]; first | with_reducible assumption | omega) | rfl | (simp [*]; done) | (simp [*]; omega))); (conv => arg 5; simp only [Act.put, List.setIfInBounds_toArray, List.set_cons_succ, List.set_cons_zero])))
      clear hkl
      rw [HN.out]
      refine wp_region_planT (.free 0 (.free 1 (.free 2 (.free 3 (.free 4 (.free 5 (.free 6 (.free 7 (.free 8 (.free 9 (.one 10 (.free 11 (.free 12 (.done)))))))))))))) (by kernel_rfl) (by kernel_rfl) (fun _ _ _ _ _ h => h) M' (fun w1 M1 => ?_)
      clear M'
      iterate 4 (refine wpT_free rfl rfl (.inl ⟨rfl, fun w _ => by go_simp; rfl⟩) (by assumption) ?_; (conv => arg 6; simp only [Act.put, List.setIfInBounds_toArray, List.set_cons_succ, List.set_cons_zero]))
      refine wpT_free rfl rfl (.inl ⟨rfl, fun w hw => run_ld1 Try.underlying45 rfl rfl rfl (hw.cell0 HG.out)⟩) (by assumption) ?_; (conv => arg 6; simp only [Act.put, List.setIfInBounds_toArray, List.set_cons_succ, List.set_cons_zero])
      (refine wpT_free rfl rfl (.inl ⟨rfl, fun w _ => by go_simp; rfl⟩) (by assumption) ?_; (conv => arg 6; simp only [Act.put, List.setIfInBounds_toArray, List.set_cons_succ, List.set_cons_zero]))
      refine wpT_free (v := .bool true) rfl rfl (.inl ⟨rfl, fun w _ => by (go_simp <;> exact h)⟩) (by assumption) ?_; (conv => arg 6; simp only [Act.put, List.setIfInBounds_toArray, List.set_cons_succ, List.set_cons_zero])
      (refine wpT_free rfl rfl (.inl ⟨rfl, fun w _ => by go_simp; rfl⟩) (by assumption) ?_; (conv => arg 6; simp only [Act.put, List.setIfInBounds_toArray, List.set_cons_succ, List.set_cons_zero]))
      refine wpT_free rfl rfl (.inl ⟨rfl, fun w hw => run_ldrowN Try.underlying26 s26 rfl rfl rfl hw List.mem_cons_self HK.out⟩) (by assumption) ?_; (conv => arg 6; simp only [Act.put, List.setIfInBounds_toArray, List.set_cons_succ, List.set_cons_zero])
      (refine wpT_free rfl rfl (.inl ⟨rfl, fun w _ => by go_simp; rfl⟩) (by assumption) ?_; (conv => arg 6; simp only [Act.put, List.setIfInBounds_toArray, List.set_cons_succ, List.set_cons_zero]))
      refine wpT_op rfl (wpList_want rfl ?_)
      go_wp2_with (go_at_call 32; refine (Name32 (numK k) _ n0 (by omega)).mono ?_; rintro e w2 ⟨rfl, M2⟩; replace M1 := M1.call M2.below)
      refine PlanTQ.mk M1 ?_
      refine wpT_free (v := .bool true) rfl rfl (.inl ⟨rfl, fun w _ => run_eq26b true rfl rfl rfl HK.out HNL.out hd.out w⟩) (by assumption) ?_; (conv => arg 6; simp only [Act.put, List.setIfInBounds_toArray, List.set_cons_succ, List.set_cons_zero])
      (refine wpT_free rfl rfl (.inl ⟨rfl, fun w _ => by go_simp; rfl⟩) (by assumption) ?_; (conv => arg 6; simp only [Act.put, List.setIfInBounds_toArray, List.set_cons_succ, List.set_cons_zero]))
      refine wpT_done ?_
      go_wp2_with fail
      go_ret
      exact ⟨rfl, M1.sub (List.nil_sublist _)⟩
    · rw [show numT n k = -1 from if_neg (fun hh => he hh.2)]
      have hd := hid (decide_eq_false (fun (h : k = nameL (numK k)) => he h.symm))
      clear he
      go_enter Try.func59, Try.ntmps59
      have hkl := HK.out
      go_wp2_with (first | (apply wpList_bxN 3; (· rfl); (· rfl); (· rfl); (· rfl); (· assumption); intro b3 w' M'; (conv => arg 5; simp only [Act.put, List.setIfInBounds_toArray, List.set_cons_succ, List.set_cons_zero])) | (apply wpList_ldN Try.underlying5; (· rfl); (· rfl); (· rfl); (· rfl); (· assumption); (· (repeat (first | exact List.mem_cons_self | refine List.mem_cons_of_mem _ ?_))); (· (first | with_reducible assumption | omega | (simp only [nums_length, List.length_set, List.length_replicate]; first | with_reducible assumption | omega) | rfl | (simp [*]; done) | (simp [*]; omega))); (conv => arg 5; simp only [Act.put, List.setIfInBounds_toArray, List.set_cons_succ, List.set_cons_zero])) | (apply wpList_wantLd; (· rfl)) | (apply wpList_ldrowN Try.underlying26 s26; (· rfl); (· rfl); (· rfl); (· rfl); (· assumption); (· (repeat (first | exact List.mem_cons_self | refine List.mem_cons_of_mem _ ?_))); (· (first | with_reducible assumption | omega | (simp only [nums_length, List.length_set, List.length_replicate]; first | with_reducible assumption | omega) | rfl | (simp [*]; done) | (simp [*]; omega))); (conv => arg 5; simp only [Act.put, List.setIfInBounds_toArray, List.set_cons_succ, List.set_cons_zero])))
      clear hkl
      rw [HN.out]
      refine wp_region_planT (.free 0 (.free 1 (.free 2 (.free 3 (.free 4 (.free 5 (.free 6 (.free 7 (.free 8 (.free 9 (.one 10 (.free 11 (.free 12 (.done)))))))))))))) (by kernel_rfl) (by kernel_rfl) (fun _ _ _ _ _ h => h) M' (fun w1 M1 => ?_)
      clear M'
      iterate 4 (refine wpT_free rfl rfl (.inl ⟨rfl, fun w _ => by go_simp; rfl⟩) (by assumption) ?_; (conv => arg 6; simp only [Act.put, List.setIfInBounds_toArray, List.set_cons_succ, List.set_cons_zero]))
      refine wpT_free rfl rfl (.inl ⟨rfl, fun w hw => run_ld1 Try.underlying45 rfl rfl rfl (hw.cell0 HG.out)⟩) (by assumption) ?_; (conv => arg 6; simp only [Act.put, List.setIfInBounds_toArray, List.set_cons_succ, List.set_cons_zero])
      (refine wpT_free rfl rfl (.inl ⟨rfl, fun w _ => by go_simp; rfl⟩) (by assumption) ?_; (conv => arg 6; simp only [Act.put, List.setIfInBounds_toArray, List.set_cons_succ, List.set_cons_zero]))
      refine wpT_free (v := .bool true) rfl rfl (.inl ⟨rfl, fun w _ => by (go_simp <;> exact h)⟩) (by assumption) ?_; (conv => arg 6; simp only [Act.put, List.setIfInBounds_toArray, List.set_cons_succ, List.set_cons_zero])
      (refine wpT_free rfl rfl (.inl ⟨rfl, fun w _ => by go_simp; rfl⟩) (by assumption) ?_; (conv => arg 6; simp only [Act.put, List.setIfInBounds_toArray, List.set_cons_succ, List.set_cons_zero]))
      refine wpT_free rfl rfl (.inl ⟨rfl, fun w hw => run_ldrowN Try.underlying26 s26 rfl rfl rfl hw List.mem_cons_self HK.out⟩) (by assumption) ?_; (conv => arg 6; simp only [Act.put, List.setIfInBounds_toArray, List.set_cons_succ, List.set_cons_zero])
      (refine wpT_free rfl rfl (.inl ⟨rfl, fun w _ => by go_simp; rfl⟩) (by assumption) ?_; (conv => arg 6; simp only [Act.put, List.setIfInBounds_toArray, List.set_cons_succ, List.set_cons_zero]))
      refine wpT_op rfl (wpList_want rfl ?_)
      go_wp2_with (go_at_call 32; refine (Name32 (numK k) _ n0 (by omega)).mono ?_; rintro e w2 ⟨rfl, M2⟩; replace M1 := M1.call M2.below)
      refine PlanTQ.mk M1 ?_
      refine wpT_free (v := .bool false) rfl rfl (.inl ⟨rfl, fun w _ => run_eq26b false rfl rfl rfl HK.out HNL.out hd.out w⟩) (by assumption) ?_; (conv => arg 6; simp only [Act.put, List.setIfInBounds_toArray, List.set_cons_succ, List.set_cons_zero])
      (refine wpT_free rfl rfl (.inl ⟨rfl, fun w _ => by go_simp; rfl⟩) (by assumption) ?_; (conv => arg 6; simp only [Act.put, List.setIfInBounds_toArray, List.set_cons_succ, List.set_cons_zero]))
      refine wpT_done ?_
      go_wp2_with fail
      go_ret
      exact ⟨rfl, M1.sub (List.nil_sublist _)⟩
  · rw [show numT n k = -1 from if_neg (fun hh => h hh.1)]
    go_enter Try.func59, Try.ntmps59
    have hkl := HK.out
    go_wp2_with (first | (apply wpList_bxN 3; (· rfl); (· rfl); (· rfl); (· rfl); (· assumption); intro b3 w' M'; (conv => arg 5; simp only [Act.put, List.setIfInBounds_toArray, List.set_cons_succ, List.set_cons_zero])) | (apply wpList_ldN Try.underlying5; (· rfl); (· rfl); (· rfl); (· rfl); (· assumption); (· (repeat (first | exact List.mem_cons_self | refine List.mem_cons_of_mem _ ?_))); (· (first | with_reducible assumption | omega | (simp only [nums_length, List.length_set, List.length_replicate]; first | with_reducible assumption | omega) | rfl | (simp [*]; done) | (simp [*]; omega))); (conv => arg 5; simp only [Act.put, List.setIfInBounds_toArray, List.set_cons_succ, List.set_cons_zero])) | (apply wpList_wantLd; (· rfl)) | (apply wpList_ldrowN Try.underlying26 s26; (· rfl); (· rfl); (· rfl); (· rfl); (· assumption); (· (repeat (first | exact List.mem_cons_self | refine List.mem_cons_of_mem _ ?_))); (· (first | with_reducible assumption | omega | (simp only [nums_length, List.length_set, List.length_replicate]; first | with_reducible assumption | omega) | rfl | (simp [*]; done) | (simp [*]; omega))); (conv => arg 5; simp only [Act.put, List.setIfInBounds_toArray, List.set_cons_succ, List.set_cons_zero])))
    clear hkl
    rw [HN.out]
    refine wp_region_planT (.free 0 (.free 1 (.free 2 (.free 3 (.free 4 (.free 5 (.free 6 (.free 7 (.free 8 (.free 9 (.free 10 (.free 11 (.free 12 (.done)))))))))))))) (by kernel_rfl) (by kernel_rfl) (fun _ _ _ _ _ h => h) M' (fun w1 M1 => ?_)
    clear M'
    iterate 4 (refine wpT_free rfl rfl (.inl ⟨rfl, fun w _ => by go_simp; rfl⟩) (by assumption) ?_; (conv => arg 6; simp only [Act.put, List.setIfInBounds_toArray, List.set_cons_succ, List.set_cons_zero]))
    refine wpT_free rfl rfl (.inl ⟨rfl, fun w hw => run_ld1 Try.underlying45 rfl rfl rfl (hw.cell0 HG.out)⟩) (by assumption) ?_; (conv => arg 6; simp only [Act.put, List.setIfInBounds_toArray, List.set_cons_succ, List.set_cons_zero])
    (refine wpT_free rfl rfl (.inl ⟨rfl, fun w _ => by go_simp; rfl⟩) (by assumption) ?_; (conv => arg 6; simp only [Act.put, List.setIfInBounds_toArray, List.set_cons_succ, List.set_cons_zero]))
    refine wpT_free (v := .bool false) rfl rfl (.inl ⟨rfl, fun w _ => by (go_simp <;> omega)⟩) (by assumption) ?_; (conv => arg 6; simp only [Act.put, List.setIfInBounds_toArray, List.set_cons_succ, List.set_cons_zero])
    (refine wpT_free rfl rfl (.inl ⟨rfl, fun w _ => by go_simp; rfl⟩) (by assumption) ?_; (conv => arg 6; simp only [Act.put, List.setIfInBounds_toArray, List.set_cons_succ, List.set_cons_zero]))
    iterate 4 (refine wpT_free rfl rfl (.inr ⟨rfl, rfl⟩) (by assumption) ?_; (conv => arg 6; simp only [Act.put, List.setIfInBounds_toArray, List.set_cons_succ, List.set_cons_zero]))
    (refine wpT_free rfl rfl (.inl ⟨rfl, fun w _ => by go_simp; rfl⟩) (by assumption) ?_; (conv => arg 6; simp only [Act.put, List.setIfInBounds_toArray, List.set_cons_succ, List.set_cons_zero]))
    refine wpT_done ?_
    go_wp2_with fail
    go_ret
    exact ⟨rfl, M1.sub (List.nil_sublist _)⟩
end Go.Proofs.Ytcapfnbmmdbcoaa
namespace Go.Proofs.Ytcapfnbmmdbcoaa
open Go.RowKit
theorem take_step {α : Type} {ks qs : List α} {i : Nat} {k q : α} (h : ks.take i = qs.take i) (hk : ks[i]? = some k) (hq : qs[i]? = some q) (he : k = q) : ks.take (i + 1) = qs.take (i + 1) := by
  obtain ⟨h1, rfl⟩ := List.getElem?_eq_some_iff.1 hk
  obtain ⟨h2, rfl⟩ := List.getElem?_eq_some_iff.1 hq
  rw [List.take_succ_eq_append_getElem h1, List.take_succ_eq_append_getElem h2, h, he]
set_option maxRecDepth 100000 in
set_option maxHeartbeats 1000000 in
theorem SameKeys25 (A B : Option Addr) (c d : Nat) (ks qs : List (List Int)) (w : World) (hk : ∀ k ∈ ks, KeyOk k) (hq : ∀ k ∈ qs, KeyOk k) (hA : RowT w 26 A (nums .u8 ks.flatten)) (hB : RowT w 26 B (nums .u8 qs.flatten)) (hn : ks.length ≤ 100000) (hm : qs.length ≤ 100000) :
    Calls Try.prog 25 #[.slice A ks.length c, .slice B qs.length d] w (BoolR (decide (ks = qs)) w) := by
  have M0 := Mem.start w
  have HK := hid hk
  have HQ := hid hq
  have HA := hid hA
  have HB := hid hB
  clear hk hq hA hB
  by_cases hl : ks.length = qs.length
  · have HL := hid hl
    rw [← HL.out]
    go_enter Try.func25, Try.ntmps25
    go_wp2_with fail
    go_loopw [5] (fun n wr => ∃ i : Nat, i ≤ ks.length ∧ n = .int .i64 i ∧ Mem w [] wr [] ∧ Hid (ks.take i = qs.take i)) (fun n _ => ks.length - (intOf n).toNat)
    case atStart => exact ⟨0, by omega, rfl, M0, hid rfl⟩
    case round =>
      obtain ⟨i, hi, rfl, Mi, HI⟩ := hrel
      clear M0
      by_cases hlt : i < ks.length
      · have hltI : (i : Int) < (ks.length : Int) := by omega
        obtain ⟨k, hke⟩ : ∃ k, ks[i]? = some k := ⟨ks[i], List.getElem?_eq_getElem hlt⟩
        obtain ⟨q, hqe⟩ : ∃ q, qs[i]? = some q := ⟨qs[i], List.getElem?_eq_getElem (by omega)⟩
        obtain ⟨b1, o1, rfl, _⟩ := keys_at HK.out HA.out hke
        obtain ⟨b2, o2, rfl, _⟩ := keys_at HQ.out HB.out hqe
        have HKE := hid hke
        have HQE := hid hqe
        have HC1 := hid (keys_cells HK.out HA.out hke)
        have HC2 := hid (keys_cells HQ.out HB.out hqe)
        have HKK := hid (HK.out k (List.mem_of_getElem? hke))
        have HQQ := hid (HQ.out q (List.mem_of_getElem? hqe))
        clear hke hqe
        by_cases he : k = q
        · have HE := hid (show decide (k = q) = !false from decide_eq_true he)
          have HEQ := hid he
          clear he
          go_upto_region 6 with fail
          refine wp_region_planT (.free 0 (.free 1 (.free 2 (.free 3 (.free 4 (.free 5 (.free 6 (.free 7 (.free 8 (.done)))))))))) (by kernel_rfl) (by kernel_rfl) (fun _ _ _ _ _ h => h) Mi (fun w1 M1 => ?_)
          clear Mi
          iterate 2 (refine wpT_free rfl rfl (.inl ⟨rfl, fun w _ => by go_simp; rfl⟩) (by assumption) ?_; (conv => arg 6; simp only [Act.put, List.setIfInBounds_toArray, List.set_cons_succ, List.set_cons_zero]))
          refine wpT_free (v := .pointer (some ⟨b1, o1 + i * 32, none⟩)) rfl rfl (.inl ⟨rfl, fun w _ => by go_simp⟩) (by assumption) ?_; (conv => arg 6; simp only [Act.put, List.setIfInBounds_toArray, List.set_cons_succ, List.set_cons_zero])
          refine wpT_free rfl rfl (.inl ⟨rfl, fun w hw => run_ldK Try.underlying26 rfl rfl rfl (hw.cells0 HC1.out) (s26k HKK.out)⟩) (by assumption) ?_; (conv => arg 6; simp only [Act.put, List.setIfInBounds_toArray, List.set_cons_succ, List.set_cons_zero])
          iterate 2 (refine wpT_free rfl rfl (.inl ⟨rfl, fun w _ => by go_simp; rfl⟩) (by assumption) ?_; (conv => arg 6; simp only [Act.put, List.setIfInBounds_toArray, List.set_cons_succ, List.set_cons_zero]))
          refine wpT_free (v := .pointer (some ⟨b2, o2 + i * 32, none⟩)) rfl rfl (.inl ⟨rfl, fun w _ => by go_simp⟩) (by assumption) ?_; (conv => arg 6; simp only [Act.put, List.setIfInBounds_toArray, List.set_cons_succ, List.set_cons_zero])
          refine wpT_free rfl rfl (.inl ⟨rfl, fun w hw => run_ldK Try.underlying26 rfl rfl rfl (hw.cells0 HC2.out) (s26k HQQ.out)⟩) (by assumption) ?_; (conv => arg 6; simp only [Act.put, List.setIfInBounds_toArray, List.set_cons_succ, List.set_cons_zero])
          refine wpT_free rfl rfl (.inl ⟨rfl, fun w _ => run_neq26b false rfl rfl rfl HKK.out.1 HQQ.out.1 HE.out w⟩) (by assumption) ?_; (conv => arg 6; simp only [Act.put, List.setIfInBounds_toArray, List.set_cons_succ, List.set_cons_zero])
          refine wpT_done ?_
          go_wp2_with fail
          go_round
          case rel => exact ⟨i + 1, by omega, by go_num, M1, hid (take_step HI.out HKE.out HQE.out HEQ.out)⟩
          case measure => simp [intOf]; omega
        · have HE := hid (show decide (k = q) = !true from decide_eq_false he)
          have HNE := hid (show ks ≠ qs from fun h => he (by have := HKE.out; rw [h, HQE.out] at this; injection this with this; exact this.symm))
          clear he
          go_upto_region 6 with fail
          refine wp_region_planT (.free 0 (.free 1 (.free 2 (.free 3 (.free 4 (.free 5 (.free 6 (.free 7 (.free 8 (.done)))))))))) (by kernel_rfl) (by kernel_rfl) (fun _ _ _ _ _ h => h) Mi (fun w1 M1 => ?_)
          clear Mi
          iterate 2 (refine wpT_free rfl rfl (.inl ⟨rfl, fun w _ => by go_simp; rfl⟩) (by assumption) ?_; (conv => arg 6; simp only [Act.put, List.setIfInBounds_toArray, List.set_cons_succ, List.set_cons_zero]))
          refine wpT_free (v := .pointer (some ⟨b1, o1 + i * 32, none⟩)) rfl rfl (.inl ⟨rfl, fun w _ => by go_simp⟩) (by assumption) ?_; (conv => arg 6; simp only [Act.put, List.setIfInBounds_toArray, List.set_cons_succ, List.set_cons_zero])
          refine wpT_free rfl rfl (.inl ⟨rfl, fun w hw => run_ldK Try.underlying26 rfl rfl rfl (hw.cells0 HC1.out) (s26k HKK.out)⟩) (by assumption) ?_; (conv => arg 6; simp only [Act.put, List.setIfInBounds_toArray, List.set_cons_succ, List.set_cons_zero])
          iterate 2 (refine wpT_free rfl rfl (.inl ⟨rfl, fun w _ => by go_simp; rfl⟩) (by assumption) ?_; (conv => arg 6; simp only [Act.put, List.setIfInBounds_toArray, List.set_cons_succ, List.set_cons_zero]))
          refine wpT_free (v := .pointer (some ⟨b2, o2 + i * 32, none⟩)) rfl rfl (.inl ⟨rfl, fun w _ => by go_simp⟩) (by assumption) ?_; (conv => arg 6; simp only [Act.put, List.setIfInBounds_toArray, List.set_cons_succ, List.set_cons_zero])
          refine wpT_free rfl rfl (.inl ⟨rfl, fun w hw => run_ldK Try.underlying26 rfl rfl rfl (hw.cells0 HC2.out) (s26k HQQ.out)⟩) (by assumption) ?_; (conv => arg 6; simp only [Act.put, List.setIfInBounds_toArray, List.set_cons_succ, List.set_cons_zero])
          refine wpT_free rfl rfl (.inl ⟨rfl, fun w _ => run_neq26b true rfl rfl rfl HKK.out.1 HQQ.out.1 HE.out w⟩) (by assumption) ?_; (conv => arg 6; simp only [Act.put, List.setIfInBounds_toArray, List.set_cons_succ, List.set_cons_zero])
          refine wpT_done ?_
          go_wp2_with fail
          go_ret
          rw [decide_eq_false HNE.out]
          exact ⟨rfl, M1⟩
      · obtain rfl : i = ks.length := by omega
        go_wp2_with fail
        go_ret
        have : ks = qs := by
          have h := HI.out
          rwa [List.take_of_length_le (Nat.le_refl _), List.take_of_length_le (by rw [HL.out]; exact Nat.le_refl _)] at h
        rw [decide_eq_true this]
        exact ⟨rfl, Mi⟩
  · have hne : ((ks.length : Int) != (qs.length : Int)) = true := by simpa using (show ¬ (ks.length : Int) = (qs.length : Int) from by omega)
    have hd : decide (ks = qs) = false := decide_eq_false (fun h => hl (by rw [h]))
    rw [hd]
    clear hd hl
    go_enter Try.func25, Try.ntmps25
    go_wp2_with fail
    go_ret
    exact ⟨rfl, M0⟩
def lessL : List Int → List Int → Bool
  | a :: xs, b :: ys => if a = b then lessL xs ys else decide (a < b)
  | _, _ => false
theorem lessL_cmp : ∀ {o s : List Int}, o.length = s.length → (∀ x ∈ o, isByte x) → (∀ x ∈ s, isByte x) → lessL o s = decide (0 < cmpK s o)
  | [], [], _, _, _ => rfl
  | [], s :: ss, h, _, _ => by simp at h
  | o :: os, [], h, _, _ => by simp at h
  | o :: os, s :: ss, h, ho, hs => by
    have ih := lessL_cmp (o := os) (s := ss) (by simpa using h) (fun x hx => ho x (by simp [hx])) (fun x hx => hs x (by simp [hx]))
    have h1 := ho o (by simp)
    have h2 := hs s (by simp)
    unfold isByte at h1 h2
    unfold cmpK at ih ⊢
    simp only [strOfNums, List.map_cons] at ih ⊢
    unfold lessL Lib.compareBytes
    have e1 : (UInt8.ofNat s.toNat < UInt8.ofNat o.toNat) ↔ s < o := by
      rw [UInt8.lt_iff_toNat_lt]
      simp
      omega
    have e2 : (UInt8.ofNat o.toNat < UInt8.ofNat s.toNat) ↔ o < s := by
      rw [UInt8.lt_iff_toNat_lt]
      simp
      omega
    by_cases he : o = s
    · subst he
      rw [if_pos rfl, if_neg (by rw [e1]; omega), if_neg (by rw [e2]; omega)]
      exact ih
    · rw [if_neg he]
      by_cases hlt : s < o
      · rw [if_pos (e1.2 hlt)]
        simp
        omega
      · rw [if_neg (fun h => hlt (e1.1 h)), if_pos (e2.2 (by omega))]
        simp
        omega
theorem lessL_drop (a b : List Int) (i : Nat) (hi : i < a.length) (hj : i < b.length) : lessL (a.drop i) (b.drop i) = if rd a i = rd b i then lessL (a.drop (i + 1)) (b.drop (i + 1)) else decide (rd a i < rd b i) := by
  rw [List.drop_eq_getElem_cons hi, List.drop_eq_getElem_cons hj, lessL]
  simp [rd, List.getD_eq_getElem?_getD, List.getElem?_eq_getElem hi, List.getElem?_eq_getElem hj]
set_option maxRecDepth 100000 in
set_option maxHeartbeats 1000000 in
theorem less76 (a b : List Int) (w : World) (ha : KeyOk a) (hb : KeyOk b) : Calls Try.prog 76 #[.agg (nums .u8 a).toArray, .agg (nums .u8 b).toArray] w (BoolR (lessL a b) w) := by
  have M0 := Mem.start w
  have HA := hid ha
  have HB := hid hb
  have la := ha.1
  have lb := hb.1
  clear ha hb
  have HLA := hid la
  have HLB := hid lb
  clear la lb
  go_enter Try.func76, Try.ntmps76
  go_wp2_with (first | (refine wpList_bxN 2 rfl rfl rfl rfl M0 (fun b2 w1 M1 => ?_); clear M0; (conv => arg 5; simp only [Act.put, List.setIfInBounds_toArray, List.set_cons_succ, List.set_cons_zero])) | (refine wpList_bxN 3 rfl rfl rfl rfl M1 (fun b3 w2 M2 => ?_); clear M1; (conv => arg 5; simp only [Act.put, List.setIfInBounds_toArray, List.set_cons_succ, List.set_cons_zero])))
  go_loopw [5] (fun n wr => ∃ i : Nat, i ≤ 32 ∧ n = .int .i64 i ∧ Mem w [] wr [.blk b3 (rowO .u8 26 b), .blk b2 (rowO .u8 26 a)] ∧ Hid (lessL a b = lessL (a.drop i) (b.drop i))) (fun n _ => 32 - (intOf n).toNat)
  case atStart => exact ⟨0, by omega, rfl, M2, hid rfl⟩
  case round =>
    obtain ⟨i, hi, rfl, Mi, HI⟩ := hrel
    clear M2
    by_cases hlt : i < 32
    · have hltI : (i : Int) < 32 := by omega
      have HD := hid (lessL_drop a b i (by rw [HLA.out]; exact hlt) (by rw [HLB.out]; exact hlt))
      by_cases he : rd a i = rd b i
      · have HE := hid he
        clear he
        go_upto_region 4 with fail
        refine wp_region_planT (.free 0 (.free 1 (.free 2 (.free 3 (.free 4 (.free 5 (.free 6 (.done)))))))) (by kernel_rfl) (by kernel_rfl) (fun _ _ _ _ _ h => h) Mi (fun w1 M1 => ?_)
        clear Mi
        iterate 2 (refine wpT_free rfl rfl (.inl ⟨rfl, fun w _ => by go_simp; rfl⟩) (by assumption) ?_; (conv => arg 6; simp only [Act.put, List.setIfInBounds_toArray, List.set_cons_succ, List.set_cons_zero]))
        refine wpT_free rfl rfl (.inl ⟨rfl, fun w hw => run_ld1 Try.underlying5 rfl rfl rfl (hw.cellN (List.mem_cons_of_mem _ List.mem_cons_self) (by rw [HLA.out]; exact hlt))⟩) (by assumption) ?_; (conv => arg 6; simp only [Act.put, List.setIfInBounds_toArray, List.set_cons_succ, List.set_cons_zero])
        iterate 2 (refine wpT_free rfl rfl (.inl ⟨rfl, fun w _ => by go_simp; rfl⟩) (by assumption) ?_; (conv => arg 6; simp only [Act.put, List.setIfInBounds_toArray, List.set_cons_succ, List.set_cons_zero]))
        refine wpT_free rfl rfl (.inl ⟨rfl, fun w hw => run_ld1 Try.underlying5 rfl rfl rfl (hw.cellN List.mem_cons_self (by rw [HLB.out]; exact hlt))⟩) (by assumption) ?_; (conv => arg 6; simp only [Act.put, List.setIfInBounds_toArray, List.set_cons_succ, List.set_cons_zero])
        refine wpT_free (v := .bool false) rfl rfl (.inl ⟨rfl, fun w _ => by (go_simp <;> simpa using HE.out)⟩) (by assumption) ?_; (conv => arg 6; simp only [Act.put, List.setIfInBounds_toArray, List.set_cons_succ, List.set_cons_zero])
        refine wpT_done ?_
        go_wp2_with fail
        go_round
        case rel => exact ⟨i + 1, by omega, by go_num, M1, hid (by rw [HI.out, HD.out, if_pos HE.out])⟩
        case measure => simp [intOf]; omega
      · have HE := hid he
        clear he
        go_upto_region 4 with fail
        refine wp_region_planT (.free 0 (.free 1 (.free 2 (.free 3 (.free 4 (.free 5 (.free 6 (.done)))))))) (by kernel_rfl) (by kernel_rfl) (fun _ _ _ _ _ h => h) Mi (fun w1 M1 => ?_)
        clear Mi
        iterate 2 (refine wpT_free rfl rfl (.inl ⟨rfl, fun w _ => by go_simp; rfl⟩) (by assumption) ?_; (conv => arg 6; simp only [Act.put, List.setIfInBounds_toArray, List.set_cons_succ, List.set_cons_zero]))
        refine wpT_free rfl rfl (.inl ⟨rfl, fun w hw => run_ld1 Try.underlying5 rfl rfl rfl (hw.cellN (List.mem_cons_of_mem _ List.mem_cons_self) (by rw [HLA.out]; exact hlt))⟩) (by assumption) ?_; (conv => arg 6; simp only [Act.put, List.setIfInBounds_toArray, List.set_cons_succ, List.set_cons_zero])
        iterate 2 (refine wpT_free rfl rfl (.inl ⟨rfl, fun w _ => by go_simp; rfl⟩) (by assumption) ?_; (conv => arg 6; simp only [Act.put, List.setIfInBounds_toArray, List.set_cons_succ, List.set_cons_zero]))
        refine wpT_free rfl rfl (.inl ⟨rfl, fun w hw => run_ld1 Try.underlying5 rfl rfl rfl (hw.cellN List.mem_cons_self (by rw [HLB.out]; exact hlt))⟩) (by assumption) ?_; (conv => arg 6; simp only [Act.put, List.setIfInBounds_toArray, List.set_cons_succ, List.set_cons_zero])
        refine wpT_free (v := .bool true) rfl rfl (.inl ⟨rfl, fun w _ => by (go_simp <;> simpa using HE.out)⟩) (by assumption) ?_; (conv => arg 6; simp only [Act.put, List.setIfInBounds_toArray, List.set_cons_succ, List.set_cons_zero])
        refine wpT_done ?_
        go_upto_region 5 with fail
        refine wp_region_planT (.free 0 (.free 1 (.free 2 (.free 3 (.free 4 (.free 5 (.free 6 (.free 7 (.done))))))))) (by kernel_rfl) (by kernel_rfl) (fun _ _ _ _ _ h => h) M1 (fun w1 M3 => ?_)
        clear M1
        iterate 2 (refine wpT_free rfl rfl (.inl ⟨rfl, fun w _ => by go_simp; rfl⟩) (by assumption) ?_; (conv => arg 6; simp only [Act.put, List.setIfInBounds_toArray, List.set_cons_succ, List.set_cons_zero]))
        refine wpT_free rfl rfl (.inl ⟨rfl, fun w hw => run_ld1 Try.underlying5 rfl rfl rfl (hw.cellN (List.mem_cons_of_mem _ List.mem_cons_self) (by rw [HLA.out]; exact hlt))⟩) (by assumption) ?_; (conv => arg 6; simp only [Act.put, List.setIfInBounds_toArray, List.set_cons_succ, List.set_cons_zero])
        iterate 2 (refine wpT_free rfl rfl (.inl ⟨rfl, fun w _ => by go_simp; rfl⟩) (by assumption) ?_; (conv => arg 6; simp only [Act.put, List.setIfInBounds_toArray, List.set_cons_succ, List.set_cons_zero]))
        refine wpT_free rfl rfl (.inl ⟨rfl, fun w hw => run_ld1 Try.underlying5 rfl rfl rfl (hw.cellN List.mem_cons_self (by rw [HLB.out]; exact hlt))⟩) (by assumption) ?_; (conv => arg 6; simp only [Act.put, List.setIfInBounds_toArray, List.set_cons_succ, List.set_cons_zero])
        iterate 2 (refine wpT_free rfl rfl (.inl ⟨rfl, fun w _ => by go_simp; rfl⟩) (by assumption) ?_; (conv => arg 6; simp only [Act.put, List.setIfInBounds_toArray, List.set_cons_succ, List.set_cons_zero]))
        refine wpT_done ?_
        go_wp2_with fail
        go_ret
        rw [HI.out, HD.out, if_neg HE.out]
        exact ⟨rfl, M3.sub (List.nil_sublist _)⟩
    · obtain rfl : i = 32 := by omega
      go_wp2_with fail
      go_ret
      rw [HI.out, List.drop_of_length_le (by rw [HLA.out]; exact Nat.le_refl _), List.drop_of_length_le (by rw [HLB.out]; exact Nat.le_refl _)]
      exact ⟨rfl, Mi.sub (List.nil_sublist _)⟩
end Go.Proofs.Ytcapfnbmmdbcoaa
namespace Go.Proofs.Ytcapfnbmmdbcoaa
open Go.RowKit
def sumStep (x b : Int) : Int := (x * 31 % 4294967296 + b) % 4294967296
def keyStep (x : Int) (k : List Int) : Int := (((x * 31 % 4294967296 + rd k 7) % 4294967296 + 256 * rd k 6 % 4294967296) % 4294967296 + rd k 0) % 4294967296
def sumA (t : Tm) (i : Nat) : Int := ((bytesOf t.text).take i).foldl sumStep (t.kind + 7 * (t.text.size : Int))
def sumK (t : Tm) (j : Nat) : Int := (t.keys.take j).foldl keyStep (sumA t (min t.text.size 20))
/-- A term's number. -/
def sumT (t : Tm) : Int := sumK t t.keys.length
theorem foldl_take {α : Type} (f : Int → α → Int) (a : Int) (l : List α) (i : Nat) (x : α) (h : l[i]? = some x) : (l.take (i + 1)).foldl f a = f ((l.take i).foldl f a) x := by
  obtain ⟨hl, rfl⟩ := List.getElem?_eq_some_iff.1 h
  rw [List.take_succ_eq_append_getElem hl, List.foldl_append]
  rfl
theorem fold_range {α : Type} (f : Int → α → Int) (hf : ∀ a x, 0 ≤ f a x ∧ f a x < 4294967296) : ∀ (l : List α) (a : Int), 0 ≤ a ∧ a < 4294967296 → 0 ≤ l.foldl f a ∧ l.foldl f a < 4294967296
  | [], a, h => h
  | x :: l, a, _ => fold_range f hf l (f a x) (hf a x)
theorem sumStep_range (x b : Int) : 0 ≤ sumStep x b ∧ sumStep x b < 4294967296 := by unfold sumStep; omega
theorem keyStep_range (x : Int) (k : List Int) : 0 ≤ keyStep x k ∧ keyStep x k < 4294967296 := by unfold keyStep; omega
theorem sumA_range {t : Tm} (h : TmOk t) (i : Nat) : 0 ≤ sumA t i ∧ sumA t i < 4294967296 := by
  have h1 := h.k0
  have h2 := h.k1
  have h3 := h.tx
  exact fold_range sumStep sumStep_range _ _ (by omega)
theorem sumK_range {t : Tm} (h : TmOk t) (i : Nat) : 0 ≤ sumK t i ∧ sumK t i < 4294967296 := fold_range keyStep keyStep_range _ _ (sumA_range h _)
theorem sumA_next (t : Tm) (i : Nat) (hi : i < t.text.size) : sumA t (i + 1) = (sumA t i * 31 % 4294967296 + rd (bytesOf t.text) i) % 4294967296 := by
  unfold sumA
  rw [foldl_take sumStep _ (bytesOf t.text) i (rd (bytesOf t.text) i) (by
    rw [rd, List.getD_eq_getElem?_getD, List.getElem?_eq_getElem (by rw [bytesOf_length]; exact hi)]; rfl)]
  rfl
theorem u32w (x : Int) : IntKind.u32.wrap x = x % 4294967296 := by simp [IntKind.wrap, IntKind.signed, IntKind.bits]
/-- A number comes back. -/
def NumR (x : Int) (w : World) (e : Ending) (w' : World) : Prop := e = .returned (.int .u32 x) ∧ Mem w [] w' []
set_option maxRecDepth 100000 in
set_option maxHeartbeats 1000000 in
theorem sum82 (t : Tm) (B : Option Addr) (d : Nat) (w : World) (ht : TmOk t) (hr : RowT w 26 B (nums .u8 t.keys.flatten)) :
    Calls Try.prog 82 #[.agg #[.int .i64 t.kind, .string t.text, .slice B t.keys.length d]] w (NumR (sumT t) w) := by
  have M0 := Mem.start w
  have HT := hid ht
  have HR := hid hr
  have k0 := ht.k0
  have k1 := ht.k1
  have tx := ht.tx
  have kl := ht.kl
  clear ht hr
  go_enter Try.func82, Try.ntmps82
  go_wp2_with (first | (refine wpList_bx (cs := [.int .i64 t.kind, .string t.text, .slice B t.keys.length d]) rfl rfl M0 rfl rfl (fun b1 w1 M1 => ?_); clear M0; have c0 := M1.cell (i := 0) List.mem_cons_self rfl; have c1 := M1.cell (i := 1) List.mem_cons_self rfl; have c2 := M1.cell (i := 2) List.mem_cons_self rfl; (conv => arg 5; simp only [Act.put, List.setIfInBounds_toArray, List.set_cons_succ, List.set_cons_zero])))
  go_loopw [3, 4] (fun s n wr => ∃ (i : Nat), i ≤ t.text.size ∧ i ≤ 20 ∧ n = .int .i64 i ∧ s = .int .u32 (sumA t i) ∧ Mem w [] wr [.blk b1 (cellsO 95 [.int .i64 t.kind, .string t.text, .slice B t.keys.length d])]) (fun _ n _ => t.text.size - (intOf n).toNat)
  case atStart => exact ⟨0, by omega, by omega, rfl, rfl, M1⟩
  case round =>
    obtain ⟨i, hi, hi20, rfl, rfl, Mi⟩ := hrel
    clear M1 c0 c1 c2
    obtain ⟨r0, r1⟩ := sumA_range HT.out i
    by_cases hlt : i < t.text.size ∧ i < 20
    · obtain ⟨h1, h2⟩ := hlt
      have hI : (i : Int) < (t.text.size : Int) := by omega
      have hI2 : (i : Int) < 20 := by omega
      have c1 := Mi.cell (i := 1) List.mem_cons_self rfl
      have hb := byte_range t.text i
      have HN := hid (sumA_next t i h1)
      go_wp2_with (first | (apply wpList_want; (· rfl)))
      go_round
      case rel => exact ⟨i + 1, by omega, by omega, by go_num, by rw [HN.out], Mi⟩
      case measure => simp [intOf]; omega
    · have hi2 : i = min t.text.size 20 := by omega
      have HI := hid (show sumA t i = sumK t 0 from by rw [hi2]; rfl)
      have c1 := Mi.cell (i := 1) List.mem_cons_self rfl
      obtain ⟨x0, hx0⟩ : ∃ x, x = sumA t i := ⟨_, rfl⟩
      rw [← hx0] at r0 r1 HI ⊢
      clear hx0
      by_cases h1 : i < t.text.size
      · have hI : (i : Int) < (t.text.size : Int) := by omega
        have hI2 : ¬ (i : Int) < 20 := by omega
        go_wp2_with (first | (apply wpList_want; (· rfl)))
        go_loopw [3, 5] (fun s n wr => ∃ (j : Nat), j ≤ t.keys.length ∧ n = .int .i64 j ∧ s = .int .u32 (sumK t j) ∧ Mem w [] wr [.blk b1 (cellsO 95 [.int .i64 t.kind, .string t.text, .slice B t.keys.length d])]) (fun _ n _ => t.keys.length - (intOf n).toNat)
        case atStart => exact ⟨0, by omega, rfl, by rw [HI.out], Mi⟩
        case round =>
          obtain ⟨j, hj, rfl, rfl, Mj⟩ := hrel
          clear Mi c1 r0 r1 HI
          have c2 := Mj.cell (i := 2) List.mem_cons_self rfl
          by_cases hltj : j < t.keys.length
          · have hJ : (j : Int) < (t.keys.length : Int) := by omega
            obtain ⟨k, hke⟩ : ∃ k, t.keys[j]? = some k := ⟨t.keys[j], List.getElem?_eq_getElem hltj⟩
            obtain ⟨bk, off, hB, hc⟩ := keys_at HT.out.ks HR.out hke
            subst hB
            have HKK := hid (HT.out.ks k (List.mem_of_getElem? hke))
            have HC := hid hc
            have HN := hid (show sumK t (j + 1) = keyStep (sumK t j) k from foldl_take keyStep _ t.keys j k hke)
            obtain ⟨x, hx⟩ : ∃ x, x = sumK t j := ⟨_, rfl⟩
            rw [← hx] at HN ⊢
            obtain ⟨b7l, b7u⟩ := rd_byte HKK.out.2 7
            obtain ⟨b6l, b6u⟩ := rd_byte HKK.out.2 6
            obtain ⟨b0l, b0u⟩ := rd_byte HKK.out.2 0
            clear hke hc hx
            go_upto_region 9 with fail
            clear c2
            refine wp_region_planT (.free 0 (.free 1 (.free 2 (.free 3 (.free 4 (.free 5 (.free 6 (.free 7 (.free 8 (.free 9 (.free 10 (.free 11 (.free 12 (.free 13 (.free 14 (.free 15 (.free 16 (.free 17 (.free 18 (.free 19 (.free 20 (.free 21 (.free 22 (.free 23 (.free 24 (.free 25 (.free 26 (.free 27 (.done))))))))))))))))))))))))))))) (by kernel_rfl) (by kernel_rfl) (fun _ _ _ _ _ h => h) Mj (fun w2 M2 => ?_)
            clear Mj
            (refine wpT_free rfl rfl (.inl ⟨rfl, fun w _ => by go_simp; rfl⟩) (by assumption) ?_; (conv => arg 6; simp only [Act.put, List.setIfInBounds_toArray, List.set_cons_succ, List.set_cons_zero]))
            refine wpT_free (v := .int .u32 (x * 31 % 4294967296)) rfl rfl (.inl ⟨rfl, fun w _ => by (go_simp; rw [u32w]; try omega)⟩) (by assumption) ?_; (conv => arg 6; simp only [Act.put, List.setIfInBounds_toArray, List.set_cons_succ, List.set_cons_zero])
            (refine wpT_free rfl rfl (.inl ⟨rfl, fun w _ => by go_simp; rfl⟩) (by assumption) ?_; (conv => arg 6; simp only [Act.put, List.setIfInBounds_toArray, List.set_cons_succ, List.set_cons_zero]))
            refine wpT_free rfl rfl (.inl ⟨rfl, fun w hw => run_ld1 Try.underlying34 rfl rfl rfl (hw.cell (i := 2) List.mem_cons_self rfl)⟩) (by assumption) ?_; (conv => arg 6; simp only [Act.put, List.setIfInBounds_toArray, List.set_cons_succ, List.set_cons_zero])
            (refine wpT_free rfl rfl (.inl ⟨rfl, fun w _ => by go_simp; rfl⟩) (by assumption) ?_; (conv => arg 6; simp only [Act.put, List.setIfInBounds_toArray, List.set_cons_succ, List.set_cons_zero]))
            refine wpT_free (v := .pointer (some ⟨bk, off + j * 32, none⟩)) rfl rfl (.inl ⟨rfl, fun w _ => by go_simp⟩) (by assumption) ?_; (conv => arg 6; simp only [Act.put, List.setIfInBounds_toArray, List.set_cons_succ, List.set_cons_zero])
            refine wpT_free (v := .pointer (some ⟨bk, off + j * 32 + 7, none⟩)) rfl rfl (.inl ⟨rfl, fun w _ => by go_simp⟩) (by assumption) ?_; (conv => arg 6; simp only [Act.put, List.setIfInBounds_toArray, List.set_cons_succ, List.set_cons_zero])
            refine wpT_free rfl rfl (.inl ⟨rfl, fun w hw => run_ld1 Try.underlying5 rfl rfl rfl (hw.cell0 (HC.out 7 _ (nums_get .u8 k 7 (by rw [HKK.out.1]; decide))))⟩) (by assumption) ?_; (conv => arg 6; simp only [Act.put, List.setIfInBounds_toArray, List.set_cons_succ, List.set_cons_zero])
            refine wpT_free (v := .int .u32 (rd k 7)) rfl rfl (.inl ⟨rfl, fun w _ => by (go_simp; rw [u32w]; omega)⟩) (by assumption) ?_; (conv => arg 6; simp only [Act.put, List.setIfInBounds_toArray, List.set_cons_succ, List.set_cons_zero])
            refine wpT_free (v := .int .u32 ((x * 31 % 4294967296 + rd k 7) % 4294967296)) rfl rfl (.inl ⟨rfl, fun w _ => by (go_simp; rw [u32w]; try omega)⟩) (by assumption) ?_; (conv => arg 6; simp only [Act.put, List.setIfInBounds_toArray, List.set_cons_succ, List.set_cons_zero])
            (refine wpT_free rfl rfl (.inl ⟨rfl, fun w _ => by go_simp; rfl⟩) (by assumption) ?_; (conv => arg 6; simp only [Act.put, List.setIfInBounds_toArray, List.set_cons_succ, List.set_cons_zero]))
            refine wpT_free rfl rfl (.inl ⟨rfl, fun w hw => run_ld1 Try.underlying34 rfl rfl rfl (hw.cell (i := 2) List.mem_cons_self rfl)⟩) (by assumption) ?_; (conv => arg 6; simp only [Act.put, List.setIfInBounds_toArray, List.set_cons_succ, List.set_cons_zero])
            (refine wpT_free rfl rfl (.inl ⟨rfl, fun w _ => by go_simp; rfl⟩) (by assumption) ?_; (conv => arg 6; simp only [Act.put, List.setIfInBounds_toArray, List.set_cons_succ, List.set_cons_zero]))
            refine wpT_free (v := .pointer (some ⟨bk, off + j * 32, none⟩)) rfl rfl (.inl ⟨rfl, fun w _ => by go_simp⟩) (by assumption) ?_; (conv => arg 6; simp only [Act.put, List.setIfInBounds_toArray, List.set_cons_succ, List.set_cons_zero])
            refine wpT_free (v := .pointer (some ⟨bk, off + j * 32 + 6, none⟩)) rfl rfl (.inl ⟨rfl, fun w _ => by go_simp⟩) (by assumption) ?_; (conv => arg 6; simp only [Act.put, List.setIfInBounds_toArray, List.set_cons_succ, List.set_cons_zero])
            refine wpT_free rfl rfl (.inl ⟨rfl, fun w hw => run_ld1 Try.underlying5 rfl rfl rfl (hw.cell0 (HC.out 6 _ (nums_get .u8 k 6 (by rw [HKK.out.1]; decide))))⟩) (by assumption) ?_; (conv => arg 6; simp only [Act.put, List.setIfInBounds_toArray, List.set_cons_succ, List.set_cons_zero])
            refine wpT_free (v := .int .u32 (rd k 6)) rfl rfl (.inl ⟨rfl, fun w _ => by (go_simp; rw [u32w]; omega)⟩) (by assumption) ?_; (conv => arg 6; simp only [Act.put, List.setIfInBounds_toArray, List.set_cons_succ, List.set_cons_zero])
            refine wpT_free (v := .int .u32 (256 * rd k 6 % 4294967296)) rfl rfl (.inl ⟨rfl, fun w _ => by (go_simp; rw [u32w]; try omega)⟩) (by assumption) ?_; (conv => arg 6; simp only [Act.put, List.setIfInBounds_toArray, List.set_cons_succ, List.set_cons_zero])
            refine wpT_free (v := .int .u32 (((x * 31 % 4294967296 + rd k 7) % 4294967296 + 256 * rd k 6 % 4294967296) % 4294967296)) rfl rfl (.inl ⟨rfl, fun w _ => by (go_simp; rw [u32w]; try omega)⟩) (by assumption) ?_; (conv => arg 6; simp only [Act.put, List.setIfInBounds_toArray, List.set_cons_succ, List.set_cons_zero])
            (refine wpT_free rfl rfl (.inl ⟨rfl, fun w _ => by go_simp; rfl⟩) (by assumption) ?_; (conv => arg 6; simp only [Act.put, List.setIfInBounds_toArray, List.set_cons_succ, List.set_cons_zero]))
            refine wpT_free rfl rfl (.inl ⟨rfl, fun w hw => run_ld1 Try.underlying34 rfl rfl rfl (hw.cell (i := 2) List.mem_cons_self rfl)⟩) (by assumption) ?_; (conv => arg 6; simp only [Act.put, List.setIfInBounds_toArray, List.set_cons_succ, List.set_cons_zero])
            (refine wpT_free rfl rfl (.inl ⟨rfl, fun w _ => by go_simp; rfl⟩) (by assumption) ?_; (conv => arg 6; simp only [Act.put, List.setIfInBounds_toArray, List.set_cons_succ, List.set_cons_zero]))
            refine wpT_free (v := .pointer (some ⟨bk, off + j * 32, none⟩)) rfl rfl (.inl ⟨rfl, fun w _ => by go_simp⟩) (by assumption) ?_; (conv => arg 6; simp only [Act.put, List.setIfInBounds_toArray, List.set_cons_succ, List.set_cons_zero])
            refine wpT_free (v := .pointer (some ⟨bk, off + j * 32, none⟩)) rfl rfl (.inl ⟨rfl, fun w _ => by go_simp⟩) (by assumption) ?_; (conv => arg 6; simp only [Act.put, List.setIfInBounds_toArray, List.set_cons_succ, List.set_cons_zero])
            refine wpT_free rfl rfl (.inl ⟨rfl, fun w hw => run_ld1 Try.underlying5 rfl rfl rfl (hw.cell0 (HC.out 0 _ (nums_get .u8 k 0 (by rw [HKK.out.1]; decide))))⟩) (by assumption) ?_; (conv => arg 6; simp only [Act.put, List.setIfInBounds_toArray, List.set_cons_succ, List.set_cons_zero])
            refine wpT_free (v := .int .u32 (rd k 0)) rfl rfl (.inl ⟨rfl, fun w _ => by (go_simp; rw [u32w]; omega)⟩) (by assumption) ?_; (conv => arg 6; simp only [Act.put, List.setIfInBounds_toArray, List.set_cons_succ, List.set_cons_zero])
            refine wpT_free (v := .int .u32 (keyStep x k)) rfl rfl (.inl ⟨rfl, fun w _ => by (go_simp; rw [u32w]; unfold keyStep; omega)⟩) (by assumption) ?_; (conv => arg 6; simp only [Act.put, List.setIfInBounds_toArray, List.set_cons_succ, List.set_cons_zero])
            (refine wpT_free rfl rfl (.inl ⟨rfl, fun w _ => by go_simp; rfl⟩) (by assumption) ?_; (conv => arg 6; simp only [Act.put, List.setIfInBounds_toArray, List.set_cons_succ, List.set_cons_zero]))
            refine wpT_done ?_
            go_wp2_with fail
            go_round
            case rel => exact ⟨j + 1, by omega, by go_num, by rw [HN.out], M2⟩
            case measure => simp [intOf]; omega
          · obtain rfl : j = t.keys.length := by omega
            go_wp2_with fail
            go_ret
            exact ⟨rfl, Mj.sub (List.nil_sublist _)⟩
      · have hI : ¬ (i : Int) < (t.text.size : Int) := by omega
        go_wp2_with (first | (apply wpList_want; (· rfl)))
        go_loopw [3, 5] (fun s n wr => ∃ (j : Nat), j ≤ t.keys.length ∧ n = .int .i64 j ∧ s = .int .u32 (sumK t j) ∧ Mem w [] wr [.blk b1 (cellsO 95 [.int .i64 t.kind, .string t.text, .slice B t.keys.length d])]) (fun _ n _ => t.keys.length - (intOf n).toNat)
        case atStart => exact ⟨0, by omega, rfl, by rw [HI.out], Mi⟩
        case round =>
          obtain ⟨j, hj, rfl, rfl, Mj⟩ := hrel
          clear Mi c1 r0 r1 HI
          have c2 := Mj.cell (i := 2) List.mem_cons_self rfl
          by_cases hltj : j < t.keys.length
          · have hJ : (j : Int) < (t.keys.length : Int) := by omega
            obtain ⟨k, hke⟩ : ∃ k, t.keys[j]? = some k := ⟨t.keys[j], List.getElem?_eq_getElem hltj⟩
            obtain ⟨bk, off, hB, hc⟩ := keys_at HT.out.ks HR.out hke
            subst hB
            have HKK := hid (HT.out.ks k (List.mem_of_getElem? hke))
            have HC := hid hc
            have HN := hid (show sumK t (j + 1) = keyStep (sumK t j) k from foldl_take keyStep _ t.keys j k hke)
            obtain ⟨x, hx⟩ : ∃ x, x = sumK t j := ⟨_, rfl⟩
            rw [← hx] at HN ⊢
            obtain ⟨b7l, b7u⟩ := rd_byte HKK.out.2 7
            obtain ⟨b6l, b6u⟩ := rd_byte HKK.out.2 6
            obtain ⟨b0l, b0u⟩ := rd_byte HKK.out.2 0
            clear hke hc hx
            go_upto_region 9 with fail
            clear c2
            refine wp_region_planT (.free 0 (.free 1 (.free 2 (.free 3 (.free 4 (.free 5 (.free 6 (.free 7 (.free 8 (.free 9 (.free 10 (.free 11 (.free 12 (.free 13 (.free 14 (.free 15 (.free 16 (.free 17 (.free 18 (.free 19 (.free 20 (.free 21 (.free 22 (.free 23 (.free 24 (.free 25 (.free 26 (.free 27 (.done))))))))))))))))))))))))))))) (by kernel_rfl) (by kernel_rfl) (fun _ _ _ _ _ h => h) Mj (fun w2 M2 => ?_)
            clear Mj
            (refine wpT_free rfl rfl (.inl ⟨rfl, fun w _ => by go_simp; rfl⟩) (by assumption) ?_; (conv => arg 6; simp only [Act.put, List.setIfInBounds_toArray, List.set_cons_succ, List.set_cons_zero]))
            refine wpT_free (v := .int .u32 (x * 31 % 4294967296)) rfl rfl (.inl ⟨rfl, fun w _ => by (go_simp; rw [u32w]; try omega)⟩) (by assumption) ?_; (conv => arg 6; simp only [Act.put, List.setIfInBounds_toArray, List.set_cons_succ, List.set_cons_zero])
            (refine wpT_free rfl rfl (.inl ⟨rfl, fun w _ => by go_simp; rfl⟩) (by assumption) ?_; (conv => arg 6; simp only [Act.put, List.setIfInBounds_toArray, List.set_cons_succ, List.set_cons_zero]))
            refine wpT_free rfl rfl (.inl ⟨rfl, fun w hw => run_ld1 Try.underlying34 rfl rfl rfl (hw.cell (i := 2) List.mem_cons_self rfl)⟩) (by assumption) ?_; (conv => arg 6; simp only [Act.put, List.setIfInBounds_toArray, List.set_cons_succ, List.set_cons_zero])
            (refine wpT_free rfl rfl (.inl ⟨rfl, fun w _ => by go_simp; rfl⟩) (by assumption) ?_; (conv => arg 6; simp only [Act.put, List.setIfInBounds_toArray, List.set_cons_succ, List.set_cons_zero]))
            refine wpT_free (v := .pointer (some ⟨bk, off + j * 32, none⟩)) rfl rfl (.inl ⟨rfl, fun w _ => by go_simp⟩) (by assumption) ?_; (conv => arg 6; simp only [Act.put, List.setIfInBounds_toArray, List.set_cons_succ, List.set_cons_zero])
            refine wpT_free (v := .pointer (some ⟨bk, off + j * 32 + 7, none⟩)) rfl rfl (.inl ⟨rfl, fun w _ => by go_simp⟩) (by assumption) ?_; (conv => arg 6; simp only [Act.put, List.setIfInBounds_toArray, List.set_cons_succ, List.set_cons_zero])
            refine wpT_free rfl rfl (.inl ⟨rfl, fun w hw => run_ld1 Try.underlying5 rfl rfl rfl (hw.cell0 (HC.out 7 _ (nums_get .u8 k 7 (by rw [HKK.out.1]; decide))))⟩) (by assumption) ?_; (conv => arg 6; simp only [Act.put, List.setIfInBounds_toArray, List.set_cons_succ, List.set_cons_zero])
            refine wpT_free (v := .int .u32 (rd k 7)) rfl rfl (.inl ⟨rfl, fun w _ => by (go_simp; rw [u32w]; omega)⟩) (by assumption) ?_; (conv => arg 6; simp only [Act.put, List.setIfInBounds_toArray, List.set_cons_succ, List.set_cons_zero])
            refine wpT_free (v := .int .u32 ((x * 31 % 4294967296 + rd k 7) % 4294967296)) rfl rfl (.inl ⟨rfl, fun w _ => by (go_simp; rw [u32w]; try omega)⟩) (by assumption) ?_; (conv => arg 6; simp only [Act.put, List.setIfInBounds_toArray, List.set_cons_succ, List.set_cons_zero])
            (refine wpT_free rfl rfl (.inl ⟨rfl, fun w _ => by go_simp; rfl⟩) (by assumption) ?_; (conv => arg 6; simp only [Act.put, List.setIfInBounds_toArray, List.set_cons_succ, List.set_cons_zero]))
            refine wpT_free rfl rfl (.inl ⟨rfl, fun w hw => run_ld1 Try.underlying34 rfl rfl rfl (hw.cell (i := 2) List.mem_cons_self rfl)⟩) (by assumption) ?_; (conv => arg 6; simp only [Act.put, List.setIfInBounds_toArray, List.set_cons_succ, List.set_cons_zero])
            (refine wpT_free rfl rfl (.inl ⟨rfl, fun w _ => by go_simp; rfl⟩) (by assumption) ?_; (conv => arg 6; simp only [Act.put, List.setIfInBounds_toArray, List.set_cons_succ, List.set_cons_zero]))
            refine wpT_free (v := .pointer (some ⟨bk, off + j * 32, none⟩)) rfl rfl (.inl ⟨rfl, fun w _ => by go_simp⟩) (by assumption) ?_; (conv => arg 6; simp only [Act.put, List.setIfInBounds_toArray, List.set_cons_succ, List.set_cons_zero])
            refine wpT_free (v := .pointer (some ⟨bk, off + j * 32 + 6, none⟩)) rfl rfl (.inl ⟨rfl, fun w _ => by go_simp⟩) (by assumption) ?_; (conv => arg 6; simp only [Act.put, List.setIfInBounds_toArray, List.set_cons_succ, List.set_cons_zero])
            refine wpT_free rfl rfl (.inl ⟨rfl, fun w hw => run_ld1 Try.underlying5 rfl rfl rfl (hw.cell0 (HC.out 6 _ (nums_get .u8 k 6 (by rw [HKK.out.1]; decide))))⟩) (by assumption) ?_; (conv => arg 6; simp only [Act.put, List.setIfInBounds_toArray, List.set_cons_succ, List.set_cons_zero])
            refine wpT_free (v := .int .u32 (rd k 6)) rfl rfl (.inl ⟨rfl, fun w _ => by (go_simp; rw [u32w]; omega)⟩) (by assumption) ?_; (conv => arg 6; simp only [Act.put, List.setIfInBounds_toArray, List.set_cons_succ, List.set_cons_zero])
            refine wpT_free (v := .int .u32 (256 * rd k 6 % 4294967296)) rfl rfl (.inl ⟨rfl, fun w _ => by (go_simp; rw [u32w]; try omega)⟩) (by assumption) ?_; (conv => arg 6; simp only [Act.put, List.setIfInBounds_toArray, List.set_cons_succ, List.set_cons_zero])
            refine wpT_free (v := .int .u32 (((x * 31 % 4294967296 + rd k 7) % 4294967296 + 256 * rd k 6 % 4294967296) % 4294967296)) rfl rfl (.inl ⟨rfl, fun w _ => by (go_simp; rw [u32w]; try omega)⟩) (by assumption) ?_; (conv => arg 6; simp only [Act.put, List.setIfInBounds_toArray, List.set_cons_succ, List.set_cons_zero])
            (refine wpT_free rfl rfl (.inl ⟨rfl, fun w _ => by go_simp; rfl⟩) (by assumption) ?_; (conv => arg 6; simp only [Act.put, List.setIfInBounds_toArray, List.set_cons_succ, List.set_cons_zero]))
            refine wpT_free rfl rfl (.inl ⟨rfl, fun w hw => run_ld1 Try.underlying34 rfl rfl rfl (hw.cell (i := 2) List.mem_cons_self rfl)⟩) (by assumption) ?_; (conv => arg 6; simp only [Act.put, List.setIfInBounds_toArray, List.set_cons_succ, List.set_cons_zero])
            (refine wpT_free rfl rfl (.inl ⟨rfl, fun w _ => by go_simp; rfl⟩) (by assumption) ?_; (conv => arg 6; simp only [Act.put, List.setIfInBounds_toArray, List.set_cons_succ, List.set_cons_zero]))
            refine wpT_free (v := .pointer (some ⟨bk, off + j * 32, none⟩)) rfl rfl (.inl ⟨rfl, fun w _ => by go_simp⟩) (by assumption) ?_; (conv => arg 6; simp only [Act.put, List.setIfInBounds_toArray, List.set_cons_succ, List.set_cons_zero])
            refine wpT_free (v := .pointer (some ⟨bk, off + j * 32, none⟩)) rfl rfl (.inl ⟨rfl, fun w _ => by go_simp⟩) (by assumption) ?_; (conv => arg 6; simp only [Act.put, List.setIfInBounds_toArray, List.set_cons_succ, List.set_cons_zero])
            refine wpT_free rfl rfl (.inl ⟨rfl, fun w hw => run_ld1 Try.underlying5 rfl rfl rfl (hw.cell0 (HC.out 0 _ (nums_get .u8 k 0 (by rw [HKK.out.1]; decide))))⟩) (by assumption) ?_; (conv => arg 6; simp only [Act.put, List.setIfInBounds_toArray, List.set_cons_succ, List.set_cons_zero])
            refine wpT_free (v := .int .u32 (rd k 0)) rfl rfl (.inl ⟨rfl, fun w _ => by (go_simp; rw [u32w]; omega)⟩) (by assumption) ?_; (conv => arg 6; simp only [Act.put, List.setIfInBounds_toArray, List.set_cons_succ, List.set_cons_zero])
            refine wpT_free (v := .int .u32 (keyStep x k)) rfl rfl (.inl ⟨rfl, fun w _ => by (go_simp; rw [u32w]; unfold keyStep; omega)⟩) (by assumption) ?_; (conv => arg 6; simp only [Act.put, List.setIfInBounds_toArray, List.set_cons_succ, List.set_cons_zero])
            (refine wpT_free rfl rfl (.inl ⟨rfl, fun w _ => by go_simp; rfl⟩) (by assumption) ?_; (conv => arg 6; simp only [Act.put, List.setIfInBounds_toArray, List.set_cons_succ, List.set_cons_zero]))
            refine wpT_done ?_
            go_wp2_with fail
            go_round
            case rel => exact ⟨j + 1, by omega, by go_num, by rw [HN.out], M2⟩
            case measure => simp [intOf]; omega
          · obtain rfl : j = t.keys.length := by omega
            go_wp2_with fail
            go_ret
            exact ⟨rfl, Mj.sub (List.nil_sublist _)⟩
end Go.Proofs.Ytcapfnbmmdbcoaa
namespace Go.Proofs.Ytcapfnbmmdbcoaa
open Go.RowKit
def RowsP (K : Nat → Prop) (w : World) (ts : List Tm) (cs : List Value) : Prop :=
  ∀ (i : Nat) (t : Tm), ts[i]? = some t → ∃ B d, cs[3 * i]? = some (.int .i64 t.kind) ∧ cs[3 * i + 1]? = some (.string t.text) ∧ cs[3 * i + 2]? = some (.slice B t.keys.length d) ∧ t.keys.length ≤ d ∧ (B = none → d = 0) ∧ RowT w 26 B (nums .u8 t.keys.flatten) ∧ (t.keys ≠ [] → ∀ ad, B = some ad → K ad.block)
structure RefP (K : Nat → Prop) (w : World) (m : Nat) (A : Option Addr) (c : Nat) (S : Option Addr) (e : Nat) (ts : List Tm) : Prop where
  hm : w.heap[m]? = some (cellsO 48 [.slice A ts.length c, .slice S ts.length e])
  row : ∃ cs, w.ownsRow 0 95 3 (.slice A ts.length c) ts.length cs ∧ RowsP K w ts cs
  sums : w.ownsRow 0 72 1 (.slice S ts.length e) ts.length (nums .u32 (ts.map sumT))
  ok : ∀ t ∈ ts, TmOk t
  nd : ts.Nodup
  few : ts.length ≤ 1000000
  km : K m
  kA : ∀ b ∈ blkA A, K b
  kS : ∀ b ∈ blkA S, K b
theorem own_keep {K : Nat → Prop} {w w' : World} {A : Option Addr} {n c size : Nat} {ty : TypeId} {cs : List Value} (h : w.ownsRow 0 ty size (.slice A n c) n cs) (hk : Stays K w w') (kA : ∀ b ∈ blkA A, K b) : w'.ownsRow 0 ty size (.slice A n c) n cs := by
  rcases h.2 with ⟨h', hn⟩ | ⟨b, cap, cur, h', a1, a2, a3⟩
  · exact ⟨h.1, .inl ⟨h', hn⟩⟩
  · refine ⟨h.1, .inr ⟨b, cap, cur, h', a1, ?_, a3⟩⟩
    rw [hk b (kA b (by injection h' with e1 _ _; rw [e1]; simp [blkA])) (Array.getElem?_eq_some_iff.1 a2).1, a2]
theorem RowsP.keep {K : Nat → Prop} {w w' : World} {ts : List Tm} {cs : List Value} (h : RowsP K w ts cs) (hk : Stays K w w') : RowsP K w' ts cs := fun i t hi => by
  obtain ⟨B, d, a1, a2, a3, a4, a5, a6, a7⟩ := h i t hi
  refine ⟨B, d, a1, a2, a3, a4, a5, ?_, a7⟩
  by_cases hn : t.keys = []
  · rw [hn]; exact RowT.nil
  · exact a6.same fun b off arr m hB hh => hk b (a7 hn _ hB) (Array.getElem?_eq_some_iff.1 hh).1
theorem RefP.keep {K : Nat → Prop} {w w' : World} {m c e : Nat} {A S : Option Addr} {ts : List Tm} (h : RefP K w m A c S e ts) (hk : Stays K w w') : RefP K w' m A c S e ts := by
  obtain ⟨h1, ⟨cs, h3, h4⟩, h5, h6, h7, h8, k1, k2, k3⟩ := h
  exact ⟨by rw [hk m k1 (Array.getElem?_eq_some_iff.1 h1).1, h1], ⟨cs, own_keep h3 hk k2, h4.keep hk⟩, own_keep h5 hk k3, h6, h7, h8, k1, k2, k3⟩
theorem RefP.below {K : Nat → Prop} {w w' : World} {m c e : Nat} {A S : Option Addr} {ts : List Tm} (h : RefP K w m A c S e ts) (hb : Below w.heap.size w w') : RefP K w' m A c S e ts :=
  h.keep fun b _ hb' => hb.block b hb'
theorem own_type {w : World} {A : Option Addr} {n c size : Nat} {ty : TypeId} {cs : List Value} (h : w.ownsRow 0 ty size (.slice A n c) n cs) : ∀ b ∈ blkA A, ∃ arr m, w.heap[b]? = some (.cells arr ty m) := fun b hb => by
  simp only [blkA, Option.mem_toList, Option.map_eq_some_iff] at hb
  obtain ⟨ad, hA, rfl⟩ := hb
  rcases h.2 with ⟨h', _⟩ | ⟨b, cap, cur, h', _, hb, _⟩
  · injection h' with h1 _ _
    rw [hA] at h1
    cases h1
  · injection h' with h1 _ _
    rw [hA] at h1
    injection h1 with h1
    subst h1
    exact ⟨_, _, hb⟩
theorem own_lt {w : World} {A : Option Addr} {n c size : Nat} {ty : TypeId} {cs : List Value} (h : w.ownsRow 0 ty size (.slice A n c) n cs) : ∀ b ∈ blkA A, b < w.heap.size := fun b hb => by
  obtain ⟨arr, m, hh⟩ := own_type h b hb
  exact (Array.getElem?_eq_some_iff.1 hh).1
theorem RowsP.lt {K : Nat → Prop} {w : World} {ts : List Tm} {cs : List Value} (h : RowsP K w ts cs) (ok : ∀ t ∈ ts, TmOk t) : RowsP (fun b => K b ∧ b < w.heap.size) w ts cs := fun i t hi => by
  obtain ⟨B, d, a1, a2, a3, a4, a5, a6, a7⟩ := h i t hi
  refine ⟨B, d, a1, a2, a3, a4, a5, a6, fun hn ad hB => ⟨a7 hn ad hB, ?_⟩⟩
  have hl := flat_len (ok t (List.mem_of_getElem? hi)).ks
  have hp : 0 < t.keys.length := List.length_pos_iff.2 hn
  have h0 : 0 < (nums .u8 t.keys.flatten).length := by rw [nums_length]; omega
  obtain ⟨b, off, arr, m, hB', hh, _⟩ := a6 0 _ (List.getElem?_eq_getElem h0)
  rw [hB'] at hB
  injection hB with hB
  subst hB
  exact (Array.getElem?_eq_some_iff.1 hh).1
theorem RefP.lt {K : Nat → Prop} {w : World} {m c e : Nat} {A S : Option Addr} {ts : List Tm} (h : RefP K w m A c S e ts) : RefP (fun b => K b ∧ b < w.heap.size) w m A c S e ts := by
  obtain ⟨h1, ⟨cs, h3, h4⟩, h5, h6, h7, h8, k1, k2, k3⟩ := h
  exact ⟨h1, ⟨cs, h3, h4.lt h6⟩, h5, h6, h7, h8, ⟨k1, (Array.getElem?_eq_some_iff.1 h1).1⟩, fun b hb => ⟨k2 b hb, own_lt h3 b hb⟩, fun b hb => ⟨k3 b hb, own_lt h5 b hb⟩⟩
theorem RefP.mono {K K' : Nat → Prop} {w : World} {m c e : Nat} {A S : Option Addr} {ts : List Tm} (h : RefP K w m A c S e ts) (hk : ∀ b, K b → K' b) : RefP K' w m A c S e ts := by
  obtain ⟨h1, ⟨cs, h3, h4⟩, h5, h6, h7, h8, k1, k2, k3⟩ := h
  refine ⟨h1, ⟨cs, h3, fun i t hi => ?_⟩, h5, h6, h7, h8, hk _ k1, fun b hb => hk _ (k2 b hb), fun b hb => hk _ (k3 b hb)⟩
  obtain ⟨B, d, a1, a2, a3, a4, a5, a6, a7⟩ := h4 i t hi
  exact ⟨B, d, a1, a2, a3, a4, a5, a6, fun hn ad hB => hk _ (a7 hn ad hB)⟩
theorem RefP.get {K : Nat → Prop} {w : World} {m c e : Nat} {A S : Option Addr} {ts : List Tm} (h : RefP K w m A c S e ts) {i : Nat} {t : Tm} (hi : ts[i]? = some t) :
    ∃ b B d, A = some ⟨b, 0, none⟩ ∧ (∀ (j : Nat) (v : Value), [Value.int .i64 t.kind, .string t.text, .slice B t.keys.length d][j]? = some v → w.cell? ⟨b, i * 3 + j, none⟩ = some v) ∧ t.keys.length ≤ d ∧ (B = none → d = 0) ∧ RowT w 26 B (nums .u8 t.keys.flatten) := by
  obtain ⟨cs, ho, hcs⟩ := h.row
  obtain ⟨B, d, a1, a2, a3, a4, a5, a6, _⟩ := hcs i t hi
  rcases ho.2 with ⟨h', hn⟩ | ⟨b, cap, cur, h', _⟩
  · have := (List.getElem?_eq_some_iff.1 hi).1
    omega
  · injection h' with e1 _ _
    refine ⟨b, B, d, e1, fun j v hj => ?_, a4, a5, a6⟩
    subst e1
    have hc : ∀ (j : Nat) (v : Value), cs[j]? = some v → w.cell? ⟨b, j, none⟩ = some v := fun j v hj => by
      have := ho.cells (g := b) rfl j v hj
      rw [Addr.add_lit, Nat.zero_add] at this
      exact this
    match j, hj with
    | 0, hj => injection hj with hj; subst hj; rw [show i * 3 + 0 = 3 * i from by omega]; exact hc _ _ a1
    | 1, hj => injection hj with hj; subst hj; rw [show i * 3 + 1 = 3 * i + 1 from by omega]; exact hc _ _ a2
    | 2, hj => injection hj with hj; subst hj; rw [show i * 3 + 2 = 3 * i + 2 from by omega]; exact hc _ _ a3
    | j + 3, hj => simp at hj
theorem RefP.sum {K : Nat → Prop} {w : World} {m c e : Nat} {A S : Option Addr} {ts : List Tm} (h : RefP K w m A c S e ts) {i : Nat} {t : Tm} (hi : ts[i]? = some t) : ∃ b, S = some ⟨b, 0, none⟩ ∧ w.cell? ⟨b, i, none⟩ = some (.int .u32 (sumT t)) := by
  have hl := (List.getElem?_eq_some_iff.1 hi).1
  have hs : (nums .u32 (ts.map sumT))[i]? = some (.int .u32 (sumT t)) := by simp [nums, hi]
  rcases h.sums.2 with ⟨h', hn⟩ | ⟨b, cap, cur, h', _⟩
  · omega
  · injection h' with e1 _ _
    subst e1
    have := h.sums.cells (g := b) rfl i _ hs
    rw [Addr.add_lit, Nat.zero_add] at this
    exact ⟨b, rfl, this⟩
theorem RefP.cap {K : Nat → Prop} {w : World} {m c e : Nat} {A S : Option Addr} {ts : List Tm} (h : RefP K w m A c S e ts) : w.cell? ⟨m, 0, none⟩ = some (.slice A ts.length c) ∧ w.cell? ⟨m, 1, none⟩ = some (.slice S ts.length e) :=
  ⟨by rw [cell_of_row w m 0 _ 48 (0, 0) h.hm]; rfl, by rw [cell_of_row w m 1 _ 48 (0, 0) h.hm]; rfl⟩
def refR (m : Nat) (ts : List Tm) : Res := fun K w => ∃ A c S e, RefP K w m A c S e ts
theorem refR_ok (m : Nat) (ts : List Tm) : Ok (refR m ts) := ⟨fun ⟨A, c, S, e, T⟩ hs => ⟨A, c, S, e, T.keep hs⟩⟩
/-- The number of a term; -1: it isn't there. -/
def findT (ts : List Tm) (t : Tm) : Int := if t ∈ ts then (ts.idxOf t : Int) else -1
theorem findT_at {ts : List Tm} {t : Tm} {i : Nat} (hi : ts[i]? = some t) (hn : ts.Nodup) : findT ts t = i := by
  have hm := List.mem_of_getElem? hi
  rw [findT, if_pos hm]
  have h1 := List.idxOf_lt_length_of_mem hm
  have h2 : ts.idxOf t = i := (List.getElem?_inj h1 hn).1 ((get_idx hm).trans hi.symm)
  rw [h2]
theorem not_take {ts : List Tm} {t u : Tm} {i : Nat} (h : t ∉ ts.take i) (hu : ts[i]? = some u) (hne : u ≠ t) : t ∉ ts.take (i + 1) := by
  obtain ⟨hl, rfl⟩ := List.getElem?_eq_some_iff.1 hu
  rw [List.take_succ_eq_append_getElem hl, List.mem_append]
  rintro (h1 | h1)
  · exact h h1
  · rw [List.mem_singleton] at h1
    exact hne h1.symm
end Go.Proofs.Ytcapfnbmmdbcoaa
namespace Go.Proofs.Ytcapfnbmmdbcoaa
open Go.RowKit
set_option maxRecDepth 100000 in
set_option maxHeartbeats 4000000 in
theorem find69 (K : Nat → Prop) (m c e d : Nat) (A S B : Option Addr) (ts : List Tm) (t : Tm) (w : World) (T : RefP K w m A c S e ts) (ht : TmOk t) (hr : RowT w 26 B (nums .u8 t.keys.flatten)) :
    Calls Try.prog 69 #[.pointer (some ⟨m, 0, none⟩), .agg #[.int .i64 t.kind, .string t.text, .slice B t.keys.length d]] w (IntR (findT ts t) w) := by
  have M0 := Mem.start w
  have HT := hid T
  have HO := hid ht
  have HR := hid hr
  have hn : ts.length ≤ 1000000 := T.few
  have HC := hid T.cap
  clear T ht hr
  go_enter Try.func69, Try.ntmps69
  go_wp2_with (first | (refine wpList_bx (cs := [.int .i64 t.kind, .string t.text, .slice B t.keys.length d]) rfl rfl M0 rfl rfl (fun b3 w1 M1 => ?_); clear M0; (conv => arg 5; simp only [Act.put, List.setIfInBounds_toArray, List.set_cons_succ, List.set_cons_zero])) | (refine wpList_ldrow rfl rfl Try.underlying95 rfl rfl M1 List.mem_cons_self sz95 ?_; (conv => arg 5; simp only [Act.put, List.setIfInBounds_toArray, List.set_cons_succ, List.set_cons_zero])) | (go_at_call 82; refine (sum82 t B d _ HO.out (HR.out.mem M1)).mono ?_; rintro e2 w2 ⟨rfl, M2⟩; have M3 := M1.call M2.below; clear M1 M2))
  go_loopw [6] (fun n wr => ∃ i : Nat, i ≤ ts.length ∧ n = .int .i64 i ∧ Mem w [] wr [.blk b3 (cellsO 95 [.int .i64 t.kind, .string t.text, .slice B t.keys.length d])] ∧ Hid (t ∉ ts.take i)) (fun n _ => ts.length - (intOf n).toNat)
  case atStart => exact ⟨0, by omega, rfl, M3, hid (by simp)⟩
  case round =>
    obtain ⟨i, hi, rfl, Mi, HI⟩ := hrel
    clear M3
    have c1 := Mi.cell0 HC.out.2
    by_cases hlt : i < ts.length
    · have hltI : (i : Int) < (ts.length : Int) := by omega
      obtain ⟨u, hue⟩ : ∃ u, ts[i]? = some u := ⟨ts[i], List.getElem?_eq_getElem hlt⟩
      obtain ⟨bs, hS, hcs⟩ := HT.out.sum hue
      obtain ⟨b, B2, d2, hA, hct, hd, hBn, hBr⟩ := HT.out.get hue
      subst hS hA
      have HU := hid hue
      have HUO := hid (HT.out.ok u (List.mem_of_getElem? hue))
      have HCT := hid (Mi.cells0 hct)
      have HB2 := hid hBr
      have cs := Mi.cell0 hcs
      have cA := Mi.cell0 HC.out.1
      clear hue hcs hct hBr hBn
      by_cases hs : sumT u = sumT t
      · rw [hs] at cs
        clear hs
        by_cases hk : u.kind = t.kind
        · have hkk : (u.kind == t.kind) = true := by simpa using hk
          by_cases hx : u.text = t.text
          · have hxx : (u.text.toList == t.text.toList) = true := by rw [str_eqb, decide_eq_true hx]
            by_cases hq : t.keys = u.keys
            · have HD := hid (decide_eq_true hq)
              have hut : u = t := by cases u; cases t; simp_all
              have HF := hid (findT_at (hut ▸ HU.out) HT.out.nd)
              clear hq hut hk hx
              go_wp2_with (first | (apply wpList_want; (· rfl)) | (refine wpList_ldagg 34 rfl Try.underlying95 rfl rfl rfl rfl HCT.out sz95 ?_; (conv => arg 5; simp only [Act.put, List.setIfInBounds_toArray, List.set_cons_succ, List.set_cons_zero])) | (refine wpList_al rfl rfl Mi z95 rfl (fun b7 w4 M4 => ?_); clear c1 cs cA; (conv => arg 5; simp only [Act.put, List.setIfInBounds_toArray, List.set_cons_succ, List.set_cons_zero])) | (refine wpList_strow (vs := [.int .i64 u.kind, .string u.text, .slice B2 u.keys.length d2]) rfl rfl rfl rfl M4 Swap.head sz95 rfl (by simp [Value.oneCell']) (fun w5 M5 => ?_); clear M4; have ck0 := M5.cell (i := 0) List.mem_cons_self rfl; have ck1 := M5.cell (i := 1) List.mem_cons_self rfl; have ck2 := M5.cell (i := 2) List.mem_cons_self rfl; have ct0 := M5.cell (i := 0) (List.mem_cons_of_mem _ List.mem_cons_self) rfl; have ct1 := M5.cell (i := 1) (List.mem_cons_of_mem _ List.mem_cons_self) rfl; have ct2 := M5.cell (i := 2) (List.mem_cons_of_mem _ List.mem_cons_self) rfl; (conv => arg 5; simp only [Act.put, List.setIfInBounds_toArray, List.set_cons_succ, List.set_cons_zero])) | (go_at_call 25; refine (SameKeys25 B B2 d d2 t.keys u.keys _ HO.out.ks HUO.out.ks (HR.out.mem M5) (HB2.out.mem M5) (by have := HO.out.kl; omega) (by have := HUO.out.kl; omega)).mono ?_; rintro e6 w6 ⟨rfl, M6⟩; replace M5 := M5.call M6.below; clear M6 ck0 ck1 ck2 ct0 ct1 ct2; rw [HD.out]))
              go_ret
              rw [HF.out]
              exact ⟨rfl, M5.sub (List.nil_sublist _)⟩
            · have HD := hid (decide_eq_false hq)
              have HNE := hid (show u ≠ t from fun h => hq (by rw [h]))
              clear hq hk hx
              go_wp2_with (first | (apply wpList_want; (· rfl)) | (refine wpList_ldagg 34 rfl Try.underlying95 rfl rfl rfl rfl HCT.out sz95 ?_; (conv => arg 5; simp only [Act.put, List.setIfInBounds_toArray, List.set_cons_succ, List.set_cons_zero])) | (refine wpList_al rfl rfl Mi z95 rfl (fun b7 w4 M4 => ?_); clear c1 cs cA; (conv => arg 5; simp only [Act.put, List.setIfInBounds_toArray, List.set_cons_succ, List.set_cons_zero])) | (refine wpList_strow (vs := [.int .i64 u.kind, .string u.text, .slice B2 u.keys.length d2]) rfl rfl rfl rfl M4 Swap.head sz95 rfl (by simp [Value.oneCell']) (fun w5 M5 => ?_); clear M4; have ck0 := M5.cell (i := 0) List.mem_cons_self rfl; have ck1 := M5.cell (i := 1) List.mem_cons_self rfl; have ck2 := M5.cell (i := 2) List.mem_cons_self rfl; have ct0 := M5.cell (i := 0) (List.mem_cons_of_mem _ List.mem_cons_self) rfl; have ct1 := M5.cell (i := 1) (List.mem_cons_of_mem _ List.mem_cons_self) rfl; have ct2 := M5.cell (i := 2) (List.mem_cons_of_mem _ List.mem_cons_self) rfl; (conv => arg 5; simp only [Act.put, List.setIfInBounds_toArray, List.set_cons_succ, List.set_cons_zero])) | (go_at_call 25; refine (SameKeys25 B B2 d d2 t.keys u.keys _ HO.out.ks HUO.out.ks (HR.out.mem M5) (HB2.out.mem M5) (by have := HO.out.kl; omega) (by have := HUO.out.kl; omega)).mono ?_; rintro e6 w6 ⟨rfl, M6⟩; replace M5 := M5.call M6.below; clear M6 ck0 ck1 ck2 ct0 ct1 ct2; rw [HD.out]))
              go_round
              case rel => exact ⟨i + 1, by omega, by go_num, M5.tail, hid (not_take HI.out HU.out HNE.out)⟩
              case measure => simp [intOf]; omega
          · have hxx : (u.text.toList == t.text.toList) = false := by rw [str_eqb, decide_eq_false hx]
            have HNE := hid (show u ≠ t from fun h => hx (by rw [h]))
            have HD := hid (show decide (t.keys = t.keys) = true from decide_eq_true rfl)
            clear hk hx
            go_wp2_with (first | (apply wpList_want; (· rfl)) | (refine wpList_ldagg 34 rfl Try.underlying95 rfl rfl rfl rfl HCT.out sz95 ?_; (conv => arg 5; simp only [Act.put, List.setIfInBounds_toArray, List.set_cons_succ, List.set_cons_zero])) | (refine wpList_al rfl rfl Mi z95 rfl (fun b7 w4 M4 => ?_); clear c1 cs cA; (conv => arg 5; simp only [Act.put, List.setIfInBounds_toArray, List.set_cons_succ, List.set_cons_zero])) | (refine wpList_strow (vs := [.int .i64 u.kind, .string u.text, .slice B2 u.keys.length d2]) rfl rfl rfl rfl M4 Swap.head sz95 rfl (by simp [Value.oneCell']) (fun w5 M5 => ?_); clear M4; have ck0 := M5.cell (i := 0) List.mem_cons_self rfl; have ck1 := M5.cell (i := 1) List.mem_cons_self rfl; have ck2 := M5.cell (i := 2) List.mem_cons_self rfl; have ct0 := M5.cell (i := 0) (List.mem_cons_of_mem _ List.mem_cons_self) rfl; have ct1 := M5.cell (i := 1) (List.mem_cons_of_mem _ List.mem_cons_self) rfl; have ct2 := M5.cell (i := 2) (List.mem_cons_of_mem _ List.mem_cons_self) rfl; (conv => arg 5; simp only [Act.put, List.setIfInBounds_toArray, List.set_cons_succ, List.set_cons_zero])) | (go_at_call 25; refine (SameKeys25 B B2 d d2 t.keys u.keys _ HO.out.ks HUO.out.ks (HR.out.mem M5) (HB2.out.mem M5) (by have := HO.out.kl; omega) (by have := HUO.out.kl; omega)).mono ?_; rintro e6 w6 ⟨rfl, M6⟩; replace M5 := M5.call M6.below; clear M6 ck0 ck1 ck2 ct0 ct1 ct2; rw [HD.out]))
            go_round
            case rel => exact ⟨i + 1, by omega, by go_num, M5.tail, hid (not_take HI.out HU.out HNE.out)⟩
            case measure => simp [intOf]; omega
        · have hkk : (u.kind == t.kind) = false := by simpa using hk
          have HNE := hid (show u ≠ t from fun h => hk (by rw [h]))
          have HD := hid (show decide (t.keys = t.keys) = true from decide_eq_true rfl)
          clear hk
          go_wp2_with (first | (apply wpList_want; (· rfl)) | (refine wpList_ldagg 34 rfl Try.underlying95 rfl rfl rfl rfl HCT.out sz95 ?_; (conv => arg 5; simp only [Act.put, List.setIfInBounds_toArray, List.set_cons_succ, List.set_cons_zero])) | (refine wpList_al rfl rfl Mi z95 rfl (fun b7 w4 M4 => ?_); clear c1 cs cA; (conv => arg 5; simp only [Act.put, List.setIfInBounds_toArray, List.set_cons_succ, List.set_cons_zero])) | (refine wpList_strow (vs := [.int .i64 u.kind, .string u.text, .slice B2 u.keys.length d2]) rfl rfl rfl rfl M4 Swap.head sz95 rfl (by simp [Value.oneCell']) (fun w5 M5 => ?_); clear M4; have ck0 := M5.cell (i := 0) List.mem_cons_self rfl; have ck1 := M5.cell (i := 1) List.mem_cons_self rfl; have ck2 := M5.cell (i := 2) List.mem_cons_self rfl; have ct0 := M5.cell (i := 0) (List.mem_cons_of_mem _ List.mem_cons_self) rfl; have ct1 := M5.cell (i := 1) (List.mem_cons_of_mem _ List.mem_cons_self) rfl; have ct2 := M5.cell (i := 2) (List.mem_cons_of_mem _ List.mem_cons_self) rfl; (conv => arg 5; simp only [Act.put, List.setIfInBounds_toArray, List.set_cons_succ, List.set_cons_zero])) | (go_at_call 25; refine (SameKeys25 B B2 d d2 t.keys u.keys _ HO.out.ks HUO.out.ks (HR.out.mem M5) (HB2.out.mem M5) (by have := HO.out.kl; omega) (by have := HUO.out.kl; omega)).mono ?_; rintro e6 w6 ⟨rfl, M6⟩; replace M5 := M5.call M6.below; clear M6 ck0 ck1 ck2 ct0 ct1 ct2; rw [HD.out]))
          go_round
          case rel => exact ⟨i + 1, by omega, by go_num, M5.tail, hid (not_take HI.out HU.out HNE.out)⟩
          case measure => simp [intOf]; omega
      · have hne : (sumT u != sumT t) = true := by simpa using hs
        have HNE := hid (show u ≠ t from fun h => hs (by rw [h]))
        clear hs
        go_wp2_with fail
        go_round
        case rel => exact ⟨i + 1, by omega, by go_num, Mi, hid (not_take HI.out HU.out HNE.out)⟩
        case measure => simp [intOf]; omega
    · obtain rfl : i = ts.length := by omega
      go_wp2_with fail
      go_ret
      have h := HI.out
      rw [List.take_of_length_le (Nat.le_refl _)] at h
      rw [findT, if_neg h]
      exact ⟨rfl, Mi.sub (List.nil_sublist _)⟩
end Go.Proofs.Ytcapfnbmmdbcoaa
namespace Go.Proofs.Ytcapfnbmmdbcoaa
open Go.RowKit
def RefE (m : Nat) (A S : Option Addr) : List Nat := m :: (blkA A ++ blkA S)
theorem vec_block {A : Option Addr} {n c size b : Nat} {ty : TypeId} {cs : List Value} (h : (Item.vec A n c ty size cs).block = some b) : b ∈ blkA A := by
  cases A with
  | none => cases h
  | some ad =>
    simp only [Item.block, Value.ownBlock, Option.some.injEq] at h
    simp [blkA, h]
/-- The table's own blocks join what is known. -/
theorem RefP.items {K : Nat → Prop} {w w1 : World} {m c e : Nat} {A S : Option Addr} {ts : List Tm} {L : List Item} (M : Mem w [] w1 L) (h : RefP K w m A c S e ts) :
    ∃ cs, RowsP K w ts cs ∧ Mem w (RefE m A S) w1 (.blk m (cellsO 48 [.slice A ts.length c, .slice S ts.length e]) :: .vec A ts.length c 95 3 cs :: .vec S ts.length e 72 1 (nums .u32 (ts.map sumT)) :: L) := by
  obtain ⟨cs, h3, h4⟩ := h.row
  refine ⟨cs, h4, ?_⟩
  have M' := M.mono0 (RefE m A S)
  have lm := (Array.getElem?_eq_some_iff.1 h.hm).1
  have hL : ∀ x ∈ L, ∀ b, x.block = some b → w.heap.size ≤ b := fun x hx b hb => (M.fresh x hx b hb).resolve_left (by simp)
  have tA := own_type h3
  have tS := own_type h.sums
  have lA := own_lt h3
  have lS := own_lt h.sums
  refine ⟨M'.os, M'.tape, M'.output, M'.size, M'.old, ?_, ?_, ?_⟩
  · intro x hx
    simp only [List.mem_cons] at hx
    rcases hx with rfl | rfl | rfl | hx
    · show w1.heap[m]? = _
      rw [M.old m lm (by simp), h.hm]
    · exact World.ownsRow.kept h3 (grown_of_below M.below none) (by cases h : (Value.slice A ts.length c).ownBlock <;> simp)
    · exact World.ownsRow.kept h.sums (grown_of_below M.below none) (by cases h : (Value.slice S ts.length e).ownBlock <;> simp)
    · exact M.holds x hx
  · intro x hx b hb
    simp only [List.mem_cons] at hx
    rcases hx with rfl | rfl | rfl | hx
    · simp only [Item.block, Option.some.injEq] at hb
      left; simp [RefE, hb]
    · left; simp [RefE, vec_block hb]
    · left; simp [RefE, vec_block hb]
    · exact .inr (hL x hx b hb)
  · refine List.pairwise_cons.2 ⟨fun y hy b hb => ?_, List.pairwise_cons.2 ⟨fun y hy b hb e => ?_, List.pairwise_cons.2 ⟨fun y hy b hb e => ?_, M.apart⟩⟩⟩
    · simp only [Item.block, Option.some.injEq] at hb
      subst hb
      simp only [List.mem_cons] at hy
      rcases hy with rfl | rfl | hy
      · intro e
        obtain ⟨arr, mk, h8⟩ := tA m (vec_block e)
        rw [h.hm] at h8
        injection h8 with h8
        injection h8 with _ h8 _
        exact absurd h8 (by decide)
      · intro e
        obtain ⟨arr, mk, h8⟩ := tS m (vec_block e)
        rw [h.hm] at h8
        injection h8 with h8
        injection h8 with _ h8 _
        exact absurd h8 (by decide)
      · intro e
        have := hL y hy m e
        omega
    · simp only [List.mem_cons] at hy
      obtain ⟨arr, mk, h8⟩ := tA b (vec_block hb)
      rcases hy with rfl | hy
      · obtain ⟨arr2, mk2, h9⟩ := tS b (vec_block e)
        rw [h8] at h9
        injection h9 with h9
        injection h9 with _ h9 _
        exact absurd h9 (by decide)
      · have := hL y hy b e
        have := lA b (vec_block hb)
        omega
    · have := hL y hy b e
      have := lS b (vec_block hb)
      omega
/-- Keys in memory stay when the reference's table is written. -/
theorem RowT.ref {K : Nat → Prop} {w w' : World} {m c e : Nat} {A S B : Option Addr} {ts : List Tm} {cs : List Value} {L : List Item} (h : RowT w 26 B cs) (T : RefP K w m A c S e ts) (M : Mem w (RefE m A S) w' L) : RowT w' 26 B cs :=
  h.same fun b off arr mk hB hh => M.old b (Array.getElem?_eq_some_iff.1 hh).1 (fun hb => by
    obtain ⟨cs3, h3, _⟩ := T.row
    simp only [RefE, List.mem_cons, List.mem_append] at hb
    rcases hb with rfl | hb | hb
    · rw [T.hm] at hh
      injection hh with hh
      injection hh with _ hh _
      exact absurd hh (by decide)
    · obtain ⟨arr', m', h'⟩ := own_type h3 b hb
      rw [h'] at hh
      injection hh with hh
      injection hh with _ hh _
      exact absurd hh (by decide)
    · obtain ⟨arr', m', h'⟩ := own_type T.sums b hb
      rw [h'] at hh
      injection hh with hh
      injection hh with _ hh _
      exact absurd hh (by decide))
def AddR (K : Nat → Prop) (w : World) (m : Nat) (A S B : Option Addr) (ts : List Tm) (t : Tm) (e : Ending) (w' : World) : Prop :=
  e = .returned (.tuple #[]) ∧ ∃ A' c' S' e', RefP (fun b => K b ∨ w.heap.size ≤ b ∨ b ∈ blkA B) w' m A' c' S' e' (ts ++ [t]) ∧ Mem w (RefE m A S) w' []
/-- A term joined the table. -/
theorem RefP.push {K : Nat → Prop} {w wf : World} {m c e c2 e2 d : Nat} {A S A2 S2 B : Option Addr} {ts : List Tm} {t : Tm} (T : RefP K w m A c S e ts) (ht : TmOk t) (hin : t ∉ ts) (hf : ts.length ≤ 900000) {cs : List Value} (hcs : RowsP K w ts cs)
    (hr : RowT w 26 B (nums .u8 t.keys.flatten)) (hd : t.keys.length ≤ d) (hn : B = none → d = 0) {L : List Item} (M : Mem w (RefE m A S) wf L) (i1 : .blk m (cellsO 48 [.slice A2 (ts.length + 1) c2, .slice S2 (ts.length + 1) e2]) ∈ L)
    (i2 : .vec A2 (ts.length + 1) c2 95 3 (cs ++ [.int .i64 t.kind, .string t.text, .slice B t.keys.length d]) ∈ L) (i3 : .vec S2 (ts.length + 1) e2 72 1 (nums .u32 (ts.map sumT ++ [sumT t])) ∈ L) :
    ∃ A' c' S' e', RefP (fun b => K b ∨ w.heap.size ≤ b ∨ b ∈ blkA B) wf m A' c' S' e' (ts ++ [t]) ∧ Mem w (RefE m A S) wf [] := by
  have hA : wf.ownsRow 0 95 3 (.slice A2 (ts.length + 1) c2) (ts.length + 1) (cs ++ [.int .i64 t.kind, .string t.text, .slice B t.keys.length d]) := M.holds _ i2
  have hS : wf.ownsRow 0 72 1 (.slice S2 (ts.length + 1) e2) (ts.length + 1) (nums .u32 (ts.map sumT ++ [sumT t])) := M.holds _ i3
  have hm : wf.heap[m]? = _ := M.holds _ i1
  have hl : cs.length = 3 * ts.length := by
    have := hA.1
    simp only [List.length_append, List.length_cons, List.length_nil] at this
    omega
  have old3 : ∀ b ∈ RefE m A S, K b := fun b hb => by
    simp only [RefE, List.mem_cons, List.mem_append] at hb
    rcases hb with rfl | hb | hb
    · exact T.km
    · exact T.kA b hb
    · exact T.kS b hb
  have fr : ∀ {X : Option Addr} {n cp size : Nat} {ty : TypeId} {xs : List Value}, .vec X n cp ty size xs ∈ L → ∀ b ∈ blkA X, K b ∨ w.heap.size ≤ b := fun {X n cp size ty xs} hi b hb => by
    simp only [blkA, Option.mem_toList, Option.map_eq_some_iff] at hb
    obtain ⟨ad, rfl, rfl⟩ := hb
    exact (M.fresh _ hi ad.block rfl).imp (old3 _) id
  refine ⟨A2, c2, S2, e2, ⟨?_, ⟨cs ++ [.int .i64 t.kind, .string t.text, .slice B t.keys.length d], ?_, fun i u hi => ?_⟩, ?_, ?_, ?_, ?_, .inl T.km, fun b hb => (fr i2 b hb).imp id .inl, fun b hb => (fr i3 b hb).imp id .inl⟩, M.sub (List.nil_sublist _)⟩
  · rw [List.length_append]; exact hm
  · rw [List.length_append]; exact hA
  · by_cases hlt : i < ts.length
    · rw [List.getElem?_append_left hlt] at hi
      obtain ⟨B', d', a1, a2, a3, a4, a5, a6, a7⟩ := hcs i u hi
      exact ⟨B', d', by rw [List.getElem?_append_left (by omega)]; exact a1, by rw [List.getElem?_append_left (by omega)]; exact a2, by rw [List.getElem?_append_left (by omega)]; exact a3, a4, a5, a6.ref T M, fun hn ad hB => .inl (a7 hn ad hB)⟩
    · have hi2 := (List.getElem?_eq_some_iff.1 hi).1
      simp only [List.length_append, List.length_cons, List.length_nil] at hi2
      obtain rfl : i = ts.length := by omega
      rw [List.getElem?_append_right (Nat.le_refl _), Nat.sub_self] at hi
      simp only [List.getElem?_cons_zero, Option.some.injEq] at hi
      subst hi
      refine ⟨B, d, ?_, ?_, ?_, hd, hn, hr.ref T M, fun _ ad hB => .inr (.inr ?_)⟩
      · rw [List.getElem?_append_right (by omega), show 3 * ts.length - cs.length = 0 from by omega]; rfl
      · rw [List.getElem?_append_right (by omega), show 3 * ts.length + 1 - cs.length = 1 from by omega]; rfl
      · rw [List.getElem?_append_right (by omega), show 3 * ts.length + 2 - cs.length = 2 from by omega]; rfl
      · subst hB
        simp [blkA]
  · rw [List.length_append, List.map_append]; exact hS
  · intro u hu
    rcases List.mem_append.1 hu with hu | hu
    · exact T.ok u hu
    · rw [List.mem_singleton] at hu
      subst hu
      exact ht
  · refine List.nodup_append.2 ⟨T.nd, by simp, fun a ha b hb e => ?_⟩
    rw [List.mem_singleton] at hb
    subst hb
    subst e
    exact hin ha
  · simp only [List.length_append, List.length_cons, List.length_nil]
    omega
theorem wpList_bsU1 (m : Nat) {ops : Array Oper} {rest : List Oper} {o : Oper} {a : Act} {w w0 : World} {Q : Exit → Act → World → Prop} {E : List Nat} {L : List Item} (hm : o.dst = some m) (hgd : o.guard = none) {x : Operand} (ho : o.op = .buildSlice 46 1 #[(0, x)]) {v : Int} (hx : a.eval x = .int .u32 v) (M : Mem w0 E w L)
    (h : ∀ b w', Mem w0 E w' (.blk b (rowO .u32 72 [v]) :: L) → wpList Try.prog ops Q rest (a.put (some m) (.slice (some ⟨b, 0, none⟩) 1 1)) w') : wpList Try.prog ops Q (o :: rest) a w :=
  wpList_bsN Try.underlying46 (z := .int .u32 0) (by kernel_rfl) m hm hgd ho (by decide) (cs := nums .u32 [v]) (by rw [show (#[(0, x)] : Array (Nat × Operand)).toList.map (fun (i, x) => (i, a.eval x)) = [(0, .int .u32 v)] from by simp [hx]]; kernel_rfl) M h
set_option maxRecDepth 100000 in
set_option maxHeartbeats 4000000 in
theorem Add70 (K : Nat → Prop) (m c e d : Nat) (A S B : Option Addr) (ts : List Tm) (t : Tm) (w : World) (T : RefP K w m A c S e ts) (ht : TmOk t) (hr : RowT w 26 B (nums .u8 t.keys.flatten)) (hd : t.keys.length ≤ d) (hn : B = none → d = 0) (hin : t ∉ ts) (hf : ts.length ≤ 900000) :
    Calls Try.prog 70 #[.pointer (some ⟨m, 0, none⟩), .agg #[.int .i64 t.kind, .string t.text, .slice B t.keys.length d]] w (AddR K w m A S B ts t) := by
  have M0 := Mem.start w
  obtain ⟨cs, HRW, MI⟩ := T.items M0
  have HT := hid T
  have HO := hid ht
  have HR := hid hr
  have HND := hid hn
  have HRO := hid HRW
  clear T ht hr M0 hn HRW
  go_enter Try.func70, Try.ntmps70
  go_upto_region 1 with (first | (refine wpList_bx (cs := [.int .i64 t.kind, .string t.text, .slice B t.keys.length d]) rfl rfl MI rfl rfl (fun b3 w1 M => ?_); clear MI; (conv => arg 5; simp only [Act.put, List.setIfInBounds_toArray, List.set_cons_succ, List.set_cons_zero])))
  refine wp_region_planS (fun w' => ∃ x, Mem w (RefE m A S) w' [.blk b3 (cellsO 95 [.int .i64 t.kind, .string t.text, .slice B t.keys.length d]), .blk m (cellsO 48 [x, .slice S ts.length e])]) (.free 0 (.free 1 (.free 2 (.free 3 (.free 5 (.two 4 (.one 6 (.one 7 (.free 8 (.free 9 (.one 10 (.done)))))) 6 (.one 4 (.one 7 (.free 8 (.free 9 (.one 10 (.done)))))))))))) (by kernel_rfl) (by kernel_rfl) (fun _ _ _ _ _ h => h) (fun w2 hb2 => ?_)
  replace M := M.call hb2
  clear hb2
  have SX : ∃ x, Mem w (RefE m A S) w2 [.blk b3 (cellsO 95 [.int .i64 t.kind, .string t.text, .slice B t.keys.length d]), .blk m (cellsO 48 [x, .slice S ts.length e])] := ⟨_, M.sub (by (repeat (first | exact List.Sublist.refl _ | apply List.Sublist.cons_cons | apply List.Sublist.cons)))⟩
  iterate 4 (refine wpT_free rfl rfl (.inl ⟨rfl, fun w _ => by go_simp; rfl⟩) (by assumption) ?_; (conv => arg 6; simp only [Act.put, List.setIfInBounds_toArray, List.set_cons_succ, List.set_cons_zero]))
  refine wpT_free rfl rfl (.inl ⟨rfl, fun w hw => (by obtain ⟨x, hw⟩ := hw; exact run_ldrowC Try.underlying95 sz95 rfl rfl rfl hw List.mem_cons_self)⟩) (by assumption) ?_; (conv => arg 6; simp only [Act.put, List.setIfInBounds_toArray, List.set_cons_succ, List.set_cons_zero])
  clear SX
  refine wpT_two rfl rfl ?_ ?_
  ·
    refine wpList_ldc 8 rfl rfl rfl Try.underlying45 rfl rfl (M.cell (g := m) (t := 48) (cs := [.slice A ts.length c, .slice S ts.length e]) (i := 0) (by (repeat (first | exact List.mem_cons_self | refine List.mem_cons_of_mem _ ?_))) rfl) ?_; (conv => arg 5; simp only [Act.put, List.setIfInBounds_toArray, List.set_cons_succ, List.set_cons_zero])
    go_wp2_with fail
    refine PlanTQ.mk ⟨_, M.sub (by (repeat (first | exact List.Sublist.refl _ | apply List.Sublist.cons_cons | apply List.Sublist.cons)))⟩ (wpT_op rfl ?_)
    refine wpList_bsT1 10 rfl rfl rfl rfl M ?_; clear M; intro b10 wn M; (conv => arg 5; simp only [Act.put, List.setIfInBounds_toArray, List.set_cons_succ, List.set_cons_zero])
    go_wp2_with fail
    refine PlanTQ.mk ⟨_, M.sub (by (repeat (first | exact List.Sublist.refl _ | apply List.Sublist.cons_cons | apply List.Sublist.cons)))⟩ (wpT_op rfl ?_)
    refine wpList_appSm 11 rfl Try.underlying45 i95' rfl (by decide) rfl rfl rfl rfl M (cs := cs) (fun A' cap' => Swap.tail (Swap.tail (Swap.tail Swap.head))) (M.blkT List.mem_cons_self) rfl (by simp [Value.oneCell']) (by omega) (by omega) ?_; clear M; intro A2 c2 wn M; (conv => arg 5; simp only [Act.put, List.setIfInBounds_toArray, List.set_cons_succ, List.set_cons_zero])
    go_wp2_with fail
    have SX : ∃ x, Mem w (RefE m A S) wn [.blk b3 (cellsO 95 [.int .i64 t.kind, .string t.text, .slice B t.keys.length d]), .blk m (cellsO 48 [x, .slice S ts.length e])] := ⟨_, M.sub (by (repeat (first | exact List.Sublist.refl _ | apply List.Sublist.cons_cons | apply List.Sublist.cons)))⟩
    refine PlanTQ.mk SX ?_
    iterate 2 (refine wpT_free rfl rfl (.inl ⟨rfl, fun w _ => by go_simp; rfl⟩) (by assumption) ?_; (conv => arg 6; simp only [Act.put, List.setIfInBounds_toArray, List.set_cons_succ, List.set_cons_zero]))
    clear SX
    refine wpT_op rfl ?_
    refine wpList_stM (v := .slice A2 (ts.length + 1) c2) rfl rfl s45 rfl rfl rfl M (Swap.tail (Swap.tail Swap.head)) (by simp) ?_; clear M; intro wn M; (conv => arg 5; simp only [Act.put, List.setIfInBounds_toArray, List.set_cons_succ, List.set_cons_zero])
    go_wp2_with fail
    refine PlanTQ.mk ⟨_, M.sub (by (repeat (first | exact List.Sublist.refl _ | apply List.Sublist.cons_cons | apply List.Sublist.cons)))⟩ (wpT_done ?_)
    go_upto_region 2 with fail
    simp only [List.set_cons_zero] at M
    replace M := M.sub (L' := [.blk b3 (cellsO 95 [.int .i64 t.kind, .string t.text, .slice B t.keys.length d]), .blk m (cellsO 48 [.slice A2 (ts.length + 1) c2, .slice S ts.length e]), .vec A2 (ts.length + 1) c2 95 3 (cs ++ [.int .i64 t.kind, .string t.text, .slice B t.keys.length d]), .vec S ts.length e 72 1 (nums .u32 (ts.map sumT))]) (by (repeat (first | exact List.Sublist.refl _ | apply List.Sublist.cons_cons | apply List.Sublist.cons)))
    refine wp_region_planS (fun w' => ∃ x, Mem w (RefE m A S) w' [.blk b3 (cellsO 95 [.int .i64 t.kind, .string t.text, .slice B t.keys.length d]), .blk m (cellsO 48 [.slice A2 (ts.length + 1) c2, x])]) (.free 0 (.free 1 (.free 2 (.free 3 (.free 5 (.two 4 (.one 6 (.one 7 (.one 8 (.free 9 (.free 10 (.one 11 (.done))))))) 6 (.two 4 (.one 7 (.one 8 (.free 9 (.free 10 (.one 11 (.done)))))) 7 (.one 4 (.one 8 (.free 9 (.free 10 (.one 11 (.done)))))))))))))  (by kernel_rfl) (by kernel_rfl) (fun _ _ _ _ _ h => h) (fun w2 hb2 => ?_)
    replace M := M.call hb2
    clear hb2
    have SX : ∃ x, Mem w (RefE m A S) w2 [.blk b3 (cellsO 95 [.int .i64 t.kind, .string t.text, .slice B t.keys.length d]), .blk m (cellsO 48 [.slice A2 (ts.length + 1) c2, x])] := ⟨_, M.sub (by (repeat (first | exact List.Sublist.refl _ | apply List.Sublist.cons_cons | apply List.Sublist.cons)))⟩
    iterate 4 (refine wpT_free rfl rfl (.inl ⟨rfl, fun w _ => by go_simp; rfl⟩) (by assumption) ?_; (conv => arg 6; simp only [Act.put, List.setIfInBounds_toArray, List.set_cons_succ, List.set_cons_zero]))
    refine wpT_free rfl rfl (.inl ⟨rfl, fun w hw => (by obtain ⟨x, hw⟩ := hw; exact run_ldrowC Try.underlying95 sz95 rfl rfl rfl hw List.mem_cons_self)⟩) (by assumption) ?_; (conv => arg 6; simp only [Act.put, List.setIfInBounds_toArray, List.set_cons_succ, List.set_cons_zero])
    clear SX
    refine wpT_two rfl rfl ?_ ?_
    · go_wp2_with (first | (refine wpList_ldc 18 rfl rfl rfl Try.underlying46 rfl rfl (M.cell (g := m) (t := 48) (cs := [.slice A2 (ts.length + 1) c2, .slice S ts.length e]) (i := 1) (by (repeat (first | exact List.mem_cons_self | refine List.mem_cons_of_mem _ ?_))) rfl) ?_; (conv => arg 5; simp only [Act.put, List.setIfInBounds_toArray, List.set_cons_succ, List.set_cons_zero])) | (go_at_call 82; refine (sum82 t B d _ HO.out (HR.out.ref HT.out (M.sub (List.nil_sublist _)))).mono ?_; rintro e6 w6 ⟨rfl, M6⟩; replace M := M.call M6.below; clear M6) | (refine wpList_bsU1 21 rfl rfl rfl rfl M ?_; clear M; intro b21 wn M; (conv => arg 5; simp only [Act.put, List.setIfInBounds_toArray, List.set_cons_succ, List.set_cons_zero])))
      refine PlanTQ.mk ⟨_, M.sub (by (repeat (first | exact List.Sublist.refl _ | apply List.Sublist.cons_cons | apply List.Sublist.cons)))⟩ (wpT_op rfl ?_)
      go_wp2_with (first | (refine wpList_ldc 18 rfl rfl rfl Try.underlying46 rfl rfl (M.cell (g := m) (t := 48) (cs := [.slice A2 (ts.length + 1) c2, .slice S ts.length e]) (i := 1) (by (repeat (first | exact List.mem_cons_self | refine List.mem_cons_of_mem _ ?_))) rfl) ?_; (conv => arg 5; simp only [Act.put, List.setIfInBounds_toArray, List.set_cons_succ, List.set_cons_zero])) | (go_at_call 82; refine (sum82 t B d _ HO.out (HR.out.ref HT.out (M.sub (List.nil_sublist _)))).mono ?_; rintro e6 w6 ⟨rfl, M6⟩; replace M := M.call M6.below; clear M6) | (refine wpList_bsU1 21 rfl rfl rfl rfl M ?_; clear M; intro b21 wn M; (conv => arg 5; simp only [Act.put, List.setIfInBounds_toArray, List.set_cons_succ, List.set_cons_zero])))
      refine PlanTQ.mk ⟨_, M.sub (by (repeat (first | exact List.Sublist.refl _ | apply List.Sublist.cons_cons | apply List.Sublist.cons)))⟩ (wpT_op rfl ?_)
      go_wp2_with (first | (refine wpList_ldc 18 rfl rfl rfl Try.underlying46 rfl rfl (M.cell (g := m) (t := 48) (cs := [.slice A2 (ts.length + 1) c2, .slice S ts.length e]) (i := 1) (by (repeat (first | exact List.mem_cons_self | refine List.mem_cons_of_mem _ ?_))) rfl) ?_; (conv => arg 5; simp only [Act.put, List.setIfInBounds_toArray, List.set_cons_succ, List.set_cons_zero])) | (go_at_call 82; refine (sum82 t B d _ HO.out (HR.out.ref HT.out (M.sub (List.nil_sublist _)))).mono ?_; rintro e6 w6 ⟨rfl, M6⟩; replace M := M.call M6.below; clear M6) | (refine wpList_bsU1 21 rfl rfl rfl rfl M ?_; clear M; intro b21 wn M; (conv => arg 5; simp only [Act.put, List.setIfInBounds_toArray, List.set_cons_succ, List.set_cons_zero])))
      refine PlanTQ.mk ⟨_, M.sub (by (repeat (first | exact List.Sublist.refl _ | apply List.Sublist.cons_cons | apply List.Sublist.cons)))⟩ (wpT_op rfl ?_)
      refine wpList_appNm 22 rfl Try.underlying46 i72 rfl rfl rfl rfl M (xs := ts.map sumT) (ys := [sumT t]) (fun A' cap' => Swap.tail (Swap.tail (Swap.tail (Swap.tail Swap.head)))) List.mem_cons_self rfl (by omega) (by omega) ?_; clear M; intro S2 e2 wn M; (conv => arg 5; simp only [Act.put, List.setIfInBounds_toArray, List.set_cons_succ, List.set_cons_zero])
      go_wp2_with fail
      have SX : ∃ x, Mem w (RefE m A S) wn [.blk b3 (cellsO 95 [.int .i64 t.kind, .string t.text, .slice B t.keys.length d]), .blk m (cellsO 48 [.slice A2 (ts.length + 1) c2, x])] := ⟨_, M.sub (by (repeat (first | exact List.Sublist.refl _ | apply List.Sublist.cons_cons | apply List.Sublist.cons)))⟩
      refine PlanTQ.mk SX ?_
      iterate 2 (refine wpT_free rfl rfl (.inl ⟨rfl, fun w _ => by go_simp; rfl⟩) (by assumption) ?_; (conv => arg 6; simp only [Act.put, List.setIfInBounds_toArray, List.set_cons_succ, List.set_cons_zero]))
      clear SX
      refine wpT_op rfl ?_
      refine wpList_stM (v := .slice S2 (ts.length + 1) e2) rfl rfl s46 rfl rfl rfl M (Swap.tail (Swap.tail Swap.head)) (by simp) ?_; clear M; intro wn M; (conv => arg 5; simp only [Act.put, List.setIfInBounds_toArray, List.set_cons_succ, List.set_cons_zero])
      go_wp2_with fail
      refine PlanTQ.mk ⟨_, M.sub (by (repeat (first | exact List.Sublist.refl _ | apply List.Sublist.cons_cons | apply List.Sublist.cons)))⟩ (wpT_done ?_)
      go_wp2_with fail
      go_end0
      simp only [List.set_cons_succ, List.set_cons_zero] at M
      exact ⟨rfl, HT.out.push HO.out hin hf HRO.out HR.out hd HND.out M (by (repeat (first | exact List.mem_cons_self | refine List.mem_cons_of_mem _ ?_))) (by (repeat (first | exact List.mem_cons_self | refine List.mem_cons_of_mem _ ?_))) (by (repeat (first | exact List.mem_cons_self | refine List.mem_cons_of_mem _ ?_)))⟩
    · go_wp2_with (first | (refine wpList_ldc 18 rfl rfl rfl Try.underlying46 rfl rfl (M.cell (g := m) (t := 48) (cs := [.slice A2 (ts.length + 1) c2, .slice S ts.length e]) (i := 1) (by (repeat (first | exact List.mem_cons_self | refine List.mem_cons_of_mem _ ?_))) rfl) ?_; (conv => arg 5; simp only [Act.put, List.setIfInBounds_toArray, List.set_cons_succ, List.set_cons_zero])) | (go_at_call 82; refine (sum82 t B d _ HO.out (HR.out.ref HT.out (M.sub (List.nil_sublist _)))).mono ?_; rintro e6 w6 ⟨rfl, M6⟩; replace M := M.call M6.below; clear M6) | (refine wpList_bsU1 21 rfl rfl rfl rfl M ?_; clear M; intro b21 wn M; (conv => arg 5; simp only [Act.put, List.setIfInBounds_toArray, List.set_cons_succ, List.set_cons_zero])))
      refine PlanTQ.mk ⟨_, M.sub (by (repeat (first | exact List.Sublist.refl _ | apply List.Sublist.cons_cons | apply List.Sublist.cons)))⟩ (wpT_two rfl rfl ?_ ?_)
      · go_wp2_with (first | (refine wpList_ldc 18 rfl rfl rfl Try.underlying46 rfl rfl (M.cell (g := m) (t := 48) (cs := [.slice A2 (ts.length + 1) c2, .slice S ts.length e]) (i := 1) (by (repeat (first | exact List.mem_cons_self | refine List.mem_cons_of_mem _ ?_))) rfl) ?_; (conv => arg 5; simp only [Act.put, List.setIfInBounds_toArray, List.set_cons_succ, List.set_cons_zero])) | (go_at_call 82; refine (sum82 t B d _ HO.out (HR.out.ref HT.out (M.sub (List.nil_sublist _)))).mono ?_; rintro e6 w6 ⟨rfl, M6⟩; replace M := M.call M6.below; clear M6) | (refine wpList_bsU1 21 rfl rfl rfl rfl M ?_; clear M; intro b21 wn M; (conv => arg 5; simp only [Act.put, List.setIfInBounds_toArray, List.set_cons_succ, List.set_cons_zero])))
        refine PlanTQ.mk ⟨_, M.sub (by (repeat (first | exact List.Sublist.refl _ | apply List.Sublist.cons_cons | apply List.Sublist.cons)))⟩ (wpT_op rfl ?_)
        go_wp2_with (first | (refine wpList_ldc 18 rfl rfl rfl Try.underlying46 rfl rfl (M.cell (g := m) (t := 48) (cs := [.slice A2 (ts.length + 1) c2, .slice S ts.length e]) (i := 1) (by (repeat (first | exact List.mem_cons_self | refine List.mem_cons_of_mem _ ?_))) rfl) ?_; (conv => arg 5; simp only [Act.put, List.setIfInBounds_toArray, List.set_cons_succ, List.set_cons_zero])) | (go_at_call 82; refine (sum82 t B d _ HO.out (HR.out.ref HT.out (M.sub (List.nil_sublist _)))).mono ?_; rintro e6 w6 ⟨rfl, M6⟩; replace M := M.call M6.below; clear M6) | (refine wpList_bsU1 21 rfl rfl rfl rfl M ?_; clear M; intro b21 wn M; (conv => arg 5; simp only [Act.put, List.setIfInBounds_toArray, List.set_cons_succ, List.set_cons_zero])))
        refine PlanTQ.mk ⟨_, M.sub (by (repeat (first | exact List.Sublist.refl _ | apply List.Sublist.cons_cons | apply List.Sublist.cons)))⟩ (wpT_op rfl ?_)
        refine wpList_appNm 22 rfl Try.underlying46 i72 rfl rfl rfl rfl M (xs := ts.map sumT) (ys := [sumT t]) (fun A' cap' => Swap.tail (Swap.tail (Swap.tail (Swap.tail Swap.head)))) List.mem_cons_self rfl (by omega) (by omega) ?_; clear M; intro S2 e2 wn M; (conv => arg 5; simp only [Act.put, List.setIfInBounds_toArray, List.set_cons_succ, List.set_cons_zero])
        go_wp2_with fail
        have SX : ∃ x, Mem w (RefE m A S) wn [.blk b3 (cellsO 95 [.int .i64 t.kind, .string t.text, .slice B t.keys.length d]), .blk m (cellsO 48 [.slice A2 (ts.length + 1) c2, x])] := ⟨_, M.sub (by (repeat (first | exact List.Sublist.refl _ | apply List.Sublist.cons_cons | apply List.Sublist.cons)))⟩
        refine PlanTQ.mk SX ?_
        iterate 2 (refine wpT_free rfl rfl (.inl ⟨rfl, fun w _ => by go_simp; rfl⟩) (by assumption) ?_; (conv => arg 6; simp only [Act.put, List.setIfInBounds_toArray, List.set_cons_succ, List.set_cons_zero]))
        clear SX
        refine wpT_op rfl ?_
        refine wpList_stM (v := .slice S2 (ts.length + 1) e2) rfl rfl s46 rfl rfl rfl M (Swap.tail (Swap.tail Swap.head)) (by simp) ?_; clear M; intro wn M; (conv => arg 5; simp only [Act.put, List.setIfInBounds_toArray, List.set_cons_succ, List.set_cons_zero])
        go_wp2_with fail
        refine PlanTQ.mk ⟨_, M.sub (by (repeat (first | exact List.Sublist.refl _ | apply List.Sublist.cons_cons | apply List.Sublist.cons)))⟩ (wpT_done ?_)
        go_wp2_with fail
        go_end0
        simp only [List.set_cons_succ, List.set_cons_zero] at M
        exact ⟨rfl, HT.out.push HO.out hin hf HRO.out HR.out hd HND.out M (by (repeat (first | exact List.mem_cons_self | refine List.mem_cons_of_mem _ ?_))) (by (repeat (first | exact List.mem_cons_self | refine List.mem_cons_of_mem _ ?_))) (by (repeat (first | exact List.mem_cons_self | refine List.mem_cons_of_mem _ ?_)))⟩
      · go_wp2_with (first | (refine wpList_ldc 18 rfl rfl rfl Try.underlying46 rfl rfl (M.cell (g := m) (t := 48) (cs := [.slice A2 (ts.length + 1) c2, .slice S ts.length e]) (i := 1) (by (repeat (first | exact List.mem_cons_self | refine List.mem_cons_of_mem _ ?_))) rfl) ?_; (conv => arg 5; simp only [Act.put, List.setIfInBounds_toArray, List.set_cons_succ, List.set_cons_zero])) | (go_at_call 82; refine (sum82 t B d _ HO.out (HR.out.ref HT.out (M.sub (List.nil_sublist _)))).mono ?_; rintro e6 w6 ⟨rfl, M6⟩; replace M := M.call M6.below; clear M6) | (refine wpList_bsU1 21 rfl rfl rfl rfl M ?_; clear M; intro b21 wn M; (conv => arg 5; simp only [Act.put, List.setIfInBounds_toArray, List.set_cons_succ, List.set_cons_zero])))
        refine PlanTQ.mk ⟨_, M.sub (by (repeat (first | exact List.Sublist.refl _ | apply List.Sublist.cons_cons | apply List.Sublist.cons)))⟩ (wpT_op rfl ?_)
        go_wp2_with (first | (refine wpList_ldc 18 rfl rfl rfl Try.underlying46 rfl rfl (M.cell (g := m) (t := 48) (cs := [.slice A2 (ts.length + 1) c2, .slice S ts.length e]) (i := 1) (by (repeat (first | exact List.mem_cons_self | refine List.mem_cons_of_mem _ ?_))) rfl) ?_; (conv => arg 5; simp only [Act.put, List.setIfInBounds_toArray, List.set_cons_succ, List.set_cons_zero])) | (go_at_call 82; refine (sum82 t B d _ HO.out (HR.out.ref HT.out (M.sub (List.nil_sublist _)))).mono ?_; rintro e6 w6 ⟨rfl, M6⟩; replace M := M.call M6.below; clear M6) | (refine wpList_bsU1 21 rfl rfl rfl rfl M ?_; clear M; intro b21 wn M; (conv => arg 5; simp only [Act.put, List.setIfInBounds_toArray, List.set_cons_succ, List.set_cons_zero])))
        refine PlanTQ.mk ⟨_, M.sub (by (repeat (first | exact List.Sublist.refl _ | apply List.Sublist.cons_cons | apply List.Sublist.cons)))⟩ (wpT_op rfl ?_)
        refine wpList_appNm 22 rfl Try.underlying46 i72 rfl rfl rfl rfl M (xs := ts.map sumT) (ys := [sumT t]) (fun A' cap' => Swap.tail (Swap.tail (Swap.tail (Swap.tail Swap.head)))) List.mem_cons_self rfl (by omega) (by omega) ?_; clear M; intro S2 e2 wn M; (conv => arg 5; simp only [Act.put, List.setIfInBounds_toArray, List.set_cons_succ, List.set_cons_zero])
        go_wp2_with fail
        have SX : ∃ x, Mem w (RefE m A S) wn [.blk b3 (cellsO 95 [.int .i64 t.kind, .string t.text, .slice B t.keys.length d]), .blk m (cellsO 48 [.slice A2 (ts.length + 1) c2, x])] := ⟨_, M.sub (by (repeat (first | exact List.Sublist.refl _ | apply List.Sublist.cons_cons | apply List.Sublist.cons)))⟩
        refine PlanTQ.mk SX ?_
        iterate 2 (refine wpT_free rfl rfl (.inl ⟨rfl, fun w _ => by go_simp; rfl⟩) (by assumption) ?_; (conv => arg 6; simp only [Act.put, List.setIfInBounds_toArray, List.set_cons_succ, List.set_cons_zero]))
        clear SX
        refine wpT_op rfl ?_
        refine wpList_stM (v := .slice S2 (ts.length + 1) e2) rfl rfl s46 rfl rfl rfl M (Swap.tail (Swap.tail Swap.head)) (by simp) ?_; clear M; intro wn M; (conv => arg 5; simp only [Act.put, List.setIfInBounds_toArray, List.set_cons_succ, List.set_cons_zero])
        go_wp2_with fail
        refine PlanTQ.mk ⟨_, M.sub (by (repeat (first | exact List.Sublist.refl _ | apply List.Sublist.cons_cons | apply List.Sublist.cons)))⟩ (wpT_done ?_)
        go_wp2_with fail
        go_end0
        simp only [List.set_cons_succ, List.set_cons_zero] at M
        exact ⟨rfl, HT.out.push HO.out hin hf HRO.out HR.out hd HND.out M (by (repeat (first | exact List.mem_cons_self | refine List.mem_cons_of_mem _ ?_))) (by (repeat (first | exact List.mem_cons_self | refine List.mem_cons_of_mem _ ?_))) (by (repeat (first | exact List.mem_cons_self | refine List.mem_cons_of_mem _ ?_)))⟩
  ·
    refine wpList_bsT1 10 rfl rfl rfl rfl M ?_; clear M; intro b10 wn M; (conv => arg 5; simp only [Act.put, List.setIfInBounds_toArray, List.set_cons_succ, List.set_cons_zero])
    go_wp2_with fail
    refine PlanTQ.mk ⟨_, M.sub (by (repeat (first | exact List.Sublist.refl _ | apply List.Sublist.cons_cons | apply List.Sublist.cons)))⟩ (wpT_op rfl ?_)
    refine wpList_ldc 8 rfl rfl rfl Try.underlying45 rfl rfl (M.cell (g := m) (t := 48) (cs := [.slice A ts.length c, .slice S ts.length e]) (i := 0) (by (repeat (first | exact List.mem_cons_self | refine List.mem_cons_of_mem _ ?_))) rfl) ?_; (conv => arg 5; simp only [Act.put, List.setIfInBounds_toArray, List.set_cons_succ, List.set_cons_zero])
    go_wp2_with fail
    refine PlanTQ.mk ⟨_, M.sub (by (repeat (first | exact List.Sublist.refl _ | apply List.Sublist.cons_cons | apply List.Sublist.cons)))⟩ (wpT_op rfl ?_)
    refine wpList_appSm 11 rfl Try.underlying45 i95' rfl (by decide) rfl rfl rfl rfl M (cs := cs) (fun A' cap' => Swap.tail (Swap.tail (Swap.tail Swap.head))) (M.blkT List.mem_cons_self) rfl (by simp [Value.oneCell']) (by omega) (by omega) ?_; clear M; intro A2 c2 wn M; (conv => arg 5; simp only [Act.put, List.setIfInBounds_toArray, List.set_cons_succ, List.set_cons_zero])
    go_wp2_with fail
    have SX : ∃ x, Mem w (RefE m A S) wn [.blk b3 (cellsO 95 [.int .i64 t.kind, .string t.text, .slice B t.keys.length d]), .blk m (cellsO 48 [x, .slice S ts.length e])] := ⟨_, M.sub (by (repeat (first | exact List.Sublist.refl _ | apply List.Sublist.cons_cons | apply List.Sublist.cons)))⟩
    refine PlanTQ.mk SX ?_
    iterate 2 (refine wpT_free rfl rfl (.inl ⟨rfl, fun w _ => by go_simp; rfl⟩) (by assumption) ?_; (conv => arg 6; simp only [Act.put, List.setIfInBounds_toArray, List.set_cons_succ, List.set_cons_zero]))
    clear SX
    refine wpT_op rfl ?_
    refine wpList_stM (v := .slice A2 (ts.length + 1) c2) rfl rfl s45 rfl rfl rfl M (Swap.tail (Swap.tail Swap.head)) (by simp) ?_; clear M; intro wn M; (conv => arg 5; simp only [Act.put, List.setIfInBounds_toArray, List.set_cons_succ, List.set_cons_zero])
    go_wp2_with fail
    refine PlanTQ.mk ⟨_, M.sub (by (repeat (first | exact List.Sublist.refl _ | apply List.Sublist.cons_cons | apply List.Sublist.cons)))⟩ (wpT_done ?_)
    go_upto_region 2 with fail
    simp only [List.set_cons_zero] at M
    replace M := M.sub (L' := [.blk b3 (cellsO 95 [.int .i64 t.kind, .string t.text, .slice B t.keys.length d]), .blk m (cellsO 48 [.slice A2 (ts.length + 1) c2, .slice S ts.length e]), .vec A2 (ts.length + 1) c2 95 3 (cs ++ [.int .i64 t.kind, .string t.text, .slice B t.keys.length d]), .vec S ts.length e 72 1 (nums .u32 (ts.map sumT))]) (by (repeat (first | exact List.Sublist.refl _ | apply List.Sublist.cons_cons | apply List.Sublist.cons)))
    refine wp_region_planS (fun w' => ∃ x, Mem w (RefE m A S) w' [.blk b3 (cellsO 95 [.int .i64 t.kind, .string t.text, .slice B t.keys.length d]), .blk m (cellsO 48 [.slice A2 (ts.length + 1) c2, x])]) (.free 0 (.free 1 (.free 2 (.free 3 (.free 5 (.two 4 (.one 6 (.one 7 (.one 8 (.free 9 (.free 10 (.one 11 (.done))))))) 6 (.two 4 (.one 7 (.one 8 (.free 9 (.free 10 (.one 11 (.done)))))) 7 (.one 4 (.one 8 (.free 9 (.free 10 (.one 11 (.done)))))))))))))  (by kernel_rfl) (by kernel_rfl) (fun _ _ _ _ _ h => h) (fun w2 hb2 => ?_)
    replace M := M.call hb2
    clear hb2
    have SX : ∃ x, Mem w (RefE m A S) w2 [.blk b3 (cellsO 95 [.int .i64 t.kind, .string t.text, .slice B t.keys.length d]), .blk m (cellsO 48 [.slice A2 (ts.length + 1) c2, x])] := ⟨_, M.sub (by (repeat (first | exact List.Sublist.refl _ | apply List.Sublist.cons_cons | apply List.Sublist.cons)))⟩
    iterate 4 (refine wpT_free rfl rfl (.inl ⟨rfl, fun w _ => by go_simp; rfl⟩) (by assumption) ?_; (conv => arg 6; simp only [Act.put, List.setIfInBounds_toArray, List.set_cons_succ, List.set_cons_zero]))
    refine wpT_free rfl rfl (.inl ⟨rfl, fun w hw => (by obtain ⟨x, hw⟩ := hw; exact run_ldrowC Try.underlying95 sz95 rfl rfl rfl hw List.mem_cons_self)⟩) (by assumption) ?_; (conv => arg 6; simp only [Act.put, List.setIfInBounds_toArray, List.set_cons_succ, List.set_cons_zero])
    clear SX
    refine wpT_two rfl rfl ?_ ?_
    · go_wp2_with (first | (refine wpList_ldc 18 rfl rfl rfl Try.underlying46 rfl rfl (M.cell (g := m) (t := 48) (cs := [.slice A2 (ts.length + 1) c2, .slice S ts.length e]) (i := 1) (by (repeat (first | exact List.mem_cons_self | refine List.mem_cons_of_mem _ ?_))) rfl) ?_; (conv => arg 5; simp only [Act.put, List.setIfInBounds_toArray, List.set_cons_succ, List.set_cons_zero])) | (go_at_call 82; refine (sum82 t B d _ HO.out (HR.out.ref HT.out (M.sub (List.nil_sublist _)))).mono ?_; rintro e6 w6 ⟨rfl, M6⟩; replace M := M.call M6.below; clear M6) | (refine wpList_bsU1 21 rfl rfl rfl rfl M ?_; clear M; intro b21 wn M; (conv => arg 5; simp only [Act.put, List.setIfInBounds_toArray, List.set_cons_succ, List.set_cons_zero])))
      refine PlanTQ.mk ⟨_, M.sub (by (repeat (first | exact List.Sublist.refl _ | apply List.Sublist.cons_cons | apply List.Sublist.cons)))⟩ (wpT_op rfl ?_)
      go_wp2_with (first | (refine wpList_ldc 18 rfl rfl rfl Try.underlying46 rfl rfl (M.cell (g := m) (t := 48) (cs := [.slice A2 (ts.length + 1) c2, .slice S ts.length e]) (i := 1) (by (repeat (first | exact List.mem_cons_self | refine List.mem_cons_of_mem _ ?_))) rfl) ?_; (conv => arg 5; simp only [Act.put, List.setIfInBounds_toArray, List.set_cons_succ, List.set_cons_zero])) | (go_at_call 82; refine (sum82 t B d _ HO.out (HR.out.ref HT.out (M.sub (List.nil_sublist _)))).mono ?_; rintro e6 w6 ⟨rfl, M6⟩; replace M := M.call M6.below; clear M6) | (refine wpList_bsU1 21 rfl rfl rfl rfl M ?_; clear M; intro b21 wn M; (conv => arg 5; simp only [Act.put, List.setIfInBounds_toArray, List.set_cons_succ, List.set_cons_zero])))
      refine PlanTQ.mk ⟨_, M.sub (by (repeat (first | exact List.Sublist.refl _ | apply List.Sublist.cons_cons | apply List.Sublist.cons)))⟩ (wpT_op rfl ?_)
      go_wp2_with (first | (refine wpList_ldc 18 rfl rfl rfl Try.underlying46 rfl rfl (M.cell (g := m) (t := 48) (cs := [.slice A2 (ts.length + 1) c2, .slice S ts.length e]) (i := 1) (by (repeat (first | exact List.mem_cons_self | refine List.mem_cons_of_mem _ ?_))) rfl) ?_; (conv => arg 5; simp only [Act.put, List.setIfInBounds_toArray, List.set_cons_succ, List.set_cons_zero])) | (go_at_call 82; refine (sum82 t B d _ HO.out (HR.out.ref HT.out (M.sub (List.nil_sublist _)))).mono ?_; rintro e6 w6 ⟨rfl, M6⟩; replace M := M.call M6.below; clear M6) | (refine wpList_bsU1 21 rfl rfl rfl rfl M ?_; clear M; intro b21 wn M; (conv => arg 5; simp only [Act.put, List.setIfInBounds_toArray, List.set_cons_succ, List.set_cons_zero])))
      refine PlanTQ.mk ⟨_, M.sub (by (repeat (first | exact List.Sublist.refl _ | apply List.Sublist.cons_cons | apply List.Sublist.cons)))⟩ (wpT_op rfl ?_)
      refine wpList_appNm 22 rfl Try.underlying46 i72 rfl rfl rfl rfl M (xs := ts.map sumT) (ys := [sumT t]) (fun A' cap' => Swap.tail (Swap.tail (Swap.tail (Swap.tail Swap.head)))) List.mem_cons_self rfl (by omega) (by omega) ?_; clear M; intro S2 e2 wn M; (conv => arg 5; simp only [Act.put, List.setIfInBounds_toArray, List.set_cons_succ, List.set_cons_zero])
      go_wp2_with fail
      have SX : ∃ x, Mem w (RefE m A S) wn [.blk b3 (cellsO 95 [.int .i64 t.kind, .string t.text, .slice B t.keys.length d]), .blk m (cellsO 48 [.slice A2 (ts.length + 1) c2, x])] := ⟨_, M.sub (by (repeat (first | exact List.Sublist.refl _ | apply List.Sublist.cons_cons | apply List.Sublist.cons)))⟩
      refine PlanTQ.mk SX ?_
      iterate 2 (refine wpT_free rfl rfl (.inl ⟨rfl, fun w _ => by go_simp; rfl⟩) (by assumption) ?_; (conv => arg 6; simp only [Act.put, List.setIfInBounds_toArray, List.set_cons_succ, List.set_cons_zero]))
      clear SX
      refine wpT_op rfl ?_
      refine wpList_stM (v := .slice S2 (ts.length + 1) e2) rfl rfl s46 rfl rfl rfl M (Swap.tail (Swap.tail Swap.head)) (by simp) ?_; clear M; intro wn M; (conv => arg 5; simp only [Act.put, List.setIfInBounds_toArray, List.set_cons_succ, List.set_cons_zero])
      go_wp2_with fail
      refine PlanTQ.mk ⟨_, M.sub (by (repeat (first | exact List.Sublist.refl _ | apply List.Sublist.cons_cons | apply List.Sublist.cons)))⟩ (wpT_done ?_)
      go_wp2_with fail
      go_end0
      simp only [List.set_cons_succ, List.set_cons_zero] at M
      exact ⟨rfl, HT.out.push HO.out hin hf HRO.out HR.out hd HND.out M (by (repeat (first | exact List.mem_cons_self | refine List.mem_cons_of_mem _ ?_))) (by (repeat (first | exact List.mem_cons_self | refine List.mem_cons_of_mem _ ?_))) (by (repeat (first | exact List.mem_cons_self | refine List.mem_cons_of_mem _ ?_)))⟩
    · go_wp2_with (first | (refine wpList_ldc 18 rfl rfl rfl Try.underlying46 rfl rfl (M.cell (g := m) (t := 48) (cs := [.slice A2 (ts.length + 1) c2, .slice S ts.length e]) (i := 1) (by (repeat (first | exact List.mem_cons_self | refine List.mem_cons_of_mem _ ?_))) rfl) ?_; (conv => arg 5; simp only [Act.put, List.setIfInBounds_toArray, List.set_cons_succ, List.set_cons_zero])) | (go_at_call 82; refine (sum82 t B d _ HO.out (HR.out.ref HT.out (M.sub (List.nil_sublist _)))).mono ?_; rintro e6 w6 ⟨rfl, M6⟩; replace M := M.call M6.below; clear M6) | (refine wpList_bsU1 21 rfl rfl rfl rfl M ?_; clear M; intro b21 wn M; (conv => arg 5; simp only [Act.put, List.setIfInBounds_toArray, List.set_cons_succ, List.set_cons_zero])))
      refine PlanTQ.mk ⟨_, M.sub (by (repeat (first | exact List.Sublist.refl _ | apply List.Sublist.cons_cons | apply List.Sublist.cons)))⟩ (wpT_two rfl rfl ?_ ?_)
      · go_wp2_with (first | (refine wpList_ldc 18 rfl rfl rfl Try.underlying46 rfl rfl (M.cell (g := m) (t := 48) (cs := [.slice A2 (ts.length + 1) c2, .slice S ts.length e]) (i := 1) (by (repeat (first | exact List.mem_cons_self | refine List.mem_cons_of_mem _ ?_))) rfl) ?_; (conv => arg 5; simp only [Act.put, List.setIfInBounds_toArray, List.set_cons_succ, List.set_cons_zero])) | (go_at_call 82; refine (sum82 t B d _ HO.out (HR.out.ref HT.out (M.sub (List.nil_sublist _)))).mono ?_; rintro e6 w6 ⟨rfl, M6⟩; replace M := M.call M6.below; clear M6) | (refine wpList_bsU1 21 rfl rfl rfl rfl M ?_; clear M; intro b21 wn M; (conv => arg 5; simp only [Act.put, List.setIfInBounds_toArray, List.set_cons_succ, List.set_cons_zero])))
        refine PlanTQ.mk ⟨_, M.sub (by (repeat (first | exact List.Sublist.refl _ | apply List.Sublist.cons_cons | apply List.Sublist.cons)))⟩ (wpT_op rfl ?_)
        go_wp2_with (first | (refine wpList_ldc 18 rfl rfl rfl Try.underlying46 rfl rfl (M.cell (g := m) (t := 48) (cs := [.slice A2 (ts.length + 1) c2, .slice S ts.length e]) (i := 1) (by (repeat (first | exact List.mem_cons_self | refine List.mem_cons_of_mem _ ?_))) rfl) ?_; (conv => arg 5; simp only [Act.put, List.setIfInBounds_toArray, List.set_cons_succ, List.set_cons_zero])) | (go_at_call 82; refine (sum82 t B d _ HO.out (HR.out.ref HT.out (M.sub (List.nil_sublist _)))).mono ?_; rintro e6 w6 ⟨rfl, M6⟩; replace M := M.call M6.below; clear M6) | (refine wpList_bsU1 21 rfl rfl rfl rfl M ?_; clear M; intro b21 wn M; (conv => arg 5; simp only [Act.put, List.setIfInBounds_toArray, List.set_cons_succ, List.set_cons_zero])))
        refine PlanTQ.mk ⟨_, M.sub (by (repeat (first | exact List.Sublist.refl _ | apply List.Sublist.cons_cons | apply List.Sublist.cons)))⟩ (wpT_op rfl ?_)
        refine wpList_appNm 22 rfl Try.underlying46 i72 rfl rfl rfl rfl M (xs := ts.map sumT) (ys := [sumT t]) (fun A' cap' => Swap.tail (Swap.tail (Swap.tail (Swap.tail Swap.head)))) List.mem_cons_self rfl (by omega) (by omega) ?_; clear M; intro S2 e2 wn M; (conv => arg 5; simp only [Act.put, List.setIfInBounds_toArray, List.set_cons_succ, List.set_cons_zero])
        go_wp2_with fail
        have SX : ∃ x, Mem w (RefE m A S) wn [.blk b3 (cellsO 95 [.int .i64 t.kind, .string t.text, .slice B t.keys.length d]), .blk m (cellsO 48 [.slice A2 (ts.length + 1) c2, x])] := ⟨_, M.sub (by (repeat (first | exact List.Sublist.refl _ | apply List.Sublist.cons_cons | apply List.Sublist.cons)))⟩
        refine PlanTQ.mk SX ?_
        iterate 2 (refine wpT_free rfl rfl (.inl ⟨rfl, fun w _ => by go_simp; rfl⟩) (by assumption) ?_; (conv => arg 6; simp only [Act.put, List.setIfInBounds_toArray, List.set_cons_succ, List.set_cons_zero]))
        clear SX
        refine wpT_op rfl ?_
        refine wpList_stM (v := .slice S2 (ts.length + 1) e2) rfl rfl s46 rfl rfl rfl M (Swap.tail (Swap.tail Swap.head)) (by simp) ?_; clear M; intro wn M; (conv => arg 5; simp only [Act.put, List.setIfInBounds_toArray, List.set_cons_succ, List.set_cons_zero])
        go_wp2_with fail
        refine PlanTQ.mk ⟨_, M.sub (by (repeat (first | exact List.Sublist.refl _ | apply List.Sublist.cons_cons | apply List.Sublist.cons)))⟩ (wpT_done ?_)
        go_wp2_with fail
        go_end0
        simp only [List.set_cons_succ, List.set_cons_zero] at M
        exact ⟨rfl, HT.out.push HO.out hin hf HRO.out HR.out hd HND.out M (by (repeat (first | exact List.mem_cons_self | refine List.mem_cons_of_mem _ ?_))) (by (repeat (first | exact List.mem_cons_self | refine List.mem_cons_of_mem _ ?_))) (by (repeat (first | exact List.mem_cons_self | refine List.mem_cons_of_mem _ ?_)))⟩
      · go_wp2_with (first | (refine wpList_ldc 18 rfl rfl rfl Try.underlying46 rfl rfl (M.cell (g := m) (t := 48) (cs := [.slice A2 (ts.length + 1) c2, .slice S ts.length e]) (i := 1) (by (repeat (first | exact List.mem_cons_self | refine List.mem_cons_of_mem _ ?_))) rfl) ?_; (conv => arg 5; simp only [Act.put, List.setIfInBounds_toArray, List.set_cons_succ, List.set_cons_zero])) | (go_at_call 82; refine (sum82 t B d _ HO.out (HR.out.ref HT.out (M.sub (List.nil_sublist _)))).mono ?_; rintro e6 w6 ⟨rfl, M6⟩; replace M := M.call M6.below; clear M6) | (refine wpList_bsU1 21 rfl rfl rfl rfl M ?_; clear M; intro b21 wn M; (conv => arg 5; simp only [Act.put, List.setIfInBounds_toArray, List.set_cons_succ, List.set_cons_zero])))
        refine PlanTQ.mk ⟨_, M.sub (by (repeat (first | exact List.Sublist.refl _ | apply List.Sublist.cons_cons | apply List.Sublist.cons)))⟩ (wpT_op rfl ?_)
        go_wp2_with (first | (refine wpList_ldc 18 rfl rfl rfl Try.underlying46 rfl rfl (M.cell (g := m) (t := 48) (cs := [.slice A2 (ts.length + 1) c2, .slice S ts.length e]) (i := 1) (by (repeat (first | exact List.mem_cons_self | refine List.mem_cons_of_mem _ ?_))) rfl) ?_; (conv => arg 5; simp only [Act.put, List.setIfInBounds_toArray, List.set_cons_succ, List.set_cons_zero])) | (go_at_call 82; refine (sum82 t B d _ HO.out (HR.out.ref HT.out (M.sub (List.nil_sublist _)))).mono ?_; rintro e6 w6 ⟨rfl, M6⟩; replace M := M.call M6.below; clear M6) | (refine wpList_bsU1 21 rfl rfl rfl rfl M ?_; clear M; intro b21 wn M; (conv => arg 5; simp only [Act.put, List.setIfInBounds_toArray, List.set_cons_succ, List.set_cons_zero])))
        refine PlanTQ.mk ⟨_, M.sub (by (repeat (first | exact List.Sublist.refl _ | apply List.Sublist.cons_cons | apply List.Sublist.cons)))⟩ (wpT_op rfl ?_)
        refine wpList_appNm 22 rfl Try.underlying46 i72 rfl rfl rfl rfl M (xs := ts.map sumT) (ys := [sumT t]) (fun A' cap' => Swap.tail (Swap.tail (Swap.tail (Swap.tail Swap.head)))) List.mem_cons_self rfl (by omega) (by omega) ?_; clear M; intro S2 e2 wn M; (conv => arg 5; simp only [Act.put, List.setIfInBounds_toArray, List.set_cons_succ, List.set_cons_zero])
        go_wp2_with fail
        have SX : ∃ x, Mem w (RefE m A S) wn [.blk b3 (cellsO 95 [.int .i64 t.kind, .string t.text, .slice B t.keys.length d]), .blk m (cellsO 48 [.slice A2 (ts.length + 1) c2, x])] := ⟨_, M.sub (by (repeat (first | exact List.Sublist.refl _ | apply List.Sublist.cons_cons | apply List.Sublist.cons)))⟩
        refine PlanTQ.mk SX ?_
        iterate 2 (refine wpT_free rfl rfl (.inl ⟨rfl, fun w _ => by go_simp; rfl⟩) (by assumption) ?_; (conv => arg 6; simp only [Act.put, List.setIfInBounds_toArray, List.set_cons_succ, List.set_cons_zero]))
        clear SX
        refine wpT_op rfl ?_
        refine wpList_stM (v := .slice S2 (ts.length + 1) e2) rfl rfl s46 rfl rfl rfl M (Swap.tail (Swap.tail Swap.head)) (by simp) ?_; clear M; intro wn M; (conv => arg 5; simp only [Act.put, List.setIfInBounds_toArray, List.set_cons_succ, List.set_cons_zero])
        go_wp2_with fail
        refine PlanTQ.mk ⟨_, M.sub (by (repeat (first | exact List.Sublist.refl _ | apply List.Sublist.cons_cons | apply List.Sublist.cons)))⟩ (wpT_done ?_)
        go_wp2_with fail
        go_end0
        simp only [List.set_cons_succ, List.set_cons_zero] at M
        exact ⟨rfl, HT.out.push HO.out hin hf HRO.out HR.out hd HND.out M (by (repeat (first | exact List.mem_cons_self | refine List.mem_cons_of_mem _ ?_))) (by (repeat (first | exact List.mem_cons_self | refine List.mem_cons_of_mem _ ?_))) (by (repeat (first | exact List.mem_cons_self | refine List.mem_cons_of_mem _ ?_)))⟩
end Go.Proofs.Ytcapfnbmmdbcoaa
namespace Go.Proofs.Ytcapfnbmmdbcoaa
open Go.RowKit
theorem FootK.same {K : Nat → Prop} {P : Res} {w w' : World} (hP : Ok P) (h : P K w) (hlt : ∀ b, K b → b < w.heap.size) (M : Mem w [] w' []) : FootK K P w w' :=
  ⟨M.os, M.tape, M.output, M.size, ⟨K, hP.keep h (fun b hb hl => M.old b hl (by simp)), fun b hb => ⟨.inl hb, Nat.lt_of_lt_of_le (hlt b hb) M.size⟩⟩, fun b hl _ => M.old b hl (by simp)⟩
theorem RefP.E_lt {K : Nat → Prop} {w : World} {m c e : Nat} {A S : Option Addr} {ts : List Tm} (h : RefP K w m A c S e ts) : ∀ b ∈ RefE m A S, K b ∧ b < w.heap.size := fun b hb => by
  have h' := h.lt
  simp only [RefE, List.mem_cons, List.mem_append] at hb
  rcases hb with rfl | hb | hb
  · exact h'.km
  · exact h'.kA b hb
  · exact h'.kS b hb
set_option maxRecDepth 100000 in
set_option maxHeartbeats 4000000 in
theorem Make45 (K : Nat → Prop) (m c e d : Nat) (A S B : Option Addr) (ts : List Tm) (t : Tm) (w : World) (T : RefP K w m A c S e ts) (hlt : ∀ b, K b → b < w.heap.size) (ht : TmOk t) (hr : RowT w 26 B (nums .u8 t.keys.flatten)) (hf : ts.length ≤ 900000) :
    Calls Try.prog 45 #[.pointer (some ⟨m, 0, none⟩), .int .i64 t.kind, .string t.text, .slice B t.keys.length d] w fun e w' => IsKey (nm ts t) e ∧ FootK K (refR m (putL ts t)) w w' := by
  have M0 := Mem.start w
  have HT := hid T
  have HO := hid ht
  have HR := hid hr
  have hfl := flat_len ht.ks
  have hkl := ht.kl
  have HLT := hid hlt
  clear T ht hr hlt
  by_cases hin : t ∈ ts
  · have HF := hid (show findT ts t = (ts.idxOf t : Int) from if_pos hin)
    have hil := List.idxOf_lt_length_of_mem hin
    have HNM := hid (show nm ts t = kn (ts.idxOf t) from nm_kn ts t)
    have HPL := hid (show putL ts t = ts from if_pos hin)
    clear hin
    go_enter Try.func45, Try.ntmps45
    go_upto_region 3 with (first | (refine wpList_alN z26 8 rfl rfl rfl M0 ?_; clear M0; intro b8 w1 M; (conv => arg 5; simp only [Act.put, List.setIfInBounds_toArray, List.set_cons_succ, List.set_cons_zero])) | (refine wpList_bsK0 13 rfl rfl rfl M ?_; clear M; intro b13 wn M; (conv => arg 5; simp only [Act.put, List.setIfInBounds_toArray, List.set_cons_succ, List.set_cons_zero])) | (refine wpList_appSm 15 rfl Try.underlying34 i26' rfl (by decide) rfl rfl rfl rfl M (fun A' cap' => Swap.head) (HR.out.mem (M.sub (List.nil_sublist _))) (by rw [nums_length, hfl]) (nums_one .u8 _) (by omega) (by omega) ?_; clear M; intro B2 d2 wn M; simp only [Nat.zero_add, List.nil_append] at M ⊢; (conv => arg 5; simp only [Act.put, List.setIfInBounds_toArray, List.set_cons_succ, List.set_cons_zero])) | (refine wpList_al rfl rfl M z95 rfl ?_; clear M; intro b9 wn M; (conv => arg 5; simp only [Act.put, List.setIfInBounds_toArray, List.set_cons_succ, List.set_cons_zero])) | (refine wpList_strow (vs := [.int .i64 t.kind, .string t.text, .slice B2 t.keys.length d2]) rfl rfl rfl rfl M Swap.head sz95 rfl (by simp [Value.oneCell']) ?_; clear M; intro wn M; (conv => arg 5; simp only [Act.put, List.setIfInBounds_toArray, List.set_cons_succ, List.set_cons_zero])) | (refine wpList_ldrow rfl rfl Try.underlying95 rfl rfl M List.mem_cons_self sz95 ?_; (conv => arg 5; simp only [Act.put, List.setIfInBounds_toArray, List.set_cons_succ, List.set_cons_zero])) | (go_at_call 69; refine (find69 K m c e d2 A S B2 ts t _ (HT.out.below M.below) HO.out (M.vecT (by (repeat (first | exact List.mem_cons_self | refine List.mem_cons_of_mem _ ?_))))).mono ?_; rintro e6 w6 ⟨rfl, M6⟩; replace M := M.call M6.below; clear M6; rw [HF.out]))
    go_wp2_with (first | (go_at_call 32; refine (kn_Name _ (by omega)).mono ?_; rintro e6 w6 ⟨rfl, M6⟩; replace M := M.call M6.below; clear M6) | (refine wpList_strowN s26 rfl rfl rfl rfl M (Swap.tail (Swap.tail Swap.head)) (by simp) (kn_len _) ?_; clear M; intro wn M; (conv => arg 5; simp only [Act.put, List.setIfInBounds_toArray, List.set_cons_succ, List.set_cons_zero])))
    (try simp only [Exit.inBlock, Exit.then])
    refine ret_rowN Try.underlying26 s26 rfl rfl rfl rfl M (by (repeat (first | exact List.mem_cons_self | refine List.mem_cons_of_mem _ ?_))) (kn_len _) ?_
    rw [HNM.out, HPL.out]
    exact ⟨rfl, FootK.same (refR_ok _ _) ⟨A, c, S, e, HT.out⟩ HLT.out (M.sub (List.nil_sublist _))⟩
  · have HF := hid (show findT ts t = -1 from if_neg hin)
    have HNM := hid (show nm ts t = kn ts.length from (nm_new hin).1)
    have HPL := hid (show putL ts t = ts ++ [t] from if_neg hin)
    have HIN := hid hin
    clear hin
    go_enter Try.func45, Try.ntmps45
    go_upto_region 3 with (first | (refine wpList_alN z26 8 rfl rfl rfl M0 ?_; clear M0; intro b8 w1 M; (conv => arg 5; simp only [Act.put, List.setIfInBounds_toArray, List.set_cons_succ, List.set_cons_zero])) | (refine wpList_bsK0 13 rfl rfl rfl M ?_; clear M; intro b13 wn M; (conv => arg 5; simp only [Act.put, List.setIfInBounds_toArray, List.set_cons_succ, List.set_cons_zero])) | (refine wpList_appSm 15 rfl Try.underlying34 i26' rfl (by decide) rfl rfl rfl rfl M (fun A' cap' => Swap.head) (HR.out.mem (M.sub (List.nil_sublist _))) (by rw [nums_length, hfl]) (nums_one .u8 _) (by omega) (by omega) ?_; clear M; intro B2 d2 wn M; simp only [Nat.zero_add, List.nil_append] at M ⊢; (conv => arg 5; simp only [Act.put, List.setIfInBounds_toArray, List.set_cons_succ, List.set_cons_zero])) | (refine wpList_al rfl rfl M z95 rfl ?_; clear M; intro b9 wn M; (conv => arg 5; simp only [Act.put, List.setIfInBounds_toArray, List.set_cons_succ, List.set_cons_zero])) | (refine wpList_strow (vs := [.int .i64 t.kind, .string t.text, .slice B2 t.keys.length d2]) rfl rfl rfl rfl M Swap.head sz95 rfl (by simp [Value.oneCell']) ?_; clear M; intro wn M; (conv => arg 5; simp only [Act.put, List.setIfInBounds_toArray, List.set_cons_succ, List.set_cons_zero])) | (refine wpList_ldrow rfl rfl Try.underlying95 rfl rfl M List.mem_cons_self sz95 ?_; (conv => arg 5; simp only [Act.put, List.setIfInBounds_toArray, List.set_cons_succ, List.set_cons_zero])) | (go_at_call 69; refine (find69 K m c e d2 A S B2 ts t _ (HT.out.below M.below) HO.out (M.vecT (by (repeat (first | exact List.mem_cons_self | refine List.mem_cons_of_mem _ ?_))))).mono ?_; rintro e6 w6 ⟨rfl, M6⟩; replace M := M.call M6.below; clear M6; rw [HF.out]))
    go_wp2_with (first | (refine wpList_ldrow rfl rfl Try.underlying95 rfl rfl M List.mem_cons_self sz95 ?_; (conv => arg 5; simp only [Act.put, List.setIfInBounds_toArray, List.set_cons_succ, List.set_cons_zero])) | (go_at_call 70; refine (Add70 K m c e d2 A S B2 ts t _ (HT.out.below M.below) HO.out (M.vecT (by (repeat (first | exact List.mem_cons_self | refine List.mem_cons_of_mem _ ?_)))) (M.vec_cap (cs := nums .u8 t.keys.flatten) (t := 26) (size := 32) (by (repeat (first | exact List.mem_cons_self | refine List.mem_cons_of_mem _ ?_)))) (M.vec_nil (cs := nums .u8 t.keys.flatten) (t := 26) (size := 32) (by (repeat (first | exact List.mem_cons_self | refine List.mem_cons_of_mem _ ?_)))) HIN.out hf).mono ?_; rintro e6 w6 ⟨rfl, A', c', S', e', T2, M6⟩; have HB2 := hid (M.vec_fresh (n := t.keys.length) (cap := d2) (t := 26) (size := 32) (cs := nums .u8 t.keys.flatten) (A := B2) (by (repeat (first | exact List.mem_cons_self | refine List.mem_cons_of_mem _ ?_)))); have hsz := M.size; have h81 := (M.fresh _ (show .blk b8 (rowO .u8 26 (List.replicate 32 0)) ∈ _ by (repeat (first | exact List.mem_cons_self | refine List.mem_cons_of_mem _ ?_))) b8 rfl).resolve_left (by simp); have h82 := Item.lt (M.holds _ (show .blk b8 (rowO .u8 26 (List.replicate 32 0)) ∈ _ by (repeat (first | exact List.mem_cons_self | refine List.mem_cons_of_mem _ ?_)))) (b := b8) rfl; have HAP := hid M.apart; have c5 : w6.cell? ⟨m, 0, none⟩ = some (.slice A' (ts ++ [t]).length c') := T2.cap.1; rw [List.length_append, List.length_singleton] at c5; replace M := M.callE M6 (fun b hb => (HT.out.E_lt b hb).2); clear M6) | (go_at_call 32; refine (kn_Name _ (by omega)).mono ?_; rintro e6 w7 ⟨rfl, M6⟩; have T3 := T2.below M6.below; replace M := M.call M6.below; clear M6 T2) | (refine wpList_strowNG s26 rfl rfl rfl rfl M (Swap.tail (Swap.tail Swap.head)) (by simp) (kn_len _) ?_; clear M; intro wn M hgr; (conv => arg 5; simp only [Act.put, List.setIfInBounds_toArray, List.set_cons_succ, List.set_cons_zero])))
    (try simp only [Exit.inBlock, Exit.then])
    refine ret_rowN Try.underlying26 s26 rfl rfl rfl rfl M (by (repeat (first | exact List.mem_cons_self | refine List.mem_cons_of_mem _ ?_))) (kn_len _) ?_
    rw [HNM.out, HPL.out]
    have h83 : b8 ∉ blkA B2 := fun hb => by
      simp only [blkA, Option.mem_toList, Option.map_eq_some_iff] at hb
      obtain ⟨ad, hB, hb⟩ := hb
      have h := (List.pairwise_cons.1 (List.pairwise_cons.1 HAP.out).2).1 (.blk b8 (rowO .u8 26 (List.replicate 32 0))) (by simp) ad.block (by rw [hB]; rfl)
      exact h (by rw [hb]; rfl)
    have T4 := T3.keep (w' := wn) (fun b hb hl => hgr.block b hl (fun e => by
      simp only [Option.some.injEq] at e
      subst e
      rcases hb with hb | hb | hb
      · have := HLT.out _ hb
        omega
      · omega
      · exact h83 hb))
    refine ⟨rfl, M.os, M.tape, M.output, M.size, ⟨_, ⟨A', c', S', e', T4.lt⟩, fun b hb => ⟨?_, hb.2⟩⟩, fun b hl hn => M.old b hl (fun hin => hn (HT.out.E_lt b hin).1)⟩
    rcases hb.1 with hb | hb | hb
    · exact .inl hb
    · exact .inr (by omega)
    · simp only [blkA, Option.mem_toList, Option.map_eq_some_iff] at hb
      obtain ⟨ad, hB, rfl⟩ := hb
      exact .inr (HB2.out ad hB)
theorem MakeK {m : Nat} {ts : List Tm} {K : Nat → Prop} {w : World} (h : refR m ts K w) (hlt : ∀ b, K b → b < w.heap.size) {t : Tm} {B : Option Addr} {d : Nat} (ht : TmOk t) (hr : RowT w 26 B (nums .u8 t.keys.flatten)) (hf : ts.length ≤ 900000) :
    Calls Try.prog 45 #[.pointer (some ⟨m, 0, none⟩), .int .i64 t.kind, .string t.text, .slice B t.keys.length d] w fun e w' => IsKey (nm ts t) e ∧ FootK K (refR m (putL ts t)) w w' := by
  obtain ⟨A, c, S, e, T⟩ := h
  exact Make45 K m c e d A S B ts t w T hlt ht hr hf
end Go.Proofs.Ytcapfnbmmdbcoaa
namespace Go.Proofs.Ytcapfnbmmdbcoaa
open Go.RowKit
/-- What a key is made of. -/
def lookT (ts : List Tm) (k : List Int) : Tm := if 0 ≤ numT ts.length k then (ts[(numT ts.length k).toNat]?).getD ⟨0, ⟨#[]⟩, [k]⟩ else ⟨0, ⟨#[]⟩, [k]⟩
def LookR (K : Nat → Prop) (w : World) (t : Tm) (e : Ending) (w' : World) : Prop :=
  ∃ B d, e = .returned (.agg #[.int .i64 t.kind, .string t.text, .slice B t.keys.length d]) ∧ t.keys.length ≤ d ∧ (B = none → d = 0) ∧ RowT w' 26 B (nums .u8 t.keys.flatten) ∧ (t.keys ≠ [] → ∀ ad, B = some ad → K ad.block ∨ w.heap.size ≤ ad.block) ∧ Mem w [] w' []
/-- The end of a function whose result is a struct. -/
theorem ret_rowC {P : Program} {a : Act} {w w0 : World} {E : List Nat} {L : List Item} {fn : Func} {R : Ending → World → Prop} {ty : TypeId} {d : TypeDesc} {n : Nat} (hu : P.underlying ty = some d) (hsz : (P.info? ty).map (·.size) = some n) {p : Tmp} (hres : fn.results = #[.cell p ty]) (hd : d.isRow = true) {g : Nat}
    (hp : a.tmps.getD p undef = .pointer (some ⟨g, 0, none⟩)) (hdef : a.defers = []) (M : Mem w0 E w L) {t : TypeId} {cs : List Value} (hin : .blk g (cellsO t cs) ∈ L) (hn : cs.length = n)
    (hR : R (.returned (.agg cs.toArray)) w) : bodyPost P fn R .ret a w :=
  bodyPost_ret (results_cell_row hres a.tmps w g t cs.toArray (0, 0) d hp (M.holds _ hin) hu (by cases d <;> simp_all [TypeDesc.isRow]) (by rw [hsz]; simp [hn])) hdef hR
theorem RefP.kget {K : Nat → Prop} {w : World} {m c e : Nat} {A S : Option Addr} {ts : List Tm} (h : RefP K w m A c S e ts) {i : Nat} {t : Tm} (hi : ts[i]? = some t) :
    ∃ b B d, A = some ⟨b, 0, none⟩ ∧ (∀ (j : Nat) (v : Value), [Value.int .i64 t.kind, .string t.text, .slice B t.keys.length d][j]? = some v → w.cell? ⟨b, i * 3 + j, none⟩ = some v) ∧ t.keys.length ≤ d ∧ (B = none → d = 0) ∧ RowT w 26 B (nums .u8 t.keys.flatten) ∧ (t.keys ≠ [] → ∀ ad, B = some ad → K ad.block) := by
  obtain ⟨cs, ho, hcs⟩ := h.row
  obtain ⟨B, d, a1, a2, a3, a4, a5, a6, a7⟩ := hcs i t hi
  obtain ⟨b, B2, d2, hA, hc, _⟩ := h.get hi
  have h2 := hc 2 _ rfl
  rcases ho.2 with ⟨h', hn⟩ | ⟨b', cap, cur, h', _⟩
  · have := (List.getElem?_eq_some_iff.1 hi).1
    omega
  · injection h' with e1 _ _
    rw [hA] at e1
    injection e1 with e1
    injection e1 with e1 _ _
    subst hA e1
    have := ho.cells (g := b) rfl _ _ a3
    rw [Addr.add_lit, Nat.zero_add, show 3 * i + 2 = i * 3 + 2 from by omega, h2] at this
    injection this with this
    injection this with q1 _ q3
    subst q1 q3
    exact ⟨b, B2, d2, rfl, hc, a4, a5, a6, a7⟩
set_option maxRecDepth 100000 in
set_option maxHeartbeats 4000000 in
theorem Look58 (K : Nat → Prop) (m c e : Nat) (A S : Option Addr) (ts : List Tm) (k : List Int) (w : World) (T : RefP K w m A c S e ts) (hk : KeyOk k) :
    Calls Try.prog 58 #[.pointer (some ⟨m, 0, none⟩), .agg (nums .u8 k).toArray] w (LookR K w (lookT ts k)) := by
  have M0 := Mem.start w
  have HT := hid T
  have HK := hid hk
  have hn : ts.length ≤ 1000000 := T.few
  have HC := hid T.cap.1
  clear T hk
  rcases numT_cases ts.length k HK.out with hm | ⟨i, hi, hm⟩
  · have HM := hid hm
    rw [show lookT ts k = ⟨0, ⟨#[]⟩, [k]⟩ from by rw [lookT, hm, if_neg (by decide)]]
    clear hm
    go_enter Try.func58, Try.ntmps58
    go_upto_region 2 with (first | (refine wpList_bxN 3 rfl rfl rfl rfl M0 ?_; clear M0; intro b3 w1 M; (conv => arg 5; simp only [Act.put, List.setIfInBounds_toArray, List.set_cons_succ, List.set_cons_zero])) | (refine wpList_al rfl rfl M z95 rfl ?_; clear M; intro b4 w2 M; (conv => arg 5; simp only [Act.put, List.setIfInBounds_toArray, List.set_cons_succ, List.set_cons_zero])) | (refine wpList_ldrowN Try.underlying26 s26 rfl rfl rfl rfl M (by (repeat (first | exact List.mem_cons_self | refine List.mem_cons_of_mem _ ?_))) HK.out.1 ?_; (conv => arg 5; simp only [Act.put, List.setIfInBounds_toArray, List.set_cons_succ, List.set_cons_zero])) | (go_at_call 59; refine (Number59 m ts.length c _ k _ (M.cell0 HC.out) HK.out.1 HK.out.2 hn).mono ?_; rintro e6 w6 ⟨rfl, M6⟩; replace M := M.call M6.below; clear M6; rw [HM.out]))
    go_wp2_with (first | (refine wpList_ldrowN Try.underlying26 s26 rfl rfl rfl rfl M (by (repeat (first | exact List.mem_cons_self | refine List.mem_cons_of_mem _ ?_))) HK.out.1 ?_; (conv => arg 5; simp only [Act.put, List.setIfInBounds_toArray, List.set_cons_succ, List.set_cons_zero])) | (refine wpList_bsK1 12 rfl rfl rfl rfl HK.out M ?_; clear M; intro b12 w5 M; (conv => arg 5; simp only [Act.put, List.setIfInBounds_toArray, List.set_cons_succ, List.set_cons_zero])) | (refine wpList_strow (vs := [.int .i64 0, .string ⟨#[]⟩, .slice (some ⟨b12, 0, none⟩) 1 1]) rfl rfl rfl rfl M (Swap.tail Swap.head) sz95 rfl (by simp [Value.oneCell']) ?_; clear M; intro w7 M; (conv => arg 5; simp only [Act.put, List.setIfInBounds_toArray, List.set_cons_succ, List.set_cons_zero])))
    (try simp only [Exit.inBlock, Exit.then])
    refine ret_rowC Try.underlying95 sz95 rfl rfl rfl rfl M (cs := [.int .i64 0, .string ⟨#[]⟩, .slice (some ⟨b12, 0, none⟩) 1 1]) (by (repeat (first | exact List.mem_cons_self | refine List.mem_cons_of_mem _ ?_))) rfl ?_
    exact ⟨some ⟨b12, 0, none⟩, 1, rfl, by simp, fun h => (by cases h), M.blkT (by (repeat (first | exact List.mem_cons_self | refine List.mem_cons_of_mem _ ?_))), fun _ ad hB => Or.inr (by injection hB with hB; subst hB; exact (M.fresh _ (show .blk b12 (rowO .u8 26 [k].flatten) ∈ _ by (repeat (first | exact List.mem_cons_self | refine List.mem_cons_of_mem _ ?_))) b12 rfl).resolve_left (by simp)), M.sub (List.nil_sublist _)⟩
  · have HM := hid hm
    obtain ⟨t, hte⟩ : ∃ t, ts[i]? = some t := ⟨ts[i], List.getElem?_eq_getElem hi⟩
    rw [show lookT ts k = t from by rw [lookT, hm, if_pos (by omega), Int.toNat_natCast, hte]; rfl]
    obtain ⟨bT, B, d, hA, hct, hd, hBn, hBr, hBK⟩ := HT.out.kget hte
    subst hA
    have HCT := hid hct
    have HBN := hid hBn
    have HBR := hid hBr
    have HBK := hid hBK
    have hiI : (i : Int) < (ts.length : Int) := by omega
    clear hm hte hct hBn hBr hBK
    go_enter Try.func58, Try.ntmps58
    go_upto_region 2 with (first | (refine wpList_bxN 3 rfl rfl rfl rfl M0 ?_; clear M0; intro b3 w1 M; (conv => arg 5; simp only [Act.put, List.setIfInBounds_toArray, List.set_cons_succ, List.set_cons_zero])) | (refine wpList_al rfl rfl M z95 rfl ?_; clear M; intro b4 w2 M; (conv => arg 5; simp only [Act.put, List.setIfInBounds_toArray, List.set_cons_succ, List.set_cons_zero])) | (refine wpList_ldrowN Try.underlying26 s26 rfl rfl rfl rfl M (by (repeat (first | exact List.mem_cons_self | refine List.mem_cons_of_mem _ ?_))) HK.out.1 ?_; (conv => arg 5; simp only [Act.put, List.setIfInBounds_toArray, List.set_cons_succ, List.set_cons_zero])) | (go_at_call 59; refine (Number59 m ts.length c _ k _ (M.cell0 HC.out) HK.out.1 HK.out.2 hn).mono ?_; rintro e6 w6 ⟨rfl, M6⟩; replace M := M.call M6.below; clear M6; rw [HM.out]))
    have cA := M.cell0 HC.out
    go_wp2_with (first | (refine wpList_ldagg 20 rfl Try.underlying95 rfl rfl rfl rfl (M.cells0 HCT.out) sz95 ?_; (conv => arg 5; simp only [Act.put, List.setIfInBounds_toArray, List.set_cons_succ, List.set_cons_zero])) | (refine wpList_strow (vs := [.int .i64 t.kind, .string t.text, .slice B t.keys.length d]) rfl rfl rfl rfl M Swap.head sz95 rfl (by simp [Value.oneCell']) ?_; clear M cA; intro w7 M; (conv => arg 5; simp only [Act.put, List.setIfInBounds_toArray, List.set_cons_succ, List.set_cons_zero])))
    (try simp only [Exit.inBlock, Exit.then])
    refine ret_rowC Try.underlying95 sz95 rfl rfl rfl rfl M (cs := [.int .i64 t.kind, .string t.text, .slice B t.keys.length d]) (by (repeat (first | exact List.mem_cons_self | refine List.mem_cons_of_mem _ ?_))) rfl ?_
    exact ⟨B, d, rfl, hd, HBN.out, HBR.out.mem M, fun hne ad hB => .inl (HBK.out hne ad hB), M.sub (List.nil_sublist _)⟩
end Go.Proofs.Ytcapfnbmmdbcoaa
namespace Go.Proofs.Ytcapfnbmmdbcoaa
open Go.RowKit
section
variable {K K' : Nat → Prop} {P : Res} {w w1 w' : World}
/-- What a call made joins a later foot. -/
theorem FootK.after (M : Mem w [] w1 []) (F : FootK K P w1 w') (hlt : ∀ b, K b → b < w.heap.size) : FootK K P w w' :=
  ⟨F.os.trans M.os, F.tape.trans M.tape, F.output.trans M.output, Nat.le_trans M.size F.size, (by
    obtain ⟨K', h1, h2⟩ := F.run
    exact ⟨K', h1, fun b hb => ⟨(h2 b hb).1.imp id (fun h => Nat.le_trans M.size h), (h2 b hb).2⟩⟩),
    fun b hl hn => (F.old b (Nat.lt_of_lt_of_le hl M.size) hn).trans (M.old b hl (by simp))⟩
/-- Items stay where a call's foot is elsewhere. -/
theorem Mem.foot {w0 : World} {L : List Item} (M : Mem w0 [] w L) (F : FootK K P w w') (hK : ∀ b, K b → b < w0.heap.size) : ∃ E, Mem w0 E w' L ∧ ∀ b ∈ E, K b := by
  classical
  refine ⟨(List.range w0.heap.size).filter (fun b => decide (K b)), ⟨F.os.trans M.os, F.tape.trans M.tape, F.output.trans M.output, Nat.le_trans M.size F.size, fun i hi hn => ?_, fun x hx => Item.stays (M.holds x hx) (fun b hxb => F.old b (Item.lt (M.holds x hx) hxb) (fun hk => ?_)), fun x hx b hxb => .inr ((M.fresh x hx b hxb).resolve_left (by simp)), M.apart⟩, fun b hb => ?_⟩
  · rw [F.old i (Nat.lt_of_lt_of_le hi M.size) (fun hk => hn (by simp [hi, hk])), M.old i hi (by simp)]
  · have := hK b hk
    have := (M.fresh x hx b hxb).resolve_left (by simp)
    omega
  · simpa using (List.mem_filter.1 hb).2
/-- Behind a foot only new memory was made. -/
theorem FootK.new (F : FootK K P w w') (hP : Ok P) {w2 : World} (M : Mem w' [] w2 []) : FootK K P w w2 := by
  obtain ⟨K', h1, h2⟩ := F.run
  exact ⟨M.os.trans F.os, M.tape.trans F.tape, M.output.trans F.output, Nat.le_trans F.size M.size, ⟨K', hP.keep h1 (fun b hb hl => M.old b hl (by simp)), fun b hb => ⟨(h2 b hb).1, Nat.lt_of_lt_of_le (h2 b hb).2 M.size⟩⟩, fun b hl hn => (M.old b (Nat.lt_of_lt_of_le hl F.size) (by simp)).trans (F.old b hl hn)⟩
/-- A call's foot, then a store into a block of the caller's own. -/
theorem FootK.fin {wi w2 : World} {L : List Item} {g : Nat} (M : Mem w [] wi L) (F : FootK K P wi w') (hP : Ok P) (hlt : ∀ b, K b → b < w.heap.size) (h1 : w.heap.size ≤ g) (h2 : g < wi.heap.size) (hg : w'.grownBy w2 (some g)) : FootK K P w w2 := by
  obtain ⟨K', a1, a2⟩ := F.run
  have F0 := FootK.after (M.sub (List.nil_sublist _)) F hlt
  refine ⟨hg.os.trans F0.os, hg.tape.trans F0.tape, hg.output.trans F0.output, Nat.le_trans F0.size hg.size, ⟨K', hP.keep a1 (fun b hb hl => hg.block b hl (fun e => ?_)), fun b hb => ⟨(a2 b hb).1.imp id (fun h => Nat.le_trans M.size h), Nat.lt_of_lt_of_le (a2 b hb).2 hg.size⟩⟩, fun b hl hn => ?_⟩
  · simp only [Option.some.injEq] at e
    subst e
    rcases (a2 _ hb).1 with h | h
    · have := hlt _ h
      omega
    · omega
  · rw [hg.block b (Nat.lt_of_lt_of_le hl F0.size) (fun e => by simp only [Option.some.injEq] at e; omega)]
    exact F0.old b hl hn
end
set_option maxRecDepth 100000 in
set_option maxHeartbeats 4000000 in
theorem Seal47 {m : Nat} {ts : List Tm} {K : Nat → Prop} {w : World} (h : refR m ts K w) (hlt : ∀ b, K b → b < w.heap.size) {text : ByteArray} {k l : List Int} {B : Option Addr} {d : Nat} {ks : List (List Int)} (ht : text.size ≤ 1000) (hk : KeyOk k) (hkl : KeyOk l) (hks : ∀ k ∈ ks, KeyOk k) (hl : ks.length ≤ 900) (hr : RowT w 26 B (nums .u8 ks.flatten)) (hf : ts.length ≤ 900000) :
    Calls Try.prog 47 #[.pointer (some ⟨m, 0, none⟩), .agg (nums .u8 k).toArray, .agg (nums .u8 l).toArray, .string text, .slice B ks.length d] w fun e w' => IsStr (strOfNums (nm ts ⟨6, text, k :: l :: ks⟩)) e ∧ FootK K (refR m (putL ts ⟨6, text, k :: l :: ks⟩)) w w' := by
  have M0 := Mem.start w
  have HH := hid h
  have HOK := hid (show TmOk ⟨6, text, k :: l :: ks⟩ from tmOk (by decide) (by decide) ht (by simp; omega) (by simpa using ⟨hk, hkl, hks⟩))
  have HK := hid hk
  have HL := hid hkl
  have HR := hid hr
  have HLT := hid hlt
  have hfl := flat_len hks
  have hf2 : (nums .u8 [k, l].flatten).length = 2 * 32 := by rw [nums_length]; simp [hk.1, hkl.1]
  have HF2 := hid hf2
  have hlen : 2 + ks.length = (k :: l :: ks).length := by simp; omega
  have hap : nums .u8 [k, l].flatten ++ nums .u8 ks.flatten = nums .u8 (k :: l :: ks).flatten := by simp [nums]
  have HAP := hid hap
  have HLEN := hid hlen
  have HNM := hid (nm_kn ts ⟨6, text, k :: l :: ks⟩)
  clear h hk hkl hr hlt hap hf2 hlen
  go_enter Try.func47, Try.ntmps47
  go_wp2_with (first | (refine wpList_bxN 6 rfl rfl rfl rfl M0 ?_; clear M0; intro b6 w1 M; (conv => arg 5; simp only [Act.put, List.setIfInBounds_toArray, List.set_cons_succ, List.set_cons_zero])) | (refine wpList_bxN 7 rfl rfl rfl rfl M ?_; clear M; intro b7 w2 M; (conv => arg 5; simp only [Act.put, List.setIfInBounds_toArray, List.set_cons_succ, List.set_cons_zero])) | (refine wpList_ldrowN Try.underlying26 s26 rfl rfl rfl rfl M (by (repeat (first | exact List.mem_cons_self | refine List.mem_cons_of_mem _ ?_))) (by first | exact HK.out.1 | exact HL.out.1) ?_; (conv => arg 5; simp only [Act.put, List.setIfInBounds_toArray, List.set_cons_succ, List.set_cons_zero])) | (refine wpList_bsK2 16 rfl rfl rfl rfl rfl HK.out HL.out M ?_; clear M; intro b16 w3 M; (conv => arg 5; simp only [Act.put, List.setIfInBounds_toArray, List.set_cons_succ, List.set_cons_zero])) | (refine wpList_appSm 17 rfl Try.underlying34 i26' rfl (by decide) rfl rfl rfl rfl (M.nil 26 32) (fun A' cap' => Swap.head) (M.blkT List.mem_cons_self) HF2.out (nums_one .u8 _) (by omega) (by omega) ?_; clear M; intro A1 c1 w4 M; simp only [Nat.zero_add, List.nil_append] at M ⊢; (conv => arg 5; simp only [Act.put, List.setIfInBounds_toArray, List.set_cons_succ, List.set_cons_zero])) | (refine wpList_appSm 20 rfl Try.underlying34 i26' rfl (by decide) rfl rfl rfl rfl M (fun A' cap' => Swap.head) (HR.out.mem (M.sub (List.nil_sublist _))) (by rw [nums_length, hfl]) (nums_one .u8 _) (by omega) (by omega) ?_; clear M; intro A2 c2 w5 M; rw [HAP.out] at M; rw [HLEN.out]; (conv => arg 5; simp only [Act.put, List.setIfInBounds_toArray, List.set_cons_succ, List.set_cons_zero])) | (go_at_call 45; refine (MakeK (t := ⟨6, text, k :: l :: ks⟩) ((refR_ok _ _).keep HH.out (fun b hb hl => M.old b hl (by simp))) (fun b hb => Nat.lt_of_lt_of_le (HLT.out b hb) M.size) HOK.out (M.vecT (by (repeat (first | exact List.mem_cons_self | refine List.mem_cons_of_mem _ ?_)))) hf).mono ?_; rintro e6 w6 ⟨he6, F6⟩; obtain rfl := he6; rw [HNM.out]; have F := FootK.after (M.sub (List.nil_sublist _)) F6 HLT.out; have N := Mem.start w6; clear F6 M) | (refine wpList_alN z26 12 rfl rfl rfl N ?_; clear N; intro b12 w7 N; (conv => arg 5; simp only [Act.put, List.setIfInBounds_toArray, List.set_cons_succ, List.set_cons_zero])) | (refine wpList_strowN s26 rfl rfl rfl rfl N Swap.head rfl (kn_len _) ?_; clear N; intro w8 N; (conv => arg 5; simp only [Act.put, List.setIfInBounds_toArray, List.set_cons_succ, List.set_cons_zero])) | (refine wpList_slW Try.underlying26 s5 (by decide) rfl rfl rfl ?_; (conv => arg 5; simp only [Act.put, List.setIfInBounds_toArray, List.set_cons_succ, List.set_cons_zero])) | (refine wpList_cvS Try.underlying37 Try.underlying5 Try.underlying9 rfl rfl rfl N List.mem_cons_self (by rw [kn_len]; decide) ?_; rw [List.drop_zero, List.take_of_length_le (by rw [kn_len]; decide)]; (conv => arg 5; simp only [Act.put, List.setIfInBounds_toArray, List.set_cons_succ, List.set_cons_zero])))
  go_ret
  rw [HNM.out]
  exact ⟨rfl, F.new (refR_ok _ _) (N.sub (List.nil_sublist _))⟩
end Go.Proofs.Ytcapfnbmmdbcoaa
namespace Go.Proofs.Ytcapfnbmmdbcoaa
open Go.RowKit
set_option maxRecDepth 100000 in
set_option maxHeartbeats 4000000 in
theorem Mark52k (m : Nat) (s : ByteArray) (w : World) (hs : s.size = 32) : Calls Try.prog 52 #[.pointer (some ⟨m, 0, none⟩), .string s] w (KeyR (bytesOf s) w) := by
  have M0 := Mem.start w
  have HS := hid hs
  have HBL := hid (show (bytesOf s).length = 32 from by rw [bytesOf_length, hs])
  have hsI : (s.size : Int) = 32 := by omega
  clear hs
  go_enter Try.func52, Try.ntmps52
  go_wp2_with (first | (refine wpList_alN z26 4 rfl rfl rfl M0 (fun b4 w1 M1 => ?_); clear M0; (conv => arg 5; simp only [Act.put, List.setIfInBounds_toArray, List.set_cons_succ, List.set_cons_zero])) | (refine wpList_alN z26 5 rfl rfl rfl M1 (fun b5 w2 M2 => ?_); clear M1; (conv => arg 5; simp only [Act.put, List.setIfInBounds_toArray, List.set_cons_succ, List.set_cons_zero])))
  go_loopw [6] (fun n wr => ∃ i : Nat, i ≤ 32 ∧ n = .int .i64 i ∧ Mem w [] wr [.blk b5 (rowO .u8 26 ((bytesOf s).take i ++ List.replicate (32 - i) 0)), .blk b4 (rowO .u8 26 (List.replicate 32 0))]) (fun n _ => 32 - (intOf n).toNat)
  case atStart => exact ⟨0, by omega, rfl, M2⟩
  case round =>
    obtain ⟨i, hi, rfl, Mi⟩ := hrel
    clear M2
    by_cases hlt : i < 32
    · have hltI : (i : Int) < 32 := by omega
      have hl1 : ((bytesOf s).take i ++ List.replicate (32 - i) (0 : Int)).length = 32 := by
        have := HBL.out
        simp only [List.length_append, List.length_take, List.length_replicate]
        omega
      have hlt2 : i < s.size := by rw [HS.out]; exact hlt
      go_wp2_with (first | (refine wpList_stN (v := rd (bytesOf s) i) s5 rfl rfl rfl rfl Mi Swap.head (by rw [hl1]; exact hlt) (fun w3 M3 => ?_); (conv => arg 5; simp only [Act.put, List.setIfInBounds_toArray, List.set_cons_succ, List.set_cons_zero])))
      go_round
      case rel =>
        refine ⟨i + 1, by omega, by go_num, ?_⟩
        have h1 := fill_set ((bytesOf s).take i) (32 - i) i (rd (bytesOf s) i) (by have := HBL.out; rw [List.length_take]; omega) (by omega)
        have h2 : (bytesOf s).take (i + 1) = (bytesOf s).take i ++ [rd (bytesOf s) i] := by
          have hl : i < (bytesOf s).length := by rw [HBL.out]; exact hlt
          rw [List.take_succ_eq_append_getElem hl, rd, List.getD_eq_getElem?_getD, List.getElem?_eq_getElem hl]
          rfl
        rw [h1, show 32 - i - 1 = 32 - (i + 1) from by omega, ← h2] at M3
        exact M3
      case measure => simp [intOf]; omega
    · obtain rfl : i = 32 := by omega
      rw [List.take_of_length_le (by rw [HBL.out]; exact Nat.le_refl _), show List.replicate (32 - 32) (0 : Int) = [] from rfl, List.append_nil] at Mi
      go_wp2_with (first | (refine wpList_ldrowN Try.underlying26 s26 rfl rfl rfl rfl Mi List.mem_cons_self HBL.out ?_; (conv => arg 5; simp only [Act.put, List.setIfInBounds_toArray, List.set_cons_succ, List.set_cons_zero])) | (refine wpList_strowN s26 rfl rfl rfl rfl Mi (Swap.tail Swap.head) (by simp) HBL.out (fun w3 M3 => ?_); (conv => arg 5; simp only [Act.put, List.setIfInBounds_toArray, List.set_cons_succ, List.set_cons_zero])))
      (try simp only [Exit.inBlock, Exit.then])
      refine ret_rowN Try.underlying26 s26 rfl rfl rfl rfl M3 (List.mem_cons_of_mem _ List.mem_cons_self) HBL.out ?_
      exact ⟨rfl, M3.sub (List.nil_sublist _)⟩
set_option maxRecDepth 100000 in
set_option maxHeartbeats 4000000 in
theorem Mark52h {m : Nat} {ts : List Tm} {K : Nat → Prop} {w : World} (h : refR m ts K w) (hlt : ∀ b, K b → b < w.heap.size) {s : ByteArray} (hs : s.size ≠ 32) (ht : s.size ≤ 900) (hf : ts.length ≤ 900000) :
    Calls Try.prog 52 #[.pointer (some ⟨m, 0, none⟩), .string s] w fun e w' => IsKey (nm ts ⟨2, boxS s, []⟩) e ∧ FootK K (refR m (putL ts ⟨2, boxS s, []⟩)) w w' := by
  have M0 := Mem.start w
  have HH := hid h
  have HLT := hid hlt
  have hbs := boxS_size s
  have hne : ((s.size : Int) != 32) = true := by simpa using (show ¬ (s.size : Int) = 32 from by omega)
  have hb3 : ByteArray.size ⟨#[98, 111, 120]⟩ + s.size ≤ 1000 := by rw [← ByteArray.size_append]; exact (show (boxS s).size ≤ 1000 from by omega)
  have HOK := hid (show TmOk ⟨2, boxS s, []⟩ from tmOk (by decide) (by decide) (by omega) (by simp) (by simp))
  have HNM := hid (nm_kn ts ⟨2, boxS s, []⟩)
  clear h hbs hlt
  go_enter Try.func52, Try.ntmps52
  go_wp2_with (first | (refine wpList_alN z26 4 rfl rfl rfl M0 ?_; clear M0; intro b4 w1 M; (conv => arg 5; simp only [Act.put, List.setIfInBounds_toArray, List.set_cons_succ, List.set_cons_zero])) | (go_at_call 45; refine (MakeK (t := ⟨2, boxS s, []⟩) (B := none) (d := 0) ((refR_ok _ _).keep HH.out (fun b hb hl => M.old b hl (by simp))) (fun b hb => Nat.lt_of_lt_of_le (HLT.out b hb) M.size) HOK.out RowT.nil hf).mono ?_; rintro e6 w6 ⟨he6, F⟩; obtain rfl := he6; rw [HNM.out]; obtain ⟨E, N, _⟩ := M.foot F HLT.out; have h41 := (M.fresh _ List.mem_cons_self b4 rfl).resolve_left (by simp); have h42 := Item.lt (M.holds _ List.mem_cons_self) (b := b4) rfl) | (refine wpList_strowNG s26 rfl rfl rfl rfl N Swap.head (by simp) (kn_len _) ?_; clear N; intro w7 N hgr; (conv => arg 5; simp only [Act.put, List.setIfInBounds_toArray, List.set_cons_succ, List.set_cons_zero])))
  (try simp only [Exit.inBlock, Exit.then])
  refine ret_rowN Try.underlying26 s26 rfl rfl rfl rfl N List.mem_cons_self (kn_len _) ?_
  rw [HNM.out]
  exact ⟨rfl, FootK.fin M F (refR_ok _ _) HLT.out h41 h42 hgr⟩
set_option maxRecDepth 100000 in
set_option maxHeartbeats 4000000 in
theorem Agree54z (m : Nat) (s : List Int) (w : World) (hs : KeyOk s) :
    Calls Try.prog 54 #[.pointer (some ⟨m, 0, none⟩), .agg (nums .u8 s).toArray, .agg (nums .u8 zK).toArray] w (Key2R zK false w) := by
  have M0 := Mem.start w
  have HS := hid hs
  have HP := hid zK_ok
  clear hs
  go_enter Try.func54, Try.ntmps54
  go_wp2_with (first | (refine wpList_bxN 4 rfl rfl rfl rfl M0 (fun b4 w1 M1 => ?_); clear M0; (conv => arg 5; simp only [Act.put, List.setIfInBounds_toArray, List.set_cons_succ, List.set_cons_zero])) | (refine wpList_bxN 5 rfl rfl rfl rfl M1 (fun b5 w2 M2 => ?_); clear M1; (conv => arg 5; simp only [Act.put, List.setIfInBounds_toArray, List.set_cons_succ, List.set_cons_zero])) | (refine wpList_alN z26 6 rfl rfl rfl M2 (fun b6 w3 M3 => ?_); clear M2; (conv => arg 5; simp only [Act.put, List.setIfInBounds_toArray, List.set_cons_succ, List.set_cons_zero])) | (refine wpList_ldrowN Try.underlying26 s26 rfl rfl rfl rfl M3 (List.mem_cons_of_mem _ List.mem_cons_self) HP.out.1 ?_; (conv => arg 5; simp only [Act.put, List.setIfInBounds_toArray, List.set_cons_succ, List.set_cons_zero])) | (refine wpList_bld (vs := #[]) b26z rfl rfl rfl ?_; (conv => arg 5; simp only [Act.put, List.setIfInBounds_toArray, List.set_cons_succ, List.set_cons_zero])) | (refine wpList_eq26 11 rfl rfl rfl rfl rfl HP.out.1 zK_ok.1 ?_; rw [decide_eq_true (rfl : zK = zK)]; (conv => arg 5; simp only [Act.put, List.setIfInBounds_toArray, List.set_cons_succ, List.set_cons_zero])) | (refine wpList_strowN (ys := zK) s26 rfl rfl rfl rfl M3 Swap.head rfl zK_ok.1 (fun w7 M8 => ?_); clear M3; (conv => arg 5; simp only [Act.put, List.setIfInBounds_toArray, List.set_cons_succ, List.set_cons_zero])))
  try simp only [Exit.inBlock, Exit.then]
  refine ret_row2 Try.underlying26 s26 rfl rfl rfl rfl rfl M8 List.mem_cons_self zK_ok.1 ?_
  exact ⟨rfl, M8.sub (List.nil_sublist _)⟩
theorem agreeT_look (ts : List Tm) (s p : List Int) : agreeT ts s p = if (lookT ts p).kind = 3 then pairT s ((lookT ts p).keys.getD 0 []) else oddT s p := by
  unfold agreeT lookT
  by_cases h : 0 ≤ numT ts.length p
  · rw [if_pos h, if_pos h]
    cases ts[(numT ts.length p).toNat]? with
    | none => rfl
    | some t => rfl
  · rw [if_neg h, if_neg h]
    rfl
theorem lookT_ok {K : Nat → Prop} {w : World} {m c e : Nat} {A S : Option Addr} {ts : List Tm} (T : RefP K w m A c S e ts) {k : List Int} (hk : KeyOk k) : TmOk (lookT ts k) := by
  unfold lookT
  split
  · cases hi : ts[(numT ts.length k).toNat]? with
    | none => exact tmOk (by decide) (by decide) (by decide) (by simp) (by simpa using hk)
    | some t => exact T.ok t (List.mem_of_getElem? hi)
  · exact tmOk (by decide) (by decide) (by decide) (by simp) (by simpa using hk)
theorem lookT_w {ts : List Tm} (hw : ∀ t ∈ ts, TmW t) (k : List Int) : TmW (lookT ts k) := by
  unfold lookT
  split
  · cases hi : ts[(numT ts.length k).toNat]? with
    | none => exact tmw_oth (by simp) (by simp) (by simp)
    | some t => exact hw t (List.mem_of_getElem? hi)
  · exact tmw_oth (by simp) (by simp) (by simp)
end Go.Proofs.Ytcapfnbmmdbcoaa
namespace Go.Proofs.Ytcapfnbmmdbcoaa
open Go.RowKit
theorem Mem.again {w0 w : World} {E : List Nat} {L : List Item} (M : Mem w0 E w L) : Mem w (blks L) w L :=
  ⟨rfl, rfl, rfl, Nat.le_refl _, fun _ _ _ => rfl, M.holds, fun x hx b hb => .inl (mem_blks.2 ⟨x, hx, hb⟩), M.apart⟩
theorem Mem.rejoin {w0 w w' : World} {L L' : List Item} (M : Mem w0 [] w L) (R : Mem w (blks L) w' L') : Mem w0 [] w' L' :=
  (TS.step (P := fun _ _ => True) ⟨⟨fun _ => False, trivial, fun b h => h.elim, fun x _ b _ h => h⟩, M⟩ ⟨fun _ _ => trivial⟩ R).mem
/-- A row stays where the items lie elsewhere. -/
theorem RowT.elsewhere {w w' : World} {E : List Nat} {L : List Item} {t : TypeId} {A : Option Addr} {cs : List Value} (h : RowT w t A cs) (M : Mem w E w' L) (hE : ∀ ad, A = some ad → cs ≠ [] → ad.block ∉ E) : RowT w' t A cs := fun i v hi => by
  obtain ⟨b, off, arr, mk, hA, hh, hv⟩ := h i v hi
  refine ⟨b, off, arr, mk, hA, ?_, hv⟩
  rw [M.old b (Array.getElem?_eq_some_iff.1 hh).1 (hE _ hA (fun h => by rw [h] at hi; simp at hi)), hh]
theorem Mem.blks_lt {w0 w : World} {L : List Item} (M : Mem w0 [] w L) : ∀ b ∈ blks L, w0.heap.size ≤ b ∧ b < w.heap.size := fun b hb => by
  obtain ⟨x, hx, hxb⟩ := mem_blks.1 hb
  exact ⟨(M.fresh x hx b hxb).resolve_left (by simp), Item.lt (M.holds x hx) hxb⟩
theorem look_off {K : Nat → Prop} {w w1 : World} {L : List Item} {B : Option Addr} {t : Tm} (M : Mem w [] w1 L) (hlt : ∀ b, K b → b < w.heap.size) (hBK : t.keys ≠ [] → ∀ ad, B = some ad → K ad.block ∨ w1.heap.size ≤ ad.block) : ∀ ad, B = some ad → nums .u8 t.keys.flatten ≠ [] → ad.block ∉ blks L := fun ad hB hne hin => by
  obtain ⟨h1, h2⟩ := M.blks_lt _ hin
  rcases hBK (fun h => hne (by rw [h]; rfl)) ad hB with h | h
  · have := hlt _ h
    omega
  · omega
set_option maxRecDepth 100000 in
set_option maxHeartbeats 4000000 in
theorem Agree54 {m : Nat} {ts : List Tm} {K : Nat → Prop} {w : World} (h : refR m ts K w) (hlt : ∀ b, K b → b < w.heap.size) {s p : List Int} (hw : ∀ t ∈ ts, TmW t) (hs : KeyOk s) (hp : KeyOk p) (hf : ts.length ≤ 900000) (hz : p ≠ zK) :
    Calls Try.prog 54 #[.pointer (some ⟨m, 0, none⟩), .agg (nums .u8 s).toArray, .agg (nums .u8 p).toArray] w fun e w' => IsKeyB (nm ts (agreeT ts s p)) true e ∧ FootK K (refR m (putL ts (agreeT ts s p))) w w' := by
  have M0 := Mem.start w
  have HH := hid h
  have HS := hid hs
  have HP := hid hp
  have HW := hid (lookT_w hw p)
  have HLT := hid hlt
  have HZ := hid (decide_eq_false hz)
  rw [agreeT_look]
  have HTO := hid (show TmOk (lookT ts p) from by obtain ⟨A, c, S, e, T⟩ := h; exact lookT_ok T hp)
  obtain ⟨t, ht⟩ : ∃ t, t = lookT ts p := ⟨_, rfl⟩
  rw [← ht] at HW HTO ⊢
  have HTE := hid ht
  clear h hs hp hlt hz hw ht
  by_cases e3 : t.kind = 3
  · rw [if_pos e3]
    have hk1 := HW.out.k3 e3
    have q0 : t.keys[0]? = some (t.keys.getD 0 []) := by rw [List.getD_eq_getElem?_getD, List.getElem?_eq_getElem (by omega)]; rfl
    have HK0 := hid (HTO.out.ks _ (List.mem_of_getElem? q0))
    obtain ⟨k0, hk0⟩ : ∃ x, x = t.keys.getD 0 [] := ⟨_, rfl⟩
    rw [← hk0] at HK0 q0 ⊢
    have HQ := hid q0
    have hk3 : (0 : Int) < (t.keys.length : Int) := by omega
    have hless := lessL_cmp (o := k0) (s := s) (by rw [HK0.out.1, HS.out.1]) HK0.out.2 HS.out.2
    have E3 := hid e3
    clear q0 hk0 e3
    by_cases hg : 0 < cmpK s k0
    · rw [show pairT s k0 = ⟨4, ⟨#[]⟩, [k0, s]⟩ from by rw [pairT, if_pos hg]]
      have HOK := hid (show TmOk ⟨4, ⟨#[]⟩, [k0, s]⟩ from tmOk (by decide) (by decide) (by decide) (by simp) (by simpa using ⟨HK0.out, HS.out⟩))
      have HNM := hid (nm_kn ts ⟨4, ⟨#[]⟩, [k0, s]⟩)
      have HLS := hid (show lessL k0 s = true from by rw [hless, decide_eq_true hg])
      clear hg hless
      go_enter Try.func54, Try.ntmps54
      go_upto_region 4 with (first | (refine wpList_bxN 4 rfl rfl rfl rfl M0 ?_; clear M0; intro b4 w1 M; (conv => arg 5; simp only [Act.put, List.setIfInBounds_toArray, List.set_cons_succ, List.set_cons_zero])) | (refine wpList_bxN 5 rfl rfl rfl rfl M ?_; clear M; intro b5 w1 M; (conv => arg 5; simp only [Act.put, List.setIfInBounds_toArray, List.set_cons_succ, List.set_cons_zero])) | (refine wpList_alN z26 6 rfl rfl rfl M ?_; clear M; intro b6 w1 M; (conv => arg 5; simp only [Act.put, List.setIfInBounds_toArray, List.set_cons_succ, List.set_cons_zero])) | (refine wpList_ldrowN Try.underlying26 s26 rfl rfl rfl rfl M (List.mem_cons_of_mem _ List.mem_cons_self) HP.out.1 ?_; (conv => arg 5; simp only [Act.put, List.setIfInBounds_toArray, List.set_cons_succ, List.set_cons_zero])) | (refine wpList_bld (vs := #[]) b26z rfl rfl rfl ?_; (conv => arg 5; simp only [Act.put, List.setIfInBounds_toArray, List.set_cons_succ, List.set_cons_zero])) | (refine wpList_eq26 11 rfl rfl rfl rfl rfl HP.out.1 zK_ok.1 ?_; rw [HZ.out]; (conv => arg 5; simp only [Act.put, List.setIfInBounds_toArray, List.set_cons_succ, List.set_cons_zero])) | (go_at_call 58; obtain ⟨A, c, S, e, T⟩ := HH.out; refine (Look58 K m c e A S ts p _ (T.below M.below) HP.out).mono ?_; rintro e6 w6 ⟨B, d, rfl, hd, hBn, hBr, hBK, M6⟩; rw [← HTE.out] at hBr hBK hd ⊢; have hE := look_off M HLT.out hBK; have M2 := (show Mem w [] w6 [.blk b6 (rowO .u8 26 (List.replicate 32 0)), .blk b5 (rowO .u8 26 p), .blk b4 (rowO .u8 26 s)] from M.join M6); have R := M2.again; have HB := hid hBr; have HE := hid hE; clear M6 hBK T M hBr hE hBn) | (refine wpList_al rfl rfl R z95 rfl ?_; clear R; intro b8 wn R; (conv => arg 5; simp only [Act.put, List.setIfInBounds_toArray, List.set_cons_succ, List.set_cons_zero])) | (refine wpList_strow (vs := [.int .i64 t.kind, .string t.text, .slice B t.keys.length d]) rfl rfl rfl rfl R Swap.head sz95 rfl (by simp [Value.oneCell']) ?_; clear R; intro wn R; (conv => arg 5; simp only [Act.put, List.setIfInBounds_toArray, List.set_cons_succ, List.set_cons_zero])))
      have ck := R.cell (i := 0) List.mem_cons_self rfl
      obtain ⟨bk, off, hB, _⟩ := keys_at HTO.out.ks HB.out HQ.out
      subst hB
      have HC := hid (fun (w' : World) (L : List Item) (Q : Mem w6 (blks [.blk b6 (rowO .u8 26 (List.replicate 32 0)), .blk b5 (rowO .u8 26 p), .blk b4 (rowO .u8 26 s)]) w' L) => keys_cells HTO.out.ks (HB.out.elsewhere Q HE.out) HQ.out)
      have e3 := E3.out
      go_upto_region 6 with fail
      clear ck
      refine wp_region_planT (.free 0 (.free 1 (.free 2 (.free 3 (.free 4 (.one 5 (.done))))))) (by kernel_rfl) (by kernel_rfl) (fun _ _ _ _ _ h => h) R ?_
      clear R
      intro wa R
      (refine wpT_free rfl rfl (.inl ⟨rfl, fun w _ => by go_simp; rfl⟩) (by assumption) ?_; (conv => arg 6; simp only [Act.put, List.setIfInBounds_toArray, List.set_cons_succ, List.set_cons_zero]))
      refine wpT_free rfl rfl (.inl ⟨rfl, fun w hw => run_ld1 Try.underlying34 rfl rfl rfl (hw.cell (i := 2) List.mem_cons_self rfl)⟩) (by assumption) ?_; (conv => arg 6; simp only [Act.put, List.setIfInBounds_toArray, List.set_cons_succ, List.set_cons_zero])
      refine wpT_free (v := .pointer (some ⟨bk, off, none⟩)) rfl rfl (.inl ⟨rfl, fun w _ => by go_simp; intro hnil; rw [hnil] at hk1; simp at hk1⟩) (by assumption) ?_; (conv => arg 6; simp only [Act.put, List.setIfInBounds_toArray, List.set_cons_succ, List.set_cons_zero])
      refine wpT_free rfl rfl (.inl ⟨rfl, fun w hw => run_ldK Try.underlying26 rfl rfl rfl (by simpa using HC.out w _ hw) (s26k HK0.out)⟩) (by assumption) ?_; (conv => arg 6; simp only [Act.put, List.setIfInBounds_toArray, List.set_cons_succ, List.set_cons_zero])
      refine wpT_free rfl rfl (.inl ⟨rfl, fun w hw => run_ldrowN Try.underlying26 s26 rfl rfl rfl hw (by (repeat (first | exact List.mem_cons_self | refine List.mem_cons_of_mem _ ?_))) HS.out.1⟩) (by assumption) ?_; (conv => arg 6; simp only [Act.put, List.setIfInBounds_toArray, List.set_cons_succ, List.set_cons_zero])
      refine wpT_op rfl ?_
      go_wp2_with (go_at_call 76; refine (less76 k0 s _ HK0.out HS.out).mono ?_; rintro e7 wb ⟨rfl, M7⟩; replace R := R.call M7.below; clear M7; rw [HLS.out])
      refine PlanTQ.mk R (wpT_done ?_)
      go_upto_region 7 with fail
      clear e3
      refine wp_region_planS (fun w' => ∃ v E, Mem v E w' [.blk b8 (cellsO 95 [.int .i64 t.kind, .string t.text, .slice (some ⟨bk, off, none⟩) t.keys.length d]), .blk b4 (rowO .u8 26 s)]) (.free 0 (.free 1 (.free 2 (.free 3 (.free 5 (.one 4 (.one 6 (.one 7 (.one 8 (.free 9 (.done))))))))))) (by kernel_rfl) (by kernel_rfl) (fun _ _ _ _ _ h => h) (fun wc hbc => ?_)
      replace R := R.call hbc
      clear hbc
      have SX : ∃ v E, Mem v E wc [.blk b8 (cellsO 95 [.int .i64 t.kind, .string t.text, .slice (some ⟨bk, off, none⟩) t.keys.length d]), .blk b4 (rowO .u8 26 s)] := ⟨_, _, R.sub (by (repeat (first | exact List.Sublist.refl _ | apply List.Sublist.cons_cons | apply List.Sublist.cons)))⟩
      (refine wpT_free rfl rfl (.inl ⟨rfl, fun w _ => by go_simp; rfl⟩) (by assumption) ?_; (conv => arg 6; simp only [Act.put, List.setIfInBounds_toArray, List.set_cons_succ, List.set_cons_zero]))
      (refine wpT_free rfl rfl (.inl ⟨rfl, fun w _ => by go_simp; rfl⟩) (by assumption) ?_; (conv => arg 6; simp only [Act.put, List.setIfInBounds_toArray, List.set_cons_succ, List.set_cons_zero]))
      refine wpT_free rfl rfl (.inl ⟨rfl, fun w hw => (by obtain ⟨v, E, hw⟩ := hw; exact run_ld1 Try.underlying34 rfl rfl rfl (hw.cell (i := 2) List.mem_cons_self rfl))⟩) (by assumption) ?_; (conv => arg 6; simp only [Act.put, List.setIfInBounds_toArray, List.set_cons_succ, List.set_cons_zero])
      refine wpT_free (v := .pointer (some ⟨bk, off, none⟩)) rfl rfl (.inl ⟨rfl, fun w _ => by go_simp; intro hnil; rw [hnil] at hk1; simp at hk1⟩) (by assumption) ?_; (conv => arg 6; simp only [Act.put, List.setIfInBounds_toArray, List.set_cons_succ, List.set_cons_zero])
      refine wpT_free rfl rfl (.inl ⟨rfl, fun w hw => (by obtain ⟨v, E, hw⟩ := hw; exact run_ldrowN Try.underlying26 s26 rfl rfl rfl hw (by (repeat (first | exact List.mem_cons_self | refine List.mem_cons_of_mem _ ?_))) HS.out.1)⟩) (by assumption) ?_; (conv => arg 6; simp only [Act.put, List.setIfInBounds_toArray, List.set_cons_succ, List.set_cons_zero])
      clear SX
      refine wpT_op rfl ?_
      refine wpList_ldagg (off := off) 34 rfl Try.underlying26 rfl rfl rfl rfl (by simpa using HC.out _ _ R) (s26k HK0.out) ?_; (conv => arg 5; simp only [Act.put, List.setIfInBounds_toArray, List.set_cons_succ, List.set_cons_zero])
      go_wp2_with fail
      refine PlanTQ.mk ⟨_, _, R.sub (by (repeat (first | exact List.Sublist.refl _ | apply List.Sublist.cons_cons | apply List.Sublist.cons)))⟩ (wpT_op rfl ?_)
      refine wpList_bsK2 36 rfl rfl rfl rfl rfl (by first | exact HK0.out | exact HS.out) (by first | exact HK0.out | exact HS.out) R ?_; clear R; intro bz wn R; (conv => arg 5; simp only [Act.put, List.setIfInBounds_toArray, List.set_cons_succ, List.set_cons_zero])
      go_wp2_with fail
      refine PlanTQ.mk ⟨_, _, R.sub (by (repeat (first | exact List.Sublist.refl _ | apply List.Sublist.cons_cons | apply List.Sublist.cons)))⟩ (wpT_op rfl ?_)
      go_wp2_with (go_at_call 45; refine (MakeK (t := ⟨4, ⟨#[]⟩, [k0, s]⟩) ((refR_ok _ _).keep ((refR_ok _ _).keep HH.out (fun b hb hl => M2.old b hl (by simp))) (fun b hb hl => R.old b hl (fun hin => by have := M2.blks_lt _ hin; have := HLT.out _ hb; omega))) (fun b hb => Nat.lt_of_lt_of_le (HLT.out b hb) (Nat.le_trans M2.size R.size)) HOK.out (R.blkT (by (repeat (first | exact List.mem_cons_self | refine List.mem_cons_of_mem _ ?_)))) hf).mono ?_; rintro e6 w7 ⟨he6, F⟩; obtain rfl := he6; have N := M2.rejoin R; obtain ⟨E, N2, _⟩ := N.foot F HLT.out; have h61 := N.blks_lt b6 (by simp [blks, Item.block]); rw [HNM.out]; clear R)
      refine PlanTQ.mk ⟨_, _, N2.sub (by (repeat (first | exact List.Sublist.refl _ | apply List.Sublist.cons_cons | apply List.Sublist.cons)))⟩ (wpT_op rfl ?_)
      refine wpList_strowNG s26 rfl rfl rfl rfl N2 (Swap.tail (Swap.tail Swap.head)) (by simp) (kn_len _) ?_; clear N2; intro wz N2 hgr; (conv => arg 5; simp only [Act.put, List.setIfInBounds_toArray, List.set_cons_succ, List.set_cons_zero])
      go_wp2_with fail
      have SX : ∃ v E, Mem v E wz [.blk b8 (cellsO 95 [.int .i64 t.kind, .string t.text, .slice (some ⟨bk, off, none⟩) t.keys.length d]), .blk b4 (rowO .u8 26 s)] := ⟨_, _, N2.sub (by (repeat (first | exact List.Sublist.refl _ | apply List.Sublist.cons_cons | apply List.Sublist.cons)))⟩
      refine PlanTQ.mk SX ?_
      (refine wpT_free rfl rfl (.inl ⟨rfl, fun w _ => by go_simp; rfl⟩) (by assumption) ?_; (conv => arg 6; simp only [Act.put, List.setIfInBounds_toArray, List.set_cons_succ, List.set_cons_zero]))
      refine wpT_done ?_
      go_wp2_with fail
      (try simp only [Exit.inBlock, Exit.then])
      refine ret_row2 Try.underlying26 s26 rfl rfl rfl rfl rfl N2 (by (repeat (first | exact List.mem_cons_self | refine List.mem_cons_of_mem _ ?_))) (kn_len _) ?_
      rw [HNM.out]
      exact ⟨rfl, FootK.fin N F (refR_ok _ _) HLT.out h61.1 h61.2 hgr⟩
    · rw [show pairT s k0 = ⟨4, ⟨#[]⟩, [s, k0]⟩ from by rw [pairT, if_neg hg]]
      have HOK := hid (show TmOk ⟨4, ⟨#[]⟩, [s, k0]⟩ from tmOk (by decide) (by decide) (by decide) (by simp) (by simpa using ⟨HS.out, HK0.out⟩))
      have HNM := hid (nm_kn ts ⟨4, ⟨#[]⟩, [s, k0]⟩)
      have HLS := hid (show lessL k0 s = false from by rw [hless, decide_eq_false hg])
      clear hg hless
      go_enter Try.func54, Try.ntmps54
      go_upto_region 4 with (first | (refine wpList_bxN 4 rfl rfl rfl rfl M0 ?_; clear M0; intro b4 w1 M; (conv => arg 5; simp only [Act.put, List.setIfInBounds_toArray, List.set_cons_succ, List.set_cons_zero])) | (refine wpList_bxN 5 rfl rfl rfl rfl M ?_; clear M; intro b5 w1 M; (conv => arg 5; simp only [Act.put, List.setIfInBounds_toArray, List.set_cons_succ, List.set_cons_zero])) | (refine wpList_alN z26 6 rfl rfl rfl M ?_; clear M; intro b6 w1 M; (conv => arg 5; simp only [Act.put, List.setIfInBounds_toArray, List.set_cons_succ, List.set_cons_zero])) | (refine wpList_ldrowN Try.underlying26 s26 rfl rfl rfl rfl M (List.mem_cons_of_mem _ List.mem_cons_self) HP.out.1 ?_; (conv => arg 5; simp only [Act.put, List.setIfInBounds_toArray, List.set_cons_succ, List.set_cons_zero])) | (refine wpList_bld (vs := #[]) b26z rfl rfl rfl ?_; (conv => arg 5; simp only [Act.put, List.setIfInBounds_toArray, List.set_cons_succ, List.set_cons_zero])) | (refine wpList_eq26 11 rfl rfl rfl rfl rfl HP.out.1 zK_ok.1 ?_; rw [HZ.out]; (conv => arg 5; simp only [Act.put, List.setIfInBounds_toArray, List.set_cons_succ, List.set_cons_zero])) | (go_at_call 58; obtain ⟨A, c, S, e, T⟩ := HH.out; refine (Look58 K m c e A S ts p _ (T.below M.below) HP.out).mono ?_; rintro e6 w6 ⟨B, d, rfl, hd, hBn, hBr, hBK, M6⟩; rw [← HTE.out] at hBr hBK hd ⊢; have hE := look_off M HLT.out hBK; have M2 := (show Mem w [] w6 [.blk b6 (rowO .u8 26 (List.replicate 32 0)), .blk b5 (rowO .u8 26 p), .blk b4 (rowO .u8 26 s)] from M.join M6); have R := M2.again; have HB := hid hBr; have HE := hid hE; clear M6 hBK T M hBr hE hBn) | (refine wpList_al rfl rfl R z95 rfl ?_; clear R; intro b8 wn R; (conv => arg 5; simp only [Act.put, List.setIfInBounds_toArray, List.set_cons_succ, List.set_cons_zero])) | (refine wpList_strow (vs := [.int .i64 t.kind, .string t.text, .slice B t.keys.length d]) rfl rfl rfl rfl R Swap.head sz95 rfl (by simp [Value.oneCell']) ?_; clear R; intro wn R; (conv => arg 5; simp only [Act.put, List.setIfInBounds_toArray, List.set_cons_succ, List.set_cons_zero])))
      have ck := R.cell (i := 0) List.mem_cons_self rfl
      obtain ⟨bk, off, hB, _⟩ := keys_at HTO.out.ks HB.out HQ.out
      subst hB
      have HC := hid (fun (w' : World) (L : List Item) (Q : Mem w6 (blks [.blk b6 (rowO .u8 26 (List.replicate 32 0)), .blk b5 (rowO .u8 26 p), .blk b4 (rowO .u8 26 s)]) w' L) => keys_cells HTO.out.ks (HB.out.elsewhere Q HE.out) HQ.out)
      have e3 := E3.out
      go_upto_region 6 with fail
      clear ck
      refine wp_region_planT (.free 0 (.free 1 (.free 2 (.free 3 (.free 4 (.one 5 (.done))))))) (by kernel_rfl) (by kernel_rfl) (fun _ _ _ _ _ h => h) R ?_
      clear R
      intro wa R
      (refine wpT_free rfl rfl (.inl ⟨rfl, fun w _ => by go_simp; rfl⟩) (by assumption) ?_; (conv => arg 6; simp only [Act.put, List.setIfInBounds_toArray, List.set_cons_succ, List.set_cons_zero]))
      refine wpT_free rfl rfl (.inl ⟨rfl, fun w hw => run_ld1 Try.underlying34 rfl rfl rfl (hw.cell (i := 2) List.mem_cons_self rfl)⟩) (by assumption) ?_; (conv => arg 6; simp only [Act.put, List.setIfInBounds_toArray, List.set_cons_succ, List.set_cons_zero])
      refine wpT_free (v := .pointer (some ⟨bk, off, none⟩)) rfl rfl (.inl ⟨rfl, fun w _ => by go_simp; intro hnil; rw [hnil] at hk1; simp at hk1⟩) (by assumption) ?_; (conv => arg 6; simp only [Act.put, List.setIfInBounds_toArray, List.set_cons_succ, List.set_cons_zero])
      refine wpT_free rfl rfl (.inl ⟨rfl, fun w hw => run_ldK Try.underlying26 rfl rfl rfl (by simpa using HC.out w _ hw) (s26k HK0.out)⟩) (by assumption) ?_; (conv => arg 6; simp only [Act.put, List.setIfInBounds_toArray, List.set_cons_succ, List.set_cons_zero])
      refine wpT_free rfl rfl (.inl ⟨rfl, fun w hw => run_ldrowN Try.underlying26 s26 rfl rfl rfl hw (by (repeat (first | exact List.mem_cons_self | refine List.mem_cons_of_mem _ ?_))) HS.out.1⟩) (by assumption) ?_; (conv => arg 6; simp only [Act.put, List.setIfInBounds_toArray, List.set_cons_succ, List.set_cons_zero])
      refine wpT_op rfl ?_
      go_wp2_with (go_at_call 76; refine (less76 k0 s _ HK0.out HS.out).mono ?_; rintro e7 wb ⟨rfl, M7⟩; replace R := R.call M7.below; clear M7; rw [HLS.out])
      refine PlanTQ.mk R (wpT_done ?_)
      go_upto_region 8 with fail
      clear e3
      refine wp_region_planS (fun w' => ∃ v E, Mem v E w' [.blk b8 (cellsO 95 [.int .i64 t.kind, .string t.text, .slice (some ⟨bk, off, none⟩) t.keys.length d]), .blk b4 (rowO .u8 26 s)]) (.free 0 (.free 1 (.free 2 (.free 3 (.free 4 (.one 5 (.one 6 (.one 7 (.one 8 (.free 9 (.done))))))))))) (by kernel_rfl) (by kernel_rfl) (fun _ _ _ _ _ h => h) (fun wc hbc => ?_)
      replace R := R.call hbc
      clear hbc
      have SX : ∃ v E, Mem v E wc [.blk b8 (cellsO 95 [.int .i64 t.kind, .string t.text, .slice (some ⟨bk, off, none⟩) t.keys.length d]), .blk b4 (rowO .u8 26 s)] := ⟨_, _, R.sub (by (repeat (first | exact List.Sublist.refl _ | apply List.Sublist.cons_cons | apply List.Sublist.cons)))⟩
      (refine wpT_free rfl rfl (.inl ⟨rfl, fun w _ => by go_simp; rfl⟩) (by assumption) ?_; (conv => arg 6; simp only [Act.put, List.setIfInBounds_toArray, List.set_cons_succ, List.set_cons_zero]))
      refine wpT_free rfl rfl (.inl ⟨rfl, fun w hw => (by obtain ⟨v, E, hw⟩ := hw; exact run_ldrowN Try.underlying26 s26 rfl rfl rfl hw (by (repeat (first | exact List.mem_cons_self | refine List.mem_cons_of_mem _ ?_))) HS.out.1)⟩) (by assumption) ?_; (conv => arg 6; simp only [Act.put, List.setIfInBounds_toArray, List.set_cons_succ, List.set_cons_zero])
      (refine wpT_free rfl rfl (.inl ⟨rfl, fun w _ => by go_simp; rfl⟩) (by assumption) ?_; (conv => arg 6; simp only [Act.put, List.setIfInBounds_toArray, List.set_cons_succ, List.set_cons_zero]))
      refine wpT_free rfl rfl (.inl ⟨rfl, fun w hw => (by obtain ⟨v, E, hw⟩ := hw; exact run_ld1 Try.underlying34 rfl rfl rfl (hw.cell (i := 2) List.mem_cons_self rfl))⟩) (by assumption) ?_; (conv => arg 6; simp only [Act.put, List.setIfInBounds_toArray, List.set_cons_succ, List.set_cons_zero])
      refine wpT_free (v := .pointer (some ⟨bk, off, none⟩)) rfl rfl (.inl ⟨rfl, fun w _ => by go_simp; intro hnil; rw [hnil] at hk1; simp at hk1⟩) (by assumption) ?_; (conv => arg 6; simp only [Act.put, List.setIfInBounds_toArray, List.set_cons_succ, List.set_cons_zero])
      clear SX
      refine wpT_op rfl ?_
      refine wpList_ldagg (off := off) 43 rfl Try.underlying26 rfl rfl rfl rfl (by simpa using HC.out _ _ R) (s26k HK0.out) ?_; (conv => arg 5; simp only [Act.put, List.setIfInBounds_toArray, List.set_cons_succ, List.set_cons_zero])
      go_wp2_with fail
      refine PlanTQ.mk ⟨_, _, R.sub (by (repeat (first | exact List.Sublist.refl _ | apply List.Sublist.cons_cons | apply List.Sublist.cons)))⟩ (wpT_op rfl ?_)
      refine wpList_bsK2 44 rfl rfl rfl rfl rfl (by first | exact HK0.out | exact HS.out) (by first | exact HK0.out | exact HS.out) R ?_; clear R; intro bz wn R; (conv => arg 5; simp only [Act.put, List.setIfInBounds_toArray, List.set_cons_succ, List.set_cons_zero])
      go_wp2_with fail
      refine PlanTQ.mk ⟨_, _, R.sub (by (repeat (first | exact List.Sublist.refl _ | apply List.Sublist.cons_cons | apply List.Sublist.cons)))⟩ (wpT_op rfl ?_)
      go_wp2_with (go_at_call 45; refine (MakeK (t := ⟨4, ⟨#[]⟩, [s, k0]⟩) ((refR_ok _ _).keep ((refR_ok _ _).keep HH.out (fun b hb hl => M2.old b hl (by simp))) (fun b hb hl => R.old b hl (fun hin => by have := M2.blks_lt _ hin; have := HLT.out _ hb; omega))) (fun b hb => Nat.lt_of_lt_of_le (HLT.out b hb) (Nat.le_trans M2.size R.size)) HOK.out (R.blkT (by (repeat (first | exact List.mem_cons_self | refine List.mem_cons_of_mem _ ?_)))) hf).mono ?_; rintro e6 w7 ⟨he6, F⟩; obtain rfl := he6; have N := M2.rejoin R; obtain ⟨E, N2, _⟩ := N.foot F HLT.out; have h61 := N.blks_lt b6 (by simp [blks, Item.block]); rw [HNM.out]; clear R)
      refine PlanTQ.mk ⟨_, _, N2.sub (by (repeat (first | exact List.Sublist.refl _ | apply List.Sublist.cons_cons | apply List.Sublist.cons)))⟩ (wpT_op rfl ?_)
      refine wpList_strowNG s26 rfl rfl rfl rfl N2 (Swap.tail (Swap.tail Swap.head)) (by simp) (kn_len _) ?_; clear N2; intro wz N2 hgr; (conv => arg 5; simp only [Act.put, List.setIfInBounds_toArray, List.set_cons_succ, List.set_cons_zero])
      go_wp2_with fail
      have SX : ∃ v E, Mem v E wz [.blk b8 (cellsO 95 [.int .i64 t.kind, .string t.text, .slice (some ⟨bk, off, none⟩) t.keys.length d]), .blk b4 (rowO .u8 26 s)] := ⟨_, _, N2.sub (by (repeat (first | exact List.Sublist.refl _ | apply List.Sublist.cons_cons | apply List.Sublist.cons)))⟩
      refine PlanTQ.mk SX ?_
      (refine wpT_free rfl rfl (.inl ⟨rfl, fun w _ => by go_simp; rfl⟩) (by assumption) ?_; (conv => arg 6; simp only [Act.put, List.setIfInBounds_toArray, List.set_cons_succ, List.set_cons_zero]))
      refine wpT_done ?_
      go_wp2_with fail
      (try simp only [Exit.inBlock, Exit.then])
      refine ret_row2 Try.underlying26 s26 rfl rfl rfl rfl rfl N2 (by (repeat (first | exact List.mem_cons_self | refine List.mem_cons_of_mem _ ?_))) (kn_len _) ?_
      rw [HNM.out]
      exact ⟨rfl, FootK.fin N F (refR_ok _ _) HLT.out h61.1 h61.2 hgr⟩
  · rw [if_neg e3]
    have HOK := hid (show TmOk (oddT s p) from tmOk (by decide) (by decide) (by decide) (by simp [oddT]) (by simpa [oddT] using ⟨HS.out, HP.out⟩))
    have HNM := hid (nm_kn ts (oddT s p))
    go_enter Try.func54, Try.ntmps54
    go_upto_region 4 with (first | (refine wpList_bxN 4 rfl rfl rfl rfl M0 ?_; clear M0; intro b4 w1 M; (conv => arg 5; simp only [Act.put, List.setIfInBounds_toArray, List.set_cons_succ, List.set_cons_zero])) | (refine wpList_bxN 5 rfl rfl rfl rfl M ?_; clear M; intro b5 w1 M; (conv => arg 5; simp only [Act.put, List.setIfInBounds_toArray, List.set_cons_succ, List.set_cons_zero])) | (refine wpList_alN z26 6 rfl rfl rfl M ?_; clear M; intro b6 w1 M; (conv => arg 5; simp only [Act.put, List.setIfInBounds_toArray, List.set_cons_succ, List.set_cons_zero])) | (refine wpList_ldrowN Try.underlying26 s26 rfl rfl rfl rfl M (List.mem_cons_of_mem _ List.mem_cons_self) HP.out.1 ?_; (conv => arg 5; simp only [Act.put, List.setIfInBounds_toArray, List.set_cons_succ, List.set_cons_zero])) | (refine wpList_bld (vs := #[]) b26z rfl rfl rfl ?_; (conv => arg 5; simp only [Act.put, List.setIfInBounds_toArray, List.set_cons_succ, List.set_cons_zero])) | (refine wpList_eq26 11 rfl rfl rfl rfl rfl HP.out.1 zK_ok.1 ?_; rw [HZ.out]; (conv => arg 5; simp only [Act.put, List.setIfInBounds_toArray, List.set_cons_succ, List.set_cons_zero])) | (go_at_call 58; obtain ⟨A, c, S, e, T⟩ := HH.out; refine (Look58 K m c e A S ts p _ (T.below M.below) HP.out).mono ?_; rintro e6 w6 ⟨B, d, rfl, hd, hBn, hBr, hBK, M6⟩; rw [← HTE.out] at hBr hBK hd ⊢; have hE := look_off M HLT.out hBK; have M2 := (show Mem w [] w6 [.blk b6 (rowO .u8 26 (List.replicate 32 0)), .blk b5 (rowO .u8 26 p), .blk b4 (rowO .u8 26 s)] from M.join M6); have R := M2.again; have HB := hid hBr; have HE := hid hE; clear M6 hBK T M hBr hE hBn) | (refine wpList_al rfl rfl R z95 rfl ?_; clear R; intro b8 wn R; (conv => arg 5; simp only [Act.put, List.setIfInBounds_toArray, List.set_cons_succ, List.set_cons_zero])) | (refine wpList_strow (vs := [.int .i64 t.kind, .string t.text, .slice B t.keys.length d]) rfl rfl rfl rfl R Swap.head sz95 rfl (by simp [Value.oneCell']) ?_; clear R; intro wn R; (conv => arg 5; simp only [Act.put, List.setIfInBounds_toArray, List.set_cons_succ, List.set_cons_zero])))
    have ck := R.cell (i := 0) List.mem_cons_self rfl
    have hne : (t.kind != 3) = true := by simpa using e3
    clear e3
    go_wp2_with (first | (refine wpList_ldrowN Try.underlying26 s26 rfl rfl rfl rfl R (by (repeat (first | exact List.mem_cons_self | refine List.mem_cons_of_mem _ ?_))) (by first | exact HS.out.1 | exact HP.out.1) ?_; (conv => arg 5; simp only [Act.put, List.setIfInBounds_toArray, List.set_cons_succ, List.set_cons_zero])) | (refine wpList_bsK2 22 rfl rfl rfl rfl rfl HS.out HP.out R ?_; clear R ck; intro b22 wn R; (conv => arg 5; simp only [Act.put, List.setIfInBounds_toArray, List.set_cons_succ, List.set_cons_zero])) | (go_at_call 45; refine (MakeK (t := oddT s p) ((refR_ok _ _).keep ((refR_ok _ _).keep HH.out (fun b hb hl => M2.old b hl (by simp))) (fun b hb hl => R.old b hl (fun hin => by have := M2.blks_lt _ hin; have := HLT.out _ hb; omega))) (fun b hb => Nat.lt_of_lt_of_le (HLT.out b hb) (Nat.le_trans M2.size R.size)) HOK.out (R.blkT (by (repeat (first | exact List.mem_cons_self | refine List.mem_cons_of_mem _ ?_)))) hf).mono ?_; rintro e6 w7 ⟨he6, F⟩; obtain rfl := he6; have N := M2.rejoin R; obtain ⟨E, N2, _⟩ := N.foot F HLT.out; have h61 := N.blks_lt b6 (by simp [blks, Item.block]); rw [HNM.out]; clear R) | (refine wpList_strowNG s26 rfl rfl rfl rfl N2 (Swap.tail (Swap.tail Swap.head)) (by simp) (kn_len _) ?_; clear N2; intro wz N2 hgr; (conv => arg 5; simp only [Act.put, List.setIfInBounds_toArray, List.set_cons_succ, List.set_cons_zero])))
    (try simp only [Exit.inBlock, Exit.then])
    refine ret_row2 Try.underlying26 s26 rfl rfl rfl rfl rfl N2 (by (repeat (first | exact List.mem_cons_self | refine List.mem_cons_of_mem _ ?_))) (kn_len _) ?_
    rw [HNM.out]
    exact ⟨rfl, FootK.fin N F (refR_ok _ _) HLT.out h61.1 h61.2 hgr⟩
end Go.Proofs.Ytcapfnbmmdbcoaa
namespace Go.Proofs.Ytcapfnbmmdbcoaa
open Go.RowKit
theorem openM_look (ts : List Tm) (k b : List Int) (s : ByteArray) : openM ts k b s = if s.size = 32 then (if (lookT ts (bytesOf s)).kind = 6 ∧ (lookT ts (bytesOf s)).keys.getD 0 [] = k ∧ (lookT ts (bytesOf s)).keys.getD 1 [] = b then some ((lookT ts (bytesOf s)).text, (lookT ts (bytesOf s)).keys.drop 2) else none) else none := by
  unfold openM lookT
  by_cases hs : s.size = 32
  · rw [if_pos hs]
    by_cases h : 0 ≤ numT ts.length (bytesOf s)
    · rw [if_pos ⟨hs, h⟩, if_pos h]
      cases hi : ts[(numT ts.length (bytesOf s)).toNat]? with
      | none =>
        simp only [Option.getD_none]
        rw [if_neg (fun h => by have := h.1; simp at this)]
      | some t => rfl
    · rw [if_neg (fun h' => h h'.2), if_neg h]
      simp only
      rw [if_neg (fun h => by have := h.1; simp at this)]
  · rw [if_neg (fun h => hs h.1), if_neg hs]
def OpenRK (K : Nat → Prop) (w : World) : Option (ByteArray × List (List Int)) → Ending → World → Prop
  | none, e, w' => e = .returned (.tuple #[.string ⟨#[]⟩, .slice none 0 0, .bool false]) ∧ Mem w [] w' []
  | some (x, ks), e, w' => ∃ A c, e = .returned (.tuple #[.string x, .slice A ks.length c, .bool true]) ∧ ks.length ≤ c ∧ (A = none → c = 0) ∧ RowT w' 26 A (nums .u8 ks.flatten) ∧ (ks ≠ [] → ∀ ad, A = some ad → K ad.block ∨ w.heap.size ≤ ad.block) ∧ Mem w [] w' []
set_option maxRecDepth 100000 in
set_option maxHeartbeats 4000000 in
theorem Open74 {m : Nat} {ts : List Tm} {K : Nat → Prop} {w : World} (h : refR m ts K w) (hlt : ∀ b, K b → b < w.heap.size) (hw : ∀ t ∈ ts, TmW t) {k b : List Int} {s : ByteArray} (hk : KeyOk k) (hb : KeyOk b) :
    Calls Try.prog 74 #[.pointer (some ⟨m, 0, none⟩), .agg (nums .u8 k).toArray, .agg (nums .u8 b).toArray, .string s] w (OpenRK K w (openM ts k b s)) := by
  have M0 := Mem.start w
  have HH := hid h
  have HK := hid hk
  have HB := hid hb
  have HLT := hid hlt
  rw [openM_look]
  by_cases hs : s.size = 32
  · rw [if_pos hs]
    have HS := hid hs
    have HBL := hid (show (bytesOf s).length = 32 from by rw [bytesOf_length, hs])
    have HBO := hid (show KeyOk (bytesOf s) from ⟨HBL.out, bytesOf_all s⟩)
    have hsI : (s.size : Int) = 32 := by omega
    have HW := hid (lookT_w hw (bytesOf s))
    have HTO := hid (show TmOk (lookT ts (bytesOf s)) from by obtain ⟨A, c, S, e, T⟩ := h; exact lookT_ok T HBO.out)
    obtain ⟨t, ht⟩ : ∃ t, t = lookT ts (bytesOf s) := ⟨_, rfl⟩
    rw [← ht] at HW HTO ⊢
    have HTE := hid ht
    obtain ⟨k0, hk0⟩ : ∃ x, x = t.keys.getD 0 [] := ⟨_, rfl⟩
    obtain ⟨k1, hk1⟩ : ∃ x, x = t.keys.getD 1 [] := ⟨_, rfl⟩
    rw [← hk0, ← hk1]
    have HK0 := hid hk0
    have HK1 := hid hk1
    obtain ⟨res, hres⟩ : ∃ x, x = (if t.kind = 6 ∧ k0 = k ∧ k1 = b then some (t.text, t.keys.drop 2) else none) := ⟨_, rfl⟩
    rw [← hres]
    have HRES := hid hres
    clear hres h hs hk hb hlt hw ht hk0 hk1
    go_enter Try.func74, Try.ntmps74
    go_wp2_with (first | (refine wpList_bxN 5 rfl rfl rfl rfl M0 ?_; clear M0; intro b5 w1 M; (conv => arg 5; simp only [Act.put, List.setIfInBounds_toArray, List.set_cons_succ, List.set_cons_zero])) | (refine wpList_bxN 6 rfl rfl rfl rfl M ?_; clear M; intro b6 w2 M; (conv => arg 5; simp only [Act.put, List.setIfInBounds_toArray, List.set_cons_succ, List.set_cons_zero])) | (refine wpList_alN z26 11 rfl rfl rfl M ?_; clear M; intro b11 w3 M; (conv => arg 5; simp only [Act.put, List.setIfInBounds_toArray, List.set_cons_succ, List.set_cons_zero])))
    go_loopw [12] (fun n wr => ∃ i : Nat, i ≤ 32 ∧ n = .int .i64 i ∧ Mem w [] wr [.blk b11 (rowO .u8 26 ((bytesOf s).take i ++ List.replicate (32 - i) 0)), .blk b6 (rowO .u8 26 b), .blk b5 (rowO .u8 26 k)]) (fun n _ => 32 - (intOf n).toNat)
    case atStart => exact ⟨0, by omega, rfl, M⟩
    case round =>
      obtain ⟨i, hi, rfl, Mi⟩ := hrel
      clear M
      by_cases hlt : i < 32
      · have hltI : (i : Int) < 32 := by omega
        have hl1 : ((bytesOf s).take i ++ List.replicate (32 - i) (0 : Int)).length = 32 := by
          have := HBL.out
          simp only [List.length_append, List.length_take, List.length_replicate]
          omega
        have hlt2 : i < s.size := by rw [HS.out]; exact hlt
        go_wp2_with (first | (refine wpList_stN (v := rd (bytesOf s) i) s5 rfl rfl rfl rfl Mi Swap.head (by rw [hl1]; exact hlt) (fun w3 M3 => ?_); (conv => arg 5; simp only [Act.put, List.setIfInBounds_toArray, List.set_cons_succ, List.set_cons_zero])))
        go_round
        case rel =>
          refine ⟨i + 1, by omega, by go_num, ?_⟩
          have h1 := fill_set ((bytesOf s).take i) (32 - i) i (rd (bytesOf s) i) (by have := HBL.out; rw [List.length_take]; omega) (by omega)
          have h2 : (bytesOf s).take (i + 1) = (bytesOf s).take i ++ [rd (bytesOf s) i] := by
            have hl : i < (bytesOf s).length := by rw [HBL.out]; exact hlt
            rw [List.take_succ_eq_append_getElem hl, rd, List.getD_eq_getElem?_getD, List.getElem?_eq_getElem hl]
            rfl
          rw [h1, show 32 - i - 1 = 32 - (i + 1) from by omega, ← h2] at M3
          exact M3
        case measure => simp [intOf]; omega
      · obtain rfl : i = 32 := by omega
        rw [List.take_of_length_le (by rw [HBL.out]; exact Nat.le_refl _), show List.replicate (32 - 32) (0 : Int) = [] from rfl, List.append_nil] at Mi
        have M := Mi
        clear Mi
        go_upto_region 9 with (first | (refine wpList_ldrowN Try.underlying26 s26 rfl rfl rfl rfl M (by (repeat (first | exact List.mem_cons_self | refine List.mem_cons_of_mem _ ?_))) HBL.out ?_; (conv => arg 5; simp only [Act.put, List.setIfInBounds_toArray, List.set_cons_succ, List.set_cons_zero])) | (go_at_call 58; obtain ⟨A, c, S, e, T⟩ := HH.out; refine (Look58 K m c e A S ts (bytesOf s) _ (T.below M.below) HBO.out).mono ?_; rintro e6 w6 ⟨B, d, rfl, hd, hBn, hBr, hBK, M6⟩; rw [← HTE.out] at hBr hBK hd ⊢; have hE := look_off M HLT.out hBK; have hsz := M.size; have HBK := hid (fun hne ad hB => (hBK hne ad hB).imp id (fun h => Nat.le_trans hsz h)); have M2 := (show Mem w [] w6 [.blk b11 (rowO .u8 26 (bytesOf s)), .blk b6 (rowO .u8 26 b), .blk b5 (rowO .u8 26 k)] from M.join M6); have R := M2.again; have HBR := hid hBr; have HE := hid hE; have HBN := hid hBn; clear M6 hBK T M hBr hE hBn hsz) | (refine wpList_al rfl rfl R z95 rfl ?_; clear R; intro b13 wn R; (conv => arg 5; simp only [Act.put, List.setIfInBounds_toArray, List.set_cons_succ, List.set_cons_zero])) | (refine wpList_strow (vs := [.int .i64 t.kind, .string t.text, .slice B t.keys.length d]) rfl rfl rfl rfl R Swap.head sz95 rfl (by simp [Value.oneCell']) ?_; clear R; intro wn R; (conv => arg 5; simp only [Act.put, List.setIfInBounds_toArray, List.set_cons_succ, List.set_cons_zero])))
        refine wp_region_planT (.free 0 (.free 1 (.free 2 (.free 3 (.free 4 (.free 5 (.free 6 (.free 7 (.free 8 (.free 9 (.free 10 (.free 11 (.free 12 (.free 13 (.free 14 (.free 15 (.free 16 (.free 17 (.free 18 (.done)))))))))))))))))))) (by kernel_rfl) (by kernel_rfl) (fun _ _ _ _ _ h => h) R ?_
        clear R
        intro wq R
        (refine wpT_free rfl rfl (.inl ⟨rfl, fun w _ => by go_simp; rfl⟩) (by assumption) ?_; (conv => arg 6; simp only [Act.put, List.setIfInBounds_toArray, List.set_cons_succ, List.set_cons_zero]))
        refine wpT_free rfl rfl (.inl ⟨rfl, fun w hw => run_ld1 Try.underlying3 rfl rfl rfl (hw.cell List.mem_cons_self (i := 0) rfl)⟩) (by assumption) ?_; (conv => arg 6; simp only [Act.put, List.setIfInBounds_toArray, List.set_cons_succ, List.set_cons_zero])
        by_cases e6 : t.kind = 6
        · have E6 := hid e6
          have hk2 := HW.out.k46 (.inr e6)
          have q0 : t.keys[0]? = some k0 := by rw [HK0.out, List.getD_eq_getElem?_getD, List.getElem?_eq_getElem (by omega)]; rfl
          have q1 : t.keys[1]? = some k1 := by rw [HK1.out, List.getD_eq_getElem?_getD, List.getElem?_eq_getElem (by omega)]; rfl
          have HO0 := hid (HTO.out.ks _ (List.mem_of_getElem? q0))
          have HO1 := hid (HTO.out.ks _ (List.mem_of_getElem? q1))
          obtain ⟨bk, off, hB, _⟩ := keys_at HTO.out.ks HBR.out q0
          subst hB
          have HC0 := hid (fun (w' : World) (L : List Item) (Q : Mem w6 (blks [.blk b11 (rowO .u8 26 (bytesOf s)), .blk b6 (rowO .u8 26 b), .blk b5 (rowO .u8 26 k)]) w' L) => keys_cells HTO.out.ks (HBR.out.elsewhere Q HE.out) q0)
          have HC1 := hid (fun (w' : World) (L : List Item) (Q : Mem w6 (blks [.blk b11 (rowO .u8 26 (bytesOf s)), .blk b6 (rowO .u8 26 b), .blk b5 (rowO .u8 26 k)]) w' L) => keys_cells HTO.out.ks (HBR.out.elsewhere Q HE.out) q1)
          clear q0 q1 e6
          have hk3 : (0 : Int) < (t.keys.length : Int) := by omega
          have hk4 : (1 : Int) < (t.keys.length : Int) := by omega
          refine wpT_free (v := .bool false) rfl rfl (.inl ⟨rfl, fun w _ => by have := E6.out; (go_simp <;> simp [this])⟩) (by assumption) ?_; (conv => arg 6; simp only [Act.put, List.setIfInBounds_toArray, List.set_cons_succ, List.set_cons_zero])
          iterate 2 (refine wpT_free rfl rfl (.inl ⟨rfl, fun w _ => by go_simp; rfl⟩) (by assumption) ?_; (conv => arg 6; simp only [Act.put, List.setIfInBounds_toArray, List.set_cons_succ, List.set_cons_zero]))
          refine wpT_free rfl rfl (.inl ⟨rfl, fun w hw => run_ld1 Try.underlying34 rfl rfl rfl (hw.cell (i := 2) List.mem_cons_self rfl)⟩) (by assumption) ?_; (conv => arg 6; simp only [Act.put, List.setIfInBounds_toArray, List.set_cons_succ, List.set_cons_zero])
          refine wpT_free (v := .pointer (some ⟨bk, off, none⟩)) rfl rfl (.inl ⟨rfl, fun w _ => by go_simp; intro hnil; rw [hnil] at hk2; simp at hk2⟩) (by assumption) ?_; (conv => arg 6; simp only [Act.put, List.setIfInBounds_toArray, List.set_cons_succ, List.set_cons_zero])
          refine wpT_free rfl rfl (.inl ⟨rfl, fun w hw => run_ldK Try.underlying26 rfl rfl rfl (by simpa using HC0.out w _ hw) (s26k HO0.out)⟩) (by assumption) ?_; (conv => arg 6; simp only [Act.put, List.setIfInBounds_toArray, List.set_cons_succ, List.set_cons_zero])
          refine wpT_free rfl rfl (.inl ⟨rfl, fun w hw => run_ldrowN Try.underlying26 s26 rfl rfl rfl hw (by (repeat (first | exact List.mem_cons_self | refine List.mem_cons_of_mem _ ?_))) HK.out.1⟩) (by assumption) ?_; (conv => arg 6; simp only [Act.put, List.setIfInBounds_toArray, List.set_cons_succ, List.set_cons_zero])
          by_cases h0 : k0 = k
          · refine wpT_free rfl rfl (.inl ⟨rfl, fun w _ => run_neq26b false rfl rfl rfl HO0.out.1 HK.out.1 (decide_eq_true h0) w⟩) (by assumption) ?_; (conv => arg 6; simp only [Act.put, List.setIfInBounds_toArray, List.set_cons_succ, List.set_cons_zero])
            iterate 3 (refine wpT_free rfl rfl (.inl ⟨rfl, fun w _ => by go_simp; rfl⟩) (by assumption) ?_; (conv => arg 6; simp only [Act.put, List.setIfInBounds_toArray, List.set_cons_succ, List.set_cons_zero]))
            refine wpT_free rfl rfl (.inl ⟨rfl, fun w hw => run_ld1 Try.underlying34 rfl rfl rfl (hw.cell (i := 2) List.mem_cons_self rfl)⟩) (by assumption) ?_; (conv => arg 6; simp only [Act.put, List.setIfInBounds_toArray, List.set_cons_succ, List.set_cons_zero])
            refine wpT_free (v := .pointer (some ⟨bk, off + 32, none⟩)) rfl rfl (.inl ⟨rfl, fun w _ => by go_simp⟩) (by assumption) ?_; (conv => arg 6; simp only [Act.put, List.setIfInBounds_toArray, List.set_cons_succ, List.set_cons_zero])
            refine wpT_free rfl rfl (.inl ⟨rfl, fun w hw => run_ldK Try.underlying26 rfl rfl rfl (by simpa using HC1.out w _ hw) (s26k HO1.out)⟩) (by assumption) ?_; (conv => arg 6; simp only [Act.put, List.setIfInBounds_toArray, List.set_cons_succ, List.set_cons_zero])
            refine wpT_free rfl rfl (.inl ⟨rfl, fun w hw => run_ldrowN Try.underlying26 s26 rfl rfl rfl hw (by (repeat (first | exact List.mem_cons_self | refine List.mem_cons_of_mem _ ?_))) HB.out.1⟩) (by assumption) ?_; (conv => arg 6; simp only [Act.put, List.setIfInBounds_toArray, List.set_cons_succ, List.set_cons_zero])
            by_cases h1 : k1 = b
            · have HOP := hid (show (if t.kind = 6 ∧ k0 = k ∧ k1 = b then some (t.text, t.keys.drop 2) else none) = some (t.text, t.keys.drop 2) from if_pos ⟨E6.out, h0, h1⟩)
              refine wpT_free rfl rfl (.inl ⟨rfl, fun w _ => run_neq26b false rfl rfl rfl HO1.out.1 HB.out.1 (decide_eq_true h1) w⟩) (by assumption) ?_; (conv => arg 6; simp only [Act.put, List.setIfInBounds_toArray, List.set_cons_succ, List.set_cons_zero])
              (refine wpT_free rfl rfl (.inl ⟨rfl, fun w _ => by go_simp; rfl⟩) (by assumption) ?_; (conv => arg 6; simp only [Act.put, List.setIfInBounds_toArray, List.set_cons_succ, List.set_cons_zero]))
              refine wpT_done ?_
              clear h0 h1
              go_upto_region 11 with fail
              refine wp_region_planT (.free 0 (.free 1 (.free 2 (.free 3 (.free 4 (.free 5 (.free 6 (.free 7 (.done))))))))) (by kernel_rfl) (by kernel_rfl) (fun _ _ _ _ _ h => h) R ?_
              clear R
              intro wr R
              (refine wpT_free rfl rfl (.inl ⟨rfl, fun w _ => by go_simp; rfl⟩) (by assumption) ?_; (conv => arg 6; simp only [Act.put, List.setIfInBounds_toArray, List.set_cons_succ, List.set_cons_zero]))
              refine wpT_free rfl rfl (.inl ⟨rfl, fun w hw => run_ld1 Try.underlying9 rfl rfl rfl (hw.cell List.mem_cons_self (i := 1) rfl)⟩) (by assumption) ?_; (conv => arg 6; simp only [Act.put, List.setIfInBounds_toArray, List.set_cons_succ, List.set_cons_zero])
              (refine wpT_free rfl rfl (.inl ⟨rfl, fun w _ => by go_simp; rfl⟩) (by assumption) ?_; (conv => arg 6; simp only [Act.put, List.setIfInBounds_toArray, List.set_cons_succ, List.set_cons_zero]))
              refine wpT_free rfl rfl (.inl ⟨rfl, fun w hw => run_ld1 Try.underlying34 rfl rfl rfl (hw.cell (i := 2) List.mem_cons_self rfl)⟩) (by assumption) ?_; (conv => arg 6; simp only [Act.put, List.setIfInBounds_toArray, List.set_cons_succ, List.set_cons_zero])
              refine wpT_free rfl rfl (.inl ⟨rfl, fun w _ => run_slLowM 2 Try.underlying34 s26 rfl rfl rfl rfl hk2 hd w⟩) (by assumption) ?_; (conv => arg 6; simp only [Act.put, List.setIfInBounds_toArray, List.set_cons_succ, List.set_cons_zero])
              iterate 3 (refine wpT_free rfl rfl (.inl ⟨rfl, fun w _ => by go_simp; rfl⟩) (by assumption) ?_; (conv => arg 6; simp only [Act.put, List.setIfInBounds_toArray, List.set_cons_succ, List.set_cons_zero]))
              refine wpT_done ?_
              go_wp2_with fail
              go_ret3
              rw [HRES.out, HOP.out]
              have hcl : RowT wr 26 (lowA (some ⟨bk, off, none⟩) d 2 32) (nums .u8 (t.keys.drop 2).flatten) := by
                have h1 := (HBR.out.elsewhere R HE.out).low (c := d) (low := 2) (size := 32) (by rw [nums_length, flat_len HTO.out.ks]; omega)
                rw [show (nums .u8 t.keys.flatten).drop (2 * 32) = nums .u8 (t.keys.drop 2).flatten from by rw [← flat_drop 2 HTO.out.ks, nums, nums, List.map_drop]] at h1
                exact h1
              refine ⟨lowA (some ⟨bk, off, none⟩) d 2 32, d - 2, by rw [List.length_drop]; rfl, by rw [List.length_drop]; omega, fun h => (by unfold lowA at h; split at h <;> cases h), hcl, fun hne ad hA => ?_, (M2.rejoin R).sub (List.nil_sublist _)⟩
              have hbk : ad.block = bk := by
                unfold lowA at hA
                split at hA
                · injection hA with hA; rw [← hA]
                · rw [Option.map_some, Addr.add_lit] at hA
                  injection hA with hA; rw [← hA]
              have := HBK.out (fun h => hne (by rw [h]; rfl)) _ rfl
              rw [hbk]
              exact this
            · have HOP := hid (show (if t.kind = 6 ∧ k0 = k ∧ k1 = b then some (t.text, t.keys.drop 2) else none) = none from if_neg (fun h => h1 h.2.2))
              refine wpT_free rfl rfl (.inl ⟨rfl, fun w _ => run_neq26b true rfl rfl rfl HO1.out.1 HB.out.1 (decide_eq_false h1) w⟩) (by assumption) ?_; (conv => arg 6; simp only [Act.put, List.setIfInBounds_toArray, List.set_cons_succ, List.set_cons_zero])
              (refine wpT_free rfl rfl (.inl ⟨rfl, fun w _ => by go_simp; rfl⟩) (by assumption) ?_; (conv => arg 6; simp only [Act.put, List.setIfInBounds_toArray, List.set_cons_succ, List.set_cons_zero]))
              clear h0 h1
              refine wpT_done ?_
              go_wp2_with fail
              go_ret3
              rw [HRES.out, HOP.out]
              exact ⟨rfl, (M2.rejoin R).sub (List.nil_sublist _)⟩
          · have HOP := hid (show (if t.kind = 6 ∧ k0 = k ∧ k1 = b then some (t.text, t.keys.drop 2) else none) = none from if_neg (fun h => h0 h.2.1))
            refine wpT_free rfl rfl (.inl ⟨rfl, fun w _ => run_neq26b true rfl rfl rfl HO0.out.1 HK.out.1 (decide_eq_false h0) w⟩) (by assumption) ?_; (conv => arg 6; simp only [Act.put, List.setIfInBounds_toArray, List.set_cons_succ, List.set_cons_zero])
            iterate 2 (refine wpT_free rfl rfl (.inl ⟨rfl, fun w _ => by go_simp; rfl⟩) (by assumption) ?_; (conv => arg 6; simp only [Act.put, List.setIfInBounds_toArray, List.set_cons_succ, List.set_cons_zero]))
            iterate 6 (refine wpT_free rfl rfl (.inr ⟨rfl, rfl⟩) (by assumption) ?_; (conv => arg 6; simp only [Act.put, List.setIfInBounds_toArray, List.set_cons_succ, List.set_cons_zero]))
            (refine wpT_free rfl rfl (.inl ⟨rfl, fun w _ => by go_simp; rfl⟩) (by assumption) ?_; (conv => arg 6; simp only [Act.put, List.setIfInBounds_toArray, List.set_cons_succ, List.set_cons_zero]))
            clear h0
            refine wpT_done ?_
            go_wp2_with fail
            go_ret3
            rw [HRES.out, HOP.out]
            exact ⟨rfl, (M2.rejoin R).sub (List.nil_sublist _)⟩
        · have HOP := hid (show (if t.kind = 6 ∧ k0 = k ∧ k1 = b then some (t.text, t.keys.drop 2) else none) = none from if_neg (fun h => e6 h.1))
          refine wpT_free (v := .bool true) rfl rfl (.inl ⟨rfl, fun w _ => by (go_simp <;> simpa using e6)⟩) (by assumption) ?_; (conv => arg 6; simp only [Act.put, List.setIfInBounds_toArray, List.set_cons_succ, List.set_cons_zero])
          (refine wpT_free rfl rfl (.inl ⟨rfl, fun w _ => by go_simp; rfl⟩) (by assumption) ?_; (conv => arg 6; simp only [Act.put, List.setIfInBounds_toArray, List.set_cons_succ, List.set_cons_zero]))
          iterate 6 (refine wpT_free rfl rfl (.inr ⟨rfl, rfl⟩) (by assumption) ?_; (conv => arg 6; simp only [Act.put, List.setIfInBounds_toArray, List.set_cons_succ, List.set_cons_zero]))
          iterate 2 (refine wpT_free rfl rfl (.inl ⟨rfl, fun w _ => by go_simp; rfl⟩) (by assumption) ?_; (conv => arg 6; simp only [Act.put, List.setIfInBounds_toArray, List.set_cons_succ, List.set_cons_zero]))
          iterate 6 (refine wpT_free rfl rfl (.inr ⟨rfl, rfl⟩) (by assumption) ?_; (conv => arg 6; simp only [Act.put, List.setIfInBounds_toArray, List.set_cons_succ, List.set_cons_zero]))
          (refine wpT_free rfl rfl (.inl ⟨rfl, fun w _ => by go_simp; rfl⟩) (by assumption) ?_; (conv => arg 6; simp only [Act.put, List.setIfInBounds_toArray, List.set_cons_succ, List.set_cons_zero]))
          clear e6
          refine wpT_done ?_
          go_wp2_with fail
          go_ret3
          rw [HRES.out, HOP.out]
          exact ⟨rfl, (M2.rejoin R).sub (List.nil_sublist _)⟩
  · rw [if_neg hs]
    have hne : ((s.size : Int) != 32) = true := by simpa using (show ¬ (s.size : Int) = 32 from by omega)
    clear hs
    go_enter Try.func74, Try.ntmps74
    go_wp2_with (first | (refine wpList_bxN 5 rfl rfl rfl rfl M0 ?_; clear M0; intro b5 w1 M; (conv => arg 5; simp only [Act.put, List.setIfInBounds_toArray, List.set_cons_succ, List.set_cons_zero])) | (refine wpList_bxN 6 rfl rfl rfl rfl M ?_; clear M; intro b6 w2 M; (conv => arg 5; simp only [Act.put, List.setIfInBounds_toArray, List.set_cons_succ, List.set_cons_zero])))
    go_ret3
    exact ⟨rfl, M.sub (List.nil_sublist _)⟩
end Go.Proofs.Ytcapfnbmmdbcoaa
