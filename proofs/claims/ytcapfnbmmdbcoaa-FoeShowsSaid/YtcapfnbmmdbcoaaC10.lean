/- Walks of the term layer: does a public key follow? Can a term be made of what follows? -/
import Derived.Test.YtcapfnbmmdbcoaaC9
set_option linter.unusedVariables false
set_option linter.unusedSimpArgs false
namespace Go.Proofs.Ytcapfnbmmdbcoaa
open Go.RowKit
def pubT (k : List Int) : Tm := ⟨3, ⟨#[]⟩, [k]⟩
def pubM (ts : List Tm) (bs : List Bool) (k : List Int) : Bool := hasM bs k || (decide (pubT k ∈ ts) && bs.getD (ts.idxOf (pubT k)) false)
theorem pubT_ok {k : List Int} (h : KeyOk k) : TmOk (pubT k) := tmOk (by decide) (by decide) (by decide) (by simp) (by simpa using h)
set_option maxRecDepth 100000 in
set_option maxHeartbeats 1000000 in
theorem pub80 (K : Nat → Prop) (f g mb kb c : Nat) (A : Option Addr) (ts : List Tm) (bs : List Bool) (k : List Int) (w : World) (T : TabP K w g mb A c ts) (h : FP w f g kb A c bs) (hk : KeyOk k) (hl : bs.length = ts.length) :
    Calls Try.prog 80 #[.pointer (some ⟨f, 0, none⟩), .agg (nums .u8 k).toArray] w (BoolR (pubM ts bs k) w) := by
  have M0 := Mem.start w
  have hn : bs.length ≤ 1000000 := by rw [hl]; exact T.few
  have H := hid h
  have H1 := hid h.c1
  have H0 := hid h.c0
  have HCM := hid (show w.cell? ⟨g, 1, none⟩ = some (.map (some mb)) from by rw [cell_of_row w g 1 _ 88 (0, 0) T.hg]; rfl)
  have HMB := hid T.hm
  have HK := hid hk
  have HMS := hid (mem_shape T (pubT_ok hk))
  have HSZ := hid (shapeS_size _ (pubT_ok hk))
  have HND := hid (shapes_nd T.ok T.nd)
  have HSS := hid (fun s (hs : s ∈ ts.map shapeS) => show s.size ≤ maxLen from by obtain ⟨u, hu, rfl⟩ := List.mem_map.1 hs; exact shapeS_size u (T.ok u hu))
  cases hh : hasM bs k
  · by_cases hin : pubT k ∈ ts
    · have hi := List.idxOf_lt_length_of_mem hin
      have HI := hid (show (ts.map shapeS)[ts.idxOf (pubT k)]? = some (shapeS (pubT k)) from by rw [List.getElem?_map, get_idx hin]; rfl)
      obtain ⟨b, hb⟩ : ∃ b, bs[ts.idxOf (pubT k)]? = some b := ⟨_, List.getElem?_eq_getElem (by omega)⟩
      rw [show pubM ts bs k = b from by rw [pubM, hh, decide_eq_true hin, List.getD_eq_getElem?_getD, hb]; simp]
      have HKB := hid (h.kn _ b hb)
      generalize hix : ts.idxOf (pubT k) = ix at *
      have hiI : (ix : Int) < (bs.length : Int) := by omega
      clear T h hk hb hin
      go_enter Try.func80, Try.ntmps80
      go_wp2_with (first | (refine wpList_bxN 3 rfl rfl rfl rfl M0 (fun b3 w1 M1 => ?_); clear M0; (conv => arg 5; simp only [Act.put, List.setIfInBounds_toArray, List.set_cons_succ, List.set_cons_zero])) | (refine wpList_ldrowN Try.underlying26 s26 rfl rfl rfl rfl M1 List.mem_cons_self HK.out.1 ?_; (conv => arg 5; simp only [Act.put, List.setIfInBounds_toArray, List.set_cons_succ, List.set_cons_zero])) | (go_at_call 42; refine (has42 f g kb c A bs k _ (H.out.below M1.below) HK.out hn).mono ?_; rintro e w2 ⟨rfl, M2⟩; have M3 := M1.call M2.below; rw [hh]; clear M1 M2))
      refine wp_region_planT (.free 0 (.free 1 (.free 2 (.free 3 (.free 4 (.free 5 (.free 6 (.free 7 (.one 8 (.free 9 (.one 10 (.one 11 (.free 12 (.free 13 (.free 14 (.free 15 (.free 16 (.done)))))))))))))))))) (by kernel_rfl) (by kernel_rfl) (fun _ _ _ _ _ h => h) M3 (fun w3 M4 => ?_)
      clear M3
      iterate 3 (refine wpT_free rfl rfl (.inl ⟨rfl, fun w _ => by go_simp; rfl⟩) (by assumption) ?_; (conv => arg 6; simp only [Act.put, List.setIfInBounds_toArray, List.set_cons_succ, List.set_cons_zero]))
      refine wpT_free rfl rfl (.inl ⟨rfl, fun w hw => run_ld1 Try.underlying23 rfl rfl rfl (hw.cell0 H0.out)⟩) (by assumption) ?_; (conv => arg 6; simp only [Act.put, List.setIfInBounds_toArray, List.set_cons_succ, List.set_cons_zero])
      iterate 2 (refine wpT_free rfl rfl (.inl ⟨rfl, fun w _ => by go_simp; rfl⟩) (by assumption) ?_; (conv => arg 6; simp only [Act.put, List.setIfInBounds_toArray, List.set_cons_succ, List.set_cons_zero]))
      refine wpT_free rfl rfl (.inl ⟨rfl, fun w hw => run_ld1 Try.underlying86 rfl rfl rfl (hw.cell0 HCM.out)⟩) (by assumption) ?_; (conv => arg 6; simp only [Act.put, List.setIfInBounds_toArray, List.set_cons_succ, List.set_cons_zero])
      refine wpT_free rfl rfl (.inl ⟨rfl, fun w hw => run_ldrowN Try.underlying26 s26 rfl rfl rfl hw List.mem_cons_self HK.out.1⟩) (by assumption) ?_; (conv => arg 6; simp only [Act.put, List.setIfInBounds_toArray, List.set_cons_succ, List.set_cons_zero])
      refine wpT_op rfl ?_
      refine wpList_bsK1 19 rfl rfl rfl rfl HK.out M4 (fun b19 w4 M5 => ?_); (conv => arg 5; simp only [Act.put, List.setIfInBounds_toArray, List.set_cons_succ, List.set_cons_zero])
      go_wp2_with fail
      clear M4
      have MS := M5.tail
      refine PlanTQ.mk MS ?_
      (refine wpT_free rfl rfl (.inl ⟨rfl, fun w _ => by go_simp; rfl⟩) (by assumption) ?_; (conv => arg 6; simp only [Act.put, List.setIfInBounds_toArray, List.set_cons_succ, List.set_cons_zero]))
      refine wpT_op rfl ?_
      go_wp2_with (go_at_call 65; refine (shape65 3 ⟨#[]⟩ (some ⟨b19, 0, none⟩) 1 [k] _ (by decide) (by decide) (by decide) (by simp) (by simpa using HK.out) (M5.blkT List.mem_cons_self)).mono ?_; rintro e w5 ⟨rfl, M6⟩; have M7 := MS.call M6.below; clear M5 M6 MS)
      have HM7 := hid (show w5.heap[mb]? = some (mapO (ts.map shapeS)) from by rw [M7.old mb (Array.getElem?_eq_some_iff.1 HMB.out).1 (by simp)]; exact HMB.out)
      refine PlanTQ.mk M7 (wpT_op rfl ?_)
      refine wpList_lkYes 22 rfl ix Try.underlying86 Try.underlying9 rfl rfl rfl (s := shapeS (pubT k)) rfl HSS.out HND.out HI.out HM7.out ?_; (conv => arg 5; simp only [Act.put, List.setIfInBounds_toArray, List.set_cons_succ, List.set_cons_zero])
      go_wp2_with fail
      refine PlanTQ.mk M7 ?_
      iterate 5 (refine wpT_free rfl rfl (.inl ⟨rfl, fun w _ => by go_simp; rfl⟩) (by assumption) ?_; (conv => arg 6; simp only [Act.put, List.setIfInBounds_toArray, List.set_cons_succ, List.set_cons_zero]))
      refine wpT_done ?_
      have c1 := M7.cell0 H1.out
      have ck := M7.cell0 HKB.out
      go_wp2_with (first | (apply wpList_want; (· rfl)))
      go_ret
      exact ⟨rfl, M7.sub (List.nil_sublist _)⟩
    · have HNO := hid (fun h => hin (HMS.out.1 h))
      rw [show pubM ts bs k = false from by rw [pubM, hh, decide_eq_false hin]; simp]
      clear T h hk hin
      go_enter Try.func80, Try.ntmps80
      go_wp2_with (first | (refine wpList_bxN 3 rfl rfl rfl rfl M0 (fun b3 w1 M1 => ?_); clear M0; (conv => arg 5; simp only [Act.put, List.setIfInBounds_toArray, List.set_cons_succ, List.set_cons_zero])) | (refine wpList_ldrowN Try.underlying26 s26 rfl rfl rfl rfl M1 List.mem_cons_self HK.out.1 ?_; (conv => arg 5; simp only [Act.put, List.setIfInBounds_toArray, List.set_cons_succ, List.set_cons_zero])) | (go_at_call 42; refine (has42 f g kb c A bs k _ (H.out.below M1.below) HK.out hn).mono ?_; rintro e w2 ⟨rfl, M2⟩; have M3 := M1.call M2.below; rw [hh]; clear M1 M2))
      refine wp_region_planT (.free 0 (.free 1 (.free 2 (.free 3 (.free 4 (.free 5 (.free 6 (.free 7 (.one 8 (.free 9 (.one 10 (.one 11 (.free 12 (.free 13 (.free 14 (.free 15 (.free 16 (.done)))))))))))))))))) (by kernel_rfl) (by kernel_rfl) (fun _ _ _ _ _ h => h) M3 (fun w3 M4 => ?_)
      clear M3
      iterate 3 (refine wpT_free rfl rfl (.inl ⟨rfl, fun w _ => by go_simp; rfl⟩) (by assumption) ?_; (conv => arg 6; simp only [Act.put, List.setIfInBounds_toArray, List.set_cons_succ, List.set_cons_zero]))
      refine wpT_free rfl rfl (.inl ⟨rfl, fun w hw => run_ld1 Try.underlying23 rfl rfl rfl (hw.cell0 H0.out)⟩) (by assumption) ?_; (conv => arg 6; simp only [Act.put, List.setIfInBounds_toArray, List.set_cons_succ, List.set_cons_zero])
      iterate 2 (refine wpT_free rfl rfl (.inl ⟨rfl, fun w _ => by go_simp; rfl⟩) (by assumption) ?_; (conv => arg 6; simp only [Act.put, List.setIfInBounds_toArray, List.set_cons_succ, List.set_cons_zero]))
      refine wpT_free rfl rfl (.inl ⟨rfl, fun w hw => run_ld1 Try.underlying86 rfl rfl rfl (hw.cell0 HCM.out)⟩) (by assumption) ?_; (conv => arg 6; simp only [Act.put, List.setIfInBounds_toArray, List.set_cons_succ, List.set_cons_zero])
      refine wpT_free rfl rfl (.inl ⟨rfl, fun w hw => run_ldrowN Try.underlying26 s26 rfl rfl rfl hw List.mem_cons_self HK.out.1⟩) (by assumption) ?_; (conv => arg 6; simp only [Act.put, List.setIfInBounds_toArray, List.set_cons_succ, List.set_cons_zero])
      refine wpT_op rfl ?_
      refine wpList_bsK1 19 rfl rfl rfl rfl HK.out M4 (fun b19 w4 M5 => ?_); (conv => arg 5; simp only [Act.put, List.setIfInBounds_toArray, List.set_cons_succ, List.set_cons_zero])
      go_wp2_with fail
      clear M4
      have MS := M5.tail
      refine PlanTQ.mk MS ?_
      (refine wpT_free rfl rfl (.inl ⟨rfl, fun w _ => by go_simp; rfl⟩) (by assumption) ?_; (conv => arg 6; simp only [Act.put, List.setIfInBounds_toArray, List.set_cons_succ, List.set_cons_zero]))
      refine wpT_op rfl ?_
      go_wp2_with (go_at_call 65; refine (shape65 3 ⟨#[]⟩ (some ⟨b19, 0, none⟩) 1 [k] _ (by decide) (by decide) (by decide) (by simp) (by simpa using HK.out) (M5.blkT List.mem_cons_self)).mono ?_; rintro e w5 ⟨rfl, M6⟩; have M7 := MS.call M6.below; clear M5 M6 MS)
      have HM7 := hid (show w5.heap[mb]? = some (mapO (ts.map shapeS)) from by rw [M7.old mb (Array.getElem?_eq_some_iff.1 HMB.out).1 (by simp)]; exact HMB.out)
      refine PlanTQ.mk M7 (wpT_op rfl ?_)
      refine wpList_lkNo 22 rfl Try.underlying86 Try.underlying9 z3 rfl rfl rfl (s := shapeS (pubT k)) rfl HSS.out HSZ.out HNO.out HM7.out ?_; (conv => arg 5; simp only [Act.put, List.setIfInBounds_toArray, List.set_cons_succ, List.set_cons_zero])
      go_wp2_with fail
      refine PlanTQ.mk M7 ?_
      iterate 5 (refine wpT_free rfl rfl (.inl ⟨rfl, fun w _ => by go_simp; rfl⟩) (by assumption) ?_; (conv => arg 6; simp only [Act.put, List.setIfInBounds_toArray, List.set_cons_succ, List.set_cons_zero]))
      refine wpT_done ?_
      go_wp2_with (first | (apply wpList_want; (· rfl)))
      go_ret
      exact ⟨rfl, M7.sub (List.nil_sublist _)⟩
  · rw [show pubM ts bs k = true from by rw [pubM, hh]; rfl]
    clear T h hk
    go_enter Try.func80, Try.ntmps80
    go_wp2_with (first | (refine wpList_bxN 3 rfl rfl rfl rfl M0 (fun b3 w1 M1 => ?_); clear M0; (conv => arg 5; simp only [Act.put, List.setIfInBounds_toArray, List.set_cons_succ, List.set_cons_zero])) | (refine wpList_ldrowN Try.underlying26 s26 rfl rfl rfl rfl M1 List.mem_cons_self HK.out.1 ?_; (conv => arg 5; simp only [Act.put, List.setIfInBounds_toArray, List.set_cons_succ, List.set_cons_zero])) | (go_at_call 42; refine (has42 f g kb c A bs k _ (H.out.below M1.below) HK.out hn).mono ?_; rintro e w2 ⟨rfl, M2⟩; have M3 := M1.call M2.below; rw [hh]; clear M1 M2))
    go_wp2_with fail
    go_ret
    exact ⟨rfl, M3.sub (List.nil_sublist _)⟩
end Go.Proofs.Ytcapfnbmmdbcoaa
