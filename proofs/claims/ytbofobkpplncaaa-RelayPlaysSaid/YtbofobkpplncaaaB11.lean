/- Walks of the relay layer's laws: RelayPlays. -/
import Derived.Test.YtbofobkpplncaaaB10
set_option linter.unusedVariables false
set_option linter.unusedSimpArgs false
namespace Go.Proofs.Ytbofobkpplncaaa
open Go.RowKit
set_option maxRecDepth 100000 in
set_option maxHeartbeats 2000000 in
theorem RelayPlays3 (A : Option Addr) (cap : Nat) (acts : List ActV) (w : World) (hA : ActsR w A acts) (hs : ∀ a ∈ acts, a.s.size ≤ maxLen) (hn : acts.length ≤ maxLen) :
    Calls Try.prog 3 #[.slice A acts.length cap] w fun e w' => e = .returned (.bool true) ∧ Below w.heap.size w w' := by
  have M0 := Mem.start w
  go_enter Try.func3, Try.ntmps3
  go_wp2_with (first | (go_at_call 6; refine (alive6 _).mono ?_; rintro e w1 ⟨rfl, M1⟩) | (apply wpList_bld b28; (· rfl); (· rfl); (· rfl); (conv => arg 5; simp only [Act.put, List.setIfInBounds_toArray, List.set_cons_succ, List.set_cons_zero])) | (apply wpList_bld b31; (· rfl); (· rfl); (· rfl); (conv => arg 5; simp only [Act.put, List.setIfInBounds_toArray, List.set_cons_succ, List.set_cons_zero])) | (refine wpList_bx rfl rfl M1 rfl (cs := nil8) rfl (fun b18 w2 M2 => ?_); clear M1; (conv => arg 5; simp only [Act.put, List.setIfInBounds_toArray, List.set_cons_succ, List.set_cons_zero])) | (refine wpList_bx rfl rfl M2 rfl (cs := nil8) rfl (fun b20 w3 M3 => ?_); clear M2; (conv => arg 5; simp only [Act.put, List.setIfInBounds_toArray, List.set_cons_succ, List.set_cons_zero])))
  have hne : b18 ≠ b20 := fun e => by
    have h := (List.pairwise_cons.1 M3.apart).1 (.blk b18 (cellsO 28 nil8)) List.mem_cons_self b20 rfl
    rw [e] at h
    exact h rfl
  have hb18 : w.heap.size ≤ b18 := (M3.fresh _ (List.mem_cons_of_mem _ List.mem_cons_self) b18 rfl).resolve_left (by simp)
  have hb20 : w.heap.size ≤ b20 := (M3.fresh _ List.mem_cons_self b20 rfl).resolve_left (by simp)
  have R1 : RS w3 b18 28 boxes0 nil8 := RS.zero (M3.holds _ (List.mem_cons_of_mem _ List.mem_cons_self))
  have R2 : RS w3 b20 31 boxes0 nil8 := RS.zero (M3.holds _ List.mem_cons_self)
  have B3 := M3.below
  clear M3 M0
  go_loopw [6] (fun n wr => ∃ (i : Nat) (Ls : Boxes) (v1 v2 : List Value), i ≤ acts.length ∧ n = .int .i64 i ∧ RS wr b18 28 Ls v1 ∧ RS wr b20 31 Ls v2 ∧ Below w.heap.size w wr) (fun n _ => acts.length - (intOf n).toNat)
  case atStart => exact ⟨0, boxes0, nil8, nil8, by omega, rfl, R1, R2, B3⟩
  case round =>
    clear R1 R2 B3
    obtain ⟨i, Ls, v1, v2, hi, rfl, R1, R2, B⟩ := hrel
    by_cases hlt : i < acts.length
    · have hltI : (i : Int) < (acts.length : Int) := by omega
      by_cases h150 : i < 150
      · have h150I : (i : Int) < 150 := by omega
        obtain ⟨a, ha⟩ : ∃ a, acts[i]? = some a := ⟨acts[i], List.getElem?_eq_getElem hlt⟩
        have hsz := hs a (List.mem_of_getElem? ha)
        obtain ⟨b, off, rfl, hcs⟩ := hA i a ha
        have HCS := hid (fun (j : Nat) (v : Value) (hv : a.cs[j]? = some v) => below_cell B (hcs j v hv))
        have hb18r : b18 < wr.heap.size := (Array.getElem?_eq_some_iff.1 R1.1).1
        have hb20r : b20 < wr.heap.size := (Array.getElem?_eq_some_iff.1 R2.1).1
        have M1 := Mem.start wr
        have h5 := Int.tmod_lt_of_pos a.kind (show (0 : Int) < 5 by decide)
        have HH5 := hid h5
        clear ha hcs hA hs h5
        by_cases h1000 : a.s.size ≤ 1000
        · have h1000I : ¬ (1000 : Int) < (a.s.size : Int) := by omega
          by_cases hk0 : a.kind.tmod 5 = 0
          ·
            have h7 := fun w' (h : RS w' b18 28 Ls v1) => Do7 b18 a.kind a.to a.i a.k a.s Ls v1 w' h
            have hr := fun w' (h : RS w' b20 31 Ls v2) => Post8_any b20 a.to a.s Ls v2 w' h
            have hN := fun w' => Do7_nil a.kind a.to a.i a.k a.s w'
            simp only [stepA, if_pos hk0] at h7
            rw [show nilE a.kind = 1 from by unfold nilE; rw [if_pos hk0]] at hN
            obtain ⟨st, hst⟩ : ∃ st, st = postA Ls a.to a.s := ⟨_, rfl⟩
            rw [← hst] at h7 hr
            have H7 := hid h7
            have HRef := hid hr
            have HN := hid hN
            clear h7 hr hN hst
            go_wp2_with (first | (refine wpList_ldagg 34 rfl Try.underlying33 rfl rfl rfl rfl (cs := a.cs) (fun j v hv => HCS.out j v hv) sz33 ?_; (conv => arg 5; simp only [Act.put, List.setIfInBounds_toArray, List.set_cons_succ, List.set_cons_zero])) | (refine wpList_al rfl rfl M1 z33 rfl (fun b7 w1 M2 => ?_); clear M1; (conv => arg 5; simp only [Act.put, List.setIfInBounds_toArray, List.set_cons_succ, List.set_cons_zero])) | (refine wpList_strow rfl rfl rfl rfl (vs := a.cs) M2 Swap.head sz33 rfl (box33 _ _ _ _ _) (fun w2 M3 => ?_); clear M2; (conv => arg 5; simp only [Act.put, List.setIfInBounds_toArray, List.set_cons_succ, List.set_cons_zero]); have hact : actAt w2 b7 a := M3.holds _ List.mem_cons_self; have hb7 : wr.heap.size ≤ b7 := (M3.fresh _ List.mem_cons_self b7 rfl).resolve_left (by simp); have HACT := hid hact; clear hact; have c4 := HACT.out.cell 4 _ rfl) | (refine wpList_ldagg 41 rfl Try.underlying33 rfl rfl rfl rfl (off := 0) (cs := a.cs) (fun j v hv => by rw [Nat.zero_add]; exact HACT.out.cell j v hv) sz33 ?_; (conv => arg 5; simp only [Act.put, List.setIfInBounds_toArray, List.set_cons_succ, List.set_cons_zero])) | (go_at_call 7; refine (H7.out _ (R1.below M3.below)).mono ?_; rintro e w3 ⟨rfl, v1x, S1, hg1, _⟩; clear c4 H7; have HA3 := hid (HACT.out.grown hg1 (by omega)); have S2 := (R2.below M3.below).grown hg1 (R1.below M3.below).1 (by decide) hne.symm; have c0 := HA3.out.cell 0 _ rfl; have c1 := HA3.out.cell 1 _ rfl; have c2 := HA3.out.cell 2 _ rfl; have c3 := HA3.out.cell 3 _ rfl; have c4 := HA3.out.cell 4 _ rfl; have B1 := below_grown (B.trans (M3.below.mono B.size)) rfl hg1 hb18) | (refine (HRef.out _ S2).mono ?_; rintro e w4 ⟨v2x, rfl, T2, hg2, _⟩; clear c0 c1 c2 c3 c4 HRef; have T1 := S1.grown hg2 S2.1 (by decide) hne; have HAx := hid (HA3.out.grown hg2 (by omega)); have Bx := below_grown B1 rfl hg2 hb20))
            go_loopw [12] (fun n wt => ∃ t : Int, n = .int .i64 t ∧ -1 ≤ t ∧ t ≤ 9 ∧ Mem _ [] wt []) (fun n _ => (9 - intOf n).toNat)
            case atStart => exact ⟨-1, rfl, by omega, by omega, Mem.start _⟩
            case round =>
              obtain ⟨t, rfl, ht0, ht1, Mt⟩ := hrel
              by_cases ht9 : t < 9
              · by_cases htn : t < 0
                · go_wp2_with (go_at_call 12; refine (Mail12_out _ t _ (.inl htn)).mono ?_; rintro e w6 ⟨A6, c6, rfl, _, _, _, hb6, _⟩)
                  go_roundw
                  case rel => exact ⟨t + 1, by go_num, by omega, by omega, Mt.call hb6⟩
                  case measure => simp [intOf]; omega
                · by_cases ht7 : 7 < t
                  · go_wp2_with (go_at_call 12; refine (Mail12_out _ t _ (.inr (by omega))).mono ?_; rintro e w6 ⟨A6, c6, rfl, _, _, _, hb6, _⟩)
                    go_roundw
                    case rel => exact ⟨t + 1, by go_num, by omega, by omega, Mt.call hb6⟩
                    case measure => simp [intOf]; omega
                  · obtain ⟨k, rfl⟩ := Int.eq_ofNat_of_zero_le (show 0 ≤ t by omega)
                    have hk8 : k < 8 := by omega
                    have hk8I : (k : Int) < 8 := by omega
                    obtain ⟨L, A2, c2, hL, hv2, hc2, hn2, hr2, hl2⟩ := T2.at hk8
                    have HC := hid (RS.cell T2.1 hv2)
                    have HM := hid (MailRS T1 hL hk8)
                    have HR2 := hid hr2
                    clear T1 T2 hL hv2 hr2 hn2
                    go_wp2_with fail
                    refine wp_region_planT (.free 0 (.free 1 (.free 3 (.free 4 (.free 5 (.free 6 (.free 7 (.free 8 (.one 2 (.one 9 (.free 10 (.done)))))))))))) (by kernel_rfl) (by kernel_rfl) (fun _ _ _ _ _ h => h) Mt (fun w5 M5 => ?_)
                    clear Mt
                    iterate 7 (refine wpT_free rfl rfl (.inl ⟨rfl, fun w _ => by go_simp; rfl⟩) (by assumption) ?_; (conv => arg 6; simp only [Act.put, List.setIfInBounds_toArray, List.set_cons_succ, List.set_cons_zero]))
                    refine wpT_free rfl rfl (.inl ⟨rfl, fun w hw => run_ld1 Try.underlying25 rfl rfl rfl (hw.cell0 HC.out)⟩) (by assumption) ?_; (conv => arg 6; simp only [Act.put, List.setIfInBounds_toArray, List.set_cons_succ, List.set_cons_zero])
                    refine wpT_op rfl ?_
                    go_wp2_with (go_at_call 12; refine (HM.out _ M5).mono ?_; rintro e w6 ⟨A6, c6, rfl, _, _, hr6, hb6, _⟩)
                    replace M5 := M5.call hb6
                    refine PlanTQ.mk M5 (wpT_op rfl ?_)
                    go_wp2_with (go_at_call 13; refine (Same13 A6 A2 c6 c2 L _ hr6 (HR2.out.mem M5) (by omega)).mono ?_; rintro e w7 ⟨rfl, M7⟩)
                    replace M5 := M5.call M7.below
                    refine PlanTQ.mk M5 ?_
                    (refine wpT_free rfl rfl (.inl ⟨rfl, fun w _ => by go_simp; rfl⟩) (by assumption) ?_; (conv => arg 6; simp only [Act.put, List.setIfInBounds_toArray, List.set_cons_succ, List.set_cons_zero]))
                    refine wpT_done ?_
                    go_wp2_with fail
                    go_roundw
                    case rel => exact ⟨(k : Int) + 1, by go_num, by omega, by omega, M5⟩
                    case measure => simp [intOf]; omega
              · obtain rfl : t = 9 := by omega
                clear ht0 ht1
                have HT1 := hid T1
                have HT2 := hid T2
                clear T1 T2
                go_wp2_with (first | (refine wpList_ldagg 132 rfl Try.underlying33 rfl rfl rfl rfl (off := 0) (cs := a.cs) (fun j v hv => by rw [Nat.zero_add]; exact (HAx.out.below Mt.below).cell j v hv) sz33 ?_; (conv => arg 5; simp only [Act.put, List.setIfInBounds_toArray, List.set_cons_succ, List.set_cons_zero])) | (go_at_call 7; refine (HN.out _).mono ?_; rintro e w6 ⟨rfl, hb6⟩; have Mf := Mt.call hb6; have c0 := (HAx.out.below Mf.below).cell 0 _ rfl; have c1 := (HAx.out.below Mf.below).cell 1 _ rfl) | (apply wpList_wantLd; (· rfl)) | (apply wpList_wantCall; (· rfl)) | (go_at_call 12; refine (Mail12_nil _ _).mono ?_; rintro e w8 ⟨A8, c8, rfl, _, _, _, hb8, _⟩; replace Mf := Mf.call hb8))
                go_roundw
                case rel => exact ⟨i + 1, _, _, _, by omega, by go_num, HT1.out.below Mf.below, HT2.out.below Mf.below, Bx.trans (Mf.below.mono Bx.size)⟩
                case measure => simp [intOf]; omega
          by_cases hk1 : a.kind.tmod 5 = 1
          ·
            have h7 := fun w' (h : RS w' b18 28 Ls v1) => Do7 b18 a.kind a.to a.i a.k a.s Ls v1 w' h
            have hr := fun w' (h : RS w' b20 31 Ls v2) => Take9_any b20 a.to a.i Ls v2 w' h
            have hN := fun w' => Do7_nil a.kind a.to a.i a.k a.s w'
            simp only [stepA, if_neg hk0, if_pos hk1] at h7
            rw [show nilE a.kind = 22 from by unfold nilE; rw [if_neg (by omega), if_pos (by omega)]] at hN
            obtain ⟨st, hst⟩ : ∃ st, st = takeA Ls a.to a.i := ⟨_, rfl⟩
            rw [← hst] at h7 hr
            have H7 := hid h7
            have HRef := hid hr
            have HN := hid hN
            clear h7 hr hN hst
            clear hk0
            go_wp2_with (first | (refine wpList_ldagg 34 rfl Try.underlying33 rfl rfl rfl rfl (cs := a.cs) (fun j v hv => HCS.out j v hv) sz33 ?_; (conv => arg 5; simp only [Act.put, List.setIfInBounds_toArray, List.set_cons_succ, List.set_cons_zero])) | (refine wpList_al rfl rfl M1 z33 rfl (fun b7 w1 M2 => ?_); clear M1; (conv => arg 5; simp only [Act.put, List.setIfInBounds_toArray, List.set_cons_succ, List.set_cons_zero])) | (refine wpList_strow rfl rfl rfl rfl (vs := a.cs) M2 Swap.head sz33 rfl (box33 _ _ _ _ _) (fun w2 M3 => ?_); clear M2; (conv => arg 5; simp only [Act.put, List.setIfInBounds_toArray, List.set_cons_succ, List.set_cons_zero]); have hact : actAt w2 b7 a := M3.holds _ List.mem_cons_self; have hb7 : wr.heap.size ≤ b7 := (M3.fresh _ List.mem_cons_self b7 rfl).resolve_left (by simp); have HACT := hid hact; clear hact; have c4 := HACT.out.cell 4 _ rfl) | (refine wpList_ldagg 41 rfl Try.underlying33 rfl rfl rfl rfl (off := 0) (cs := a.cs) (fun j v hv => by rw [Nat.zero_add]; exact HACT.out.cell j v hv) sz33 ?_; (conv => arg 5; simp only [Act.put, List.setIfInBounds_toArray, List.set_cons_succ, List.set_cons_zero])) | (go_at_call 7; refine (H7.out _ (R1.below M3.below)).mono ?_; rintro e w3 ⟨rfl, v1x, S1, hg1, _⟩; clear c4 H7; have HA3 := hid (HACT.out.grown hg1 (by omega)); have S2 := (R2.below M3.below).grown hg1 (R1.below M3.below).1 (by decide) hne.symm; have c0 := HA3.out.cell 0 _ rfl; have c1 := HA3.out.cell 1 _ rfl; have c2 := HA3.out.cell 2 _ rfl; have c3 := HA3.out.cell 3 _ rfl; have c4 := HA3.out.cell 4 _ rfl; have B1 := below_grown (B.trans (M3.below.mono B.size)) rfl hg1 hb18) | (refine (HRef.out _ S2).mono ?_; rintro e w4 ⟨v2x, rfl, T2, hg2, _⟩; clear c0 c1 c2 c3 c4 HRef; have T1 := S1.grown hg2 S2.1 (by decide) hne; have HAx := hid (HA3.out.grown hg2 (by omega)); have Bx := below_grown B1 rfl hg2 hb20))
            go_loopw [12] (fun n wt => ∃ t : Int, n = .int .i64 t ∧ -1 ≤ t ∧ t ≤ 9 ∧ Mem _ [] wt []) (fun n _ => (9 - intOf n).toNat)
            case atStart => exact ⟨-1, rfl, by omega, by omega, Mem.start _⟩
            case round =>
              obtain ⟨t, rfl, ht0, ht1, Mt⟩ := hrel
              by_cases ht9 : t < 9
              · by_cases htn : t < 0
                · go_wp2_with (go_at_call 12; refine (Mail12_out _ t _ (.inl htn)).mono ?_; rintro e w6 ⟨A6, c6, rfl, _, _, _, hb6, _⟩)
                  go_roundw
                  case rel => exact ⟨t + 1, by go_num, by omega, by omega, Mt.call hb6⟩
                  case measure => simp [intOf]; omega
                · by_cases ht7 : 7 < t
                  · go_wp2_with (go_at_call 12; refine (Mail12_out _ t _ (.inr (by omega))).mono ?_; rintro e w6 ⟨A6, c6, rfl, _, _, _, hb6, _⟩)
                    go_roundw
                    case rel => exact ⟨t + 1, by go_num, by omega, by omega, Mt.call hb6⟩
                    case measure => simp [intOf]; omega
                  · obtain ⟨k, rfl⟩ := Int.eq_ofNat_of_zero_le (show 0 ≤ t by omega)
                    have hk8 : k < 8 := by omega
                    have hk8I : (k : Int) < 8 := by omega
                    obtain ⟨L, A2, c2, hL, hv2, hc2, hn2, hr2, hl2⟩ := T2.at hk8
                    have HC := hid (RS.cell T2.1 hv2)
                    have HM := hid (MailRS T1 hL hk8)
                    have HR2 := hid hr2
                    clear T1 T2 hL hv2 hr2 hn2
                    go_wp2_with fail
                    refine wp_region_planT (.free 0 (.free 1 (.free 3 (.free 4 (.free 5 (.free 6 (.free 7 (.free 8 (.one 2 (.one 9 (.free 10 (.done)))))))))))) (by kernel_rfl) (by kernel_rfl) (fun _ _ _ _ _ h => h) Mt (fun w5 M5 => ?_)
                    clear Mt
                    iterate 7 (refine wpT_free rfl rfl (.inl ⟨rfl, fun w _ => by go_simp; rfl⟩) (by assumption) ?_; (conv => arg 6; simp only [Act.put, List.setIfInBounds_toArray, List.set_cons_succ, List.set_cons_zero]))
                    refine wpT_free rfl rfl (.inl ⟨rfl, fun w hw => run_ld1 Try.underlying25 rfl rfl rfl (hw.cell0 HC.out)⟩) (by assumption) ?_; (conv => arg 6; simp only [Act.put, List.setIfInBounds_toArray, List.set_cons_succ, List.set_cons_zero])
                    refine wpT_op rfl ?_
                    go_wp2_with (go_at_call 12; refine (HM.out _ M5).mono ?_; rintro e w6 ⟨A6, c6, rfl, _, _, hr6, hb6, _⟩)
                    replace M5 := M5.call hb6
                    refine PlanTQ.mk M5 (wpT_op rfl ?_)
                    go_wp2_with (go_at_call 13; refine (Same13 A6 A2 c6 c2 L _ hr6 (HR2.out.mem M5) (by omega)).mono ?_; rintro e w7 ⟨rfl, M7⟩)
                    replace M5 := M5.call M7.below
                    refine PlanTQ.mk M5 ?_
                    (refine wpT_free rfl rfl (.inl ⟨rfl, fun w _ => by go_simp; rfl⟩) (by assumption) ?_; (conv => arg 6; simp only [Act.put, List.setIfInBounds_toArray, List.set_cons_succ, List.set_cons_zero]))
                    refine wpT_done ?_
                    go_wp2_with fail
                    go_roundw
                    case rel => exact ⟨(k : Int) + 1, by go_num, by omega, by omega, M5⟩
                    case measure => simp [intOf]; omega
              · obtain rfl : t = 9 := by omega
                clear ht0 ht1
                have HT1 := hid T1
                have HT2 := hid T2
                clear T1 T2
                go_wp2_with (first | (refine wpList_ldagg 132 rfl Try.underlying33 rfl rfl rfl rfl (off := 0) (cs := a.cs) (fun j v hv => by rw [Nat.zero_add]; exact (HAx.out.below Mt.below).cell j v hv) sz33 ?_; (conv => arg 5; simp only [Act.put, List.setIfInBounds_toArray, List.set_cons_succ, List.set_cons_zero])) | (go_at_call 7; refine (HN.out _).mono ?_; rintro e w6 ⟨rfl, hb6⟩; have Mf := Mt.call hb6; have c0 := (HAx.out.below Mf.below).cell 0 _ rfl; have c1 := (HAx.out.below Mf.below).cell 1 _ rfl) | (apply wpList_wantLd; (· rfl)) | (apply wpList_wantCall; (· rfl)) | (go_at_call 12; refine (Mail12_nil _ _).mono ?_; rintro e w8 ⟨A8, c8, rfl, _, _, _, hb8, _⟩; replace Mf := Mf.call hb8))
                go_roundw
                case rel => exact ⟨i + 1, _, _, _, by omega, by go_num, HT1.out.below Mf.below, HT2.out.below Mf.below, Bx.trans (Mf.below.mono Bx.size)⟩
                case measure => simp [intOf]; omega
          by_cases hk2 : a.kind.tmod 5 = 2
          ·
            have h7 := fun w' (h : RS w' b18 28 Ls v1) => Do7 b18 a.kind a.to a.i a.k a.s Ls v1 w' h
            have hr := fun w' (h : RS w' b20 31 Ls v2) => Take9_any b20 a.to a.i Ls v2 w' h
            have hN := fun w' => Do7_nil a.kind a.to a.i a.k a.s w'
            simp only [stepA, if_neg hk0, if_neg hk1, if_pos hk2] at h7
            rw [show nilE a.kind = 22 from by unfold nilE; rw [if_neg (by omega), if_pos (by omega)]] at hN
            obtain ⟨st, hst⟩ : ∃ st, st = takeA Ls a.to a.i := ⟨_, rfl⟩
            rw [← hst] at h7 hr
            have H7 := hid h7
            have HRef := hid hr
            have HN := hid hN
            clear h7 hr hN hst
            clear hk0 hk1
            go_wp2_with (first | (refine wpList_ldagg 34 rfl Try.underlying33 rfl rfl rfl rfl (cs := a.cs) (fun j v hv => HCS.out j v hv) sz33 ?_; (conv => arg 5; simp only [Act.put, List.setIfInBounds_toArray, List.set_cons_succ, List.set_cons_zero])) | (refine wpList_al rfl rfl M1 z33 rfl (fun b7 w1 M2 => ?_); clear M1; (conv => arg 5; simp only [Act.put, List.setIfInBounds_toArray, List.set_cons_succ, List.set_cons_zero])) | (refine wpList_strow rfl rfl rfl rfl (vs := a.cs) M2 Swap.head sz33 rfl (box33 _ _ _ _ _) (fun w2 M3 => ?_); clear M2; (conv => arg 5; simp only [Act.put, List.setIfInBounds_toArray, List.set_cons_succ, List.set_cons_zero]); have hact : actAt w2 b7 a := M3.holds _ List.mem_cons_self; have hb7 : wr.heap.size ≤ b7 := (M3.fresh _ List.mem_cons_self b7 rfl).resolve_left (by simp); have HACT := hid hact; clear hact; have c4 := HACT.out.cell 4 _ rfl) | (refine wpList_ldagg 41 rfl Try.underlying33 rfl rfl rfl rfl (off := 0) (cs := a.cs) (fun j v hv => by rw [Nat.zero_add]; exact HACT.out.cell j v hv) sz33 ?_; (conv => arg 5; simp only [Act.put, List.setIfInBounds_toArray, List.set_cons_succ, List.set_cons_zero])) | (go_at_call 7; refine (H7.out _ (R1.below M3.below)).mono ?_; rintro e w3 ⟨rfl, v1x, S1, hg1, _⟩; clear c4 H7; have HA3 := hid (HACT.out.grown hg1 (by omega)); have S2 := (R2.below M3.below).grown hg1 (R1.below M3.below).1 (by decide) hne.symm; have c0 := HA3.out.cell 0 _ rfl; have c1 := HA3.out.cell 1 _ rfl; have c2 := HA3.out.cell 2 _ rfl; have c3 := HA3.out.cell 3 _ rfl; have c4 := HA3.out.cell 4 _ rfl; have B1 := below_grown (B.trans (M3.below.mono B.size)) rfl hg1 hb18) | (refine (HRef.out _ S2).mono ?_; rintro e w4 ⟨v2x, rfl, T2, hg2, _⟩; clear c0 c1 c2 c3 c4 HRef; have T1 := S1.grown hg2 S2.1 (by decide) hne; have HAx := hid (HA3.out.grown hg2 (by omega)); have Bx := below_grown B1 rfl hg2 hb20))
            go_loopw [12] (fun n wt => ∃ t : Int, n = .int .i64 t ∧ -1 ≤ t ∧ t ≤ 9 ∧ Mem _ [] wt []) (fun n _ => (9 - intOf n).toNat)
            case atStart => exact ⟨-1, rfl, by omega, by omega, Mem.start _⟩
            case round =>
              obtain ⟨t, rfl, ht0, ht1, Mt⟩ := hrel
              by_cases ht9 : t < 9
              · by_cases htn : t < 0
                · go_wp2_with (go_at_call 12; refine (Mail12_out _ t _ (.inl htn)).mono ?_; rintro e w6 ⟨A6, c6, rfl, _, _, _, hb6, _⟩)
                  go_roundw
                  case rel => exact ⟨t + 1, by go_num, by omega, by omega, Mt.call hb6⟩
                  case measure => simp [intOf]; omega
                · by_cases ht7 : 7 < t
                  · go_wp2_with (go_at_call 12; refine (Mail12_out _ t _ (.inr (by omega))).mono ?_; rintro e w6 ⟨A6, c6, rfl, _, _, _, hb6, _⟩)
                    go_roundw
                    case rel => exact ⟨t + 1, by go_num, by omega, by omega, Mt.call hb6⟩
                    case measure => simp [intOf]; omega
                  · obtain ⟨k, rfl⟩ := Int.eq_ofNat_of_zero_le (show 0 ≤ t by omega)
                    have hk8 : k < 8 := by omega
                    have hk8I : (k : Int) < 8 := by omega
                    obtain ⟨L, A2, c2, hL, hv2, hc2, hn2, hr2, hl2⟩ := T2.at hk8
                    have HC := hid (RS.cell T2.1 hv2)
                    have HM := hid (MailRS T1 hL hk8)
                    have HR2 := hid hr2
                    clear T1 T2 hL hv2 hr2 hn2
                    go_wp2_with fail
                    refine wp_region_planT (.free 0 (.free 1 (.free 3 (.free 4 (.free 5 (.free 6 (.free 7 (.free 8 (.one 2 (.one 9 (.free 10 (.done)))))))))))) (by kernel_rfl) (by kernel_rfl) (fun _ _ _ _ _ h => h) Mt (fun w5 M5 => ?_)
                    clear Mt
                    iterate 7 (refine wpT_free rfl rfl (.inl ⟨rfl, fun w _ => by go_simp; rfl⟩) (by assumption) ?_; (conv => arg 6; simp only [Act.put, List.setIfInBounds_toArray, List.set_cons_succ, List.set_cons_zero]))
                    refine wpT_free rfl rfl (.inl ⟨rfl, fun w hw => run_ld1 Try.underlying25 rfl rfl rfl (hw.cell0 HC.out)⟩) (by assumption) ?_; (conv => arg 6; simp only [Act.put, List.setIfInBounds_toArray, List.set_cons_succ, List.set_cons_zero])
                    refine wpT_op rfl ?_
                    go_wp2_with (go_at_call 12; refine (HM.out _ M5).mono ?_; rintro e w6 ⟨A6, c6, rfl, _, _, hr6, hb6, _⟩)
                    replace M5 := M5.call hb6
                    refine PlanTQ.mk M5 (wpT_op rfl ?_)
                    go_wp2_with (go_at_call 13; refine (Same13 A6 A2 c6 c2 L _ hr6 (HR2.out.mem M5) (by omega)).mono ?_; rintro e w7 ⟨rfl, M7⟩)
                    replace M5 := M5.call M7.below
                    refine PlanTQ.mk M5 ?_
                    (refine wpT_free rfl rfl (.inl ⟨rfl, fun w _ => by go_simp; rfl⟩) (by assumption) ?_; (conv => arg 6; simp only [Act.put, List.setIfInBounds_toArray, List.set_cons_succ, List.set_cons_zero]))
                    refine wpT_done ?_
                    go_wp2_with fail
                    go_roundw
                    case rel => exact ⟨(k : Int) + 1, by go_num, by omega, by omega, M5⟩
                    case measure => simp [intOf]; omega
              · obtain rfl : t = 9 := by omega
                clear ht0 ht1
                have HT1 := hid T1
                have HT2 := hid T2
                clear T1 T2
                go_wp2_with (first | (refine wpList_ldagg 132 rfl Try.underlying33 rfl rfl rfl rfl (off := 0) (cs := a.cs) (fun j v hv => by rw [Nat.zero_add]; exact (HAx.out.below Mt.below).cell j v hv) sz33 ?_; (conv => arg 5; simp only [Act.put, List.setIfInBounds_toArray, List.set_cons_succ, List.set_cons_zero])) | (go_at_call 7; refine (HN.out _).mono ?_; rintro e w6 ⟨rfl, hb6⟩; have Mf := Mt.call hb6; have c0 := (HAx.out.below Mf.below).cell 0 _ rfl; have c1 := (HAx.out.below Mf.below).cell 1 _ rfl) | (apply wpList_wantLd; (· rfl)) | (apply wpList_wantCall; (· rfl)) | (go_at_call 12; refine (Mail12_nil _ _).mono ?_; rintro e w8 ⟨A8, c8, rfl, _, _, _, hb8, _⟩; replace Mf := Mf.call hb8))
                go_roundw
                case rel => exact ⟨i + 1, _, _, _, by omega, by go_num, HT1.out.below Mf.below, HT2.out.below Mf.below, Bx.trans (Mf.below.mono Bx.size)⟩
                case measure => simp [intOf]; omega
          by_cases hk3 : a.kind.tmod 5 = 3
          ·
            have h7 := fun w' (h : RS w' b18 28 Ls v1) => Do7 b18 a.kind a.to a.i a.k a.s Ls v1 w' h
            have hr := fun w' (h : RS w' b20 31 Ls v2) => Double10_any b20 a.to a.i Ls v2 w' h
            have hN := fun w' => Do7_nil a.kind a.to a.i a.k a.s w'
            simp only [stepA, if_neg hk0, if_neg hk1, if_neg hk2, if_pos hk3] at h7
            rw [show nilE a.kind = 22 from by unfold nilE; rw [if_neg (by omega), if_pos (by omega)]] at hN
            obtain ⟨st, hst⟩ : ∃ st, st = doubleA Ls a.to a.i := ⟨_, rfl⟩
            rw [← hst] at h7 hr
            have H7 := hid h7
            have HRef := hid hr
            have HN := hid hN
            clear h7 hr hN hst
            clear hk0 hk1 hk2
            go_wp2_with (first | (refine wpList_ldagg 34 rfl Try.underlying33 rfl rfl rfl rfl (cs := a.cs) (fun j v hv => HCS.out j v hv) sz33 ?_; (conv => arg 5; simp only [Act.put, List.setIfInBounds_toArray, List.set_cons_succ, List.set_cons_zero])) | (refine wpList_al rfl rfl M1 z33 rfl (fun b7 w1 M2 => ?_); clear M1; (conv => arg 5; simp only [Act.put, List.setIfInBounds_toArray, List.set_cons_succ, List.set_cons_zero])) | (refine wpList_strow rfl rfl rfl rfl (vs := a.cs) M2 Swap.head sz33 rfl (box33 _ _ _ _ _) (fun w2 M3 => ?_); clear M2; (conv => arg 5; simp only [Act.put, List.setIfInBounds_toArray, List.set_cons_succ, List.set_cons_zero]); have hact : actAt w2 b7 a := M3.holds _ List.mem_cons_self; have hb7 : wr.heap.size ≤ b7 := (M3.fresh _ List.mem_cons_self b7 rfl).resolve_left (by simp); have HACT := hid hact; clear hact; have c4 := HACT.out.cell 4 _ rfl) | (refine wpList_ldagg 41 rfl Try.underlying33 rfl rfl rfl rfl (off := 0) (cs := a.cs) (fun j v hv => by rw [Nat.zero_add]; exact HACT.out.cell j v hv) sz33 ?_; (conv => arg 5; simp only [Act.put, List.setIfInBounds_toArray, List.set_cons_succ, List.set_cons_zero])) | (go_at_call 7; refine (H7.out _ (R1.below M3.below)).mono ?_; rintro e w3 ⟨rfl, v1x, S1, hg1, _⟩; clear c4 H7; have HA3 := hid (HACT.out.grown hg1 (by omega)); have S2 := (R2.below M3.below).grown hg1 (R1.below M3.below).1 (by decide) hne.symm; have c0 := HA3.out.cell 0 _ rfl; have c1 := HA3.out.cell 1 _ rfl; have c2 := HA3.out.cell 2 _ rfl; have c3 := HA3.out.cell 3 _ rfl; have c4 := HA3.out.cell 4 _ rfl; have B1 := below_grown (B.trans (M3.below.mono B.size)) rfl hg1 hb18) | (refine (HRef.out _ S2).mono ?_; rintro e w4 ⟨v2x, rfl, T2, hg2, _⟩; clear c0 c1 c2 c3 c4 HRef; have T1 := S1.grown hg2 S2.1 (by decide) hne; have HAx := hid (HA3.out.grown hg2 (by omega)); have Bx := below_grown B1 rfl hg2 hb20))
            go_loopw [12] (fun n wt => ∃ t : Int, n = .int .i64 t ∧ -1 ≤ t ∧ t ≤ 9 ∧ Mem _ [] wt []) (fun n _ => (9 - intOf n).toNat)
            case atStart => exact ⟨-1, rfl, by omega, by omega, Mem.start _⟩
            case round =>
              obtain ⟨t, rfl, ht0, ht1, Mt⟩ := hrel
              by_cases ht9 : t < 9
              · by_cases htn : t < 0
                · go_wp2_with (go_at_call 12; refine (Mail12_out _ t _ (.inl htn)).mono ?_; rintro e w6 ⟨A6, c6, rfl, _, _, _, hb6, _⟩)
                  go_roundw
                  case rel => exact ⟨t + 1, by go_num, by omega, by omega, Mt.call hb6⟩
                  case measure => simp [intOf]; omega
                · by_cases ht7 : 7 < t
                  · go_wp2_with (go_at_call 12; refine (Mail12_out _ t _ (.inr (by omega))).mono ?_; rintro e w6 ⟨A6, c6, rfl, _, _, _, hb6, _⟩)
                    go_roundw
                    case rel => exact ⟨t + 1, by go_num, by omega, by omega, Mt.call hb6⟩
                    case measure => simp [intOf]; omega
                  · obtain ⟨k, rfl⟩ := Int.eq_ofNat_of_zero_le (show 0 ≤ t by omega)
                    have hk8 : k < 8 := by omega
                    have hk8I : (k : Int) < 8 := by omega
                    obtain ⟨L, A2, c2, hL, hv2, hc2, hn2, hr2, hl2⟩ := T2.at hk8
                    have HC := hid (RS.cell T2.1 hv2)
                    have HM := hid (MailRS T1 hL hk8)
                    have HR2 := hid hr2
                    clear T1 T2 hL hv2 hr2 hn2
                    go_wp2_with fail
                    refine wp_region_planT (.free 0 (.free 1 (.free 3 (.free 4 (.free 5 (.free 6 (.free 7 (.free 8 (.one 2 (.one 9 (.free 10 (.done)))))))))))) (by kernel_rfl) (by kernel_rfl) (fun _ _ _ _ _ h => h) Mt (fun w5 M5 => ?_)
                    clear Mt
                    iterate 7 (refine wpT_free rfl rfl (.inl ⟨rfl, fun w _ => by go_simp; rfl⟩) (by assumption) ?_; (conv => arg 6; simp only [Act.put, List.setIfInBounds_toArray, List.set_cons_succ, List.set_cons_zero]))
                    refine wpT_free rfl rfl (.inl ⟨rfl, fun w hw => run_ld1 Try.underlying25 rfl rfl rfl (hw.cell0 HC.out)⟩) (by assumption) ?_; (conv => arg 6; simp only [Act.put, List.setIfInBounds_toArray, List.set_cons_succ, List.set_cons_zero])
                    refine wpT_op rfl ?_
                    go_wp2_with (go_at_call 12; refine (HM.out _ M5).mono ?_; rintro e w6 ⟨A6, c6, rfl, _, _, hr6, hb6, _⟩)
                    replace M5 := M5.call hb6
                    refine PlanTQ.mk M5 (wpT_op rfl ?_)
                    go_wp2_with (go_at_call 13; refine (Same13 A6 A2 c6 c2 L _ hr6 (HR2.out.mem M5) (by omega)).mono ?_; rintro e w7 ⟨rfl, M7⟩)
                    replace M5 := M5.call M7.below
                    refine PlanTQ.mk M5 ?_
                    (refine wpT_free rfl rfl (.inl ⟨rfl, fun w _ => by go_simp; rfl⟩) (by assumption) ?_; (conv => arg 6; simp only [Act.put, List.setIfInBounds_toArray, List.set_cons_succ, List.set_cons_zero]))
                    refine wpT_done ?_
                    go_wp2_with fail
                    go_roundw
                    case rel => exact ⟨(k : Int) + 1, by go_num, by omega, by omega, M5⟩
                    case measure => simp [intOf]; omega
              · obtain rfl : t = 9 := by omega
                clear ht0 ht1
                have HT1 := hid T1
                have HT2 := hid T2
                clear T1 T2
                go_wp2_with (first | (refine wpList_ldagg 132 rfl Try.underlying33 rfl rfl rfl rfl (off := 0) (cs := a.cs) (fun j v hv => by rw [Nat.zero_add]; exact (HAx.out.below Mt.below).cell j v hv) sz33 ?_; (conv => arg 5; simp only [Act.put, List.setIfInBounds_toArray, List.set_cons_succ, List.set_cons_zero])) | (go_at_call 7; refine (HN.out _).mono ?_; rintro e w6 ⟨rfl, hb6⟩; have Mf := Mt.call hb6; have c0 := (HAx.out.below Mf.below).cell 0 _ rfl; have c1 := (HAx.out.below Mf.below).cell 1 _ rfl) | (apply wpList_wantLd; (· rfl)) | (apply wpList_wantCall; (· rfl)) | (go_at_call 12; refine (Mail12_nil _ _).mono ?_; rintro e w8 ⟨A8, c8, rfl, _, _, _, hb8, _⟩; replace Mf := Mf.call hb8))
                go_roundw
                case rel => exact ⟨i + 1, _, _, _, by omega, by go_num, HT1.out.below Mf.below, HT2.out.below Mf.below, Bx.trans (Mf.below.mono Bx.size)⟩
                case measure => simp [intOf]; omega
          by_cases hk4 : a.kind.tmod 5 = 4
          ·
            have h7 := fun w' (h : RS w' b18 28 Ls v1) => Do7 b18 a.kind a.to a.i a.k a.s Ls v1 w' h
            have hr := fun w' (h : RS w' b20 31 Ls v2) => Move11_any b20 a.to a.i a.k Ls v2 w' h
            have hN := fun w' => Do7_nil a.kind a.to a.i a.k a.s w'
            simp only [stepA, if_neg hk0, if_neg hk1, if_neg hk2, if_neg hk3, if_pos hk4] at h7
            rw [show nilE a.kind = 22 from by unfold nilE; rw [if_neg (by omega), if_pos (by omega)]] at hN
            obtain ⟨st, hst⟩ : ∃ st, st = moveA Ls a.to a.i a.k := ⟨_, rfl⟩
            rw [← hst] at h7 hr
            have H7 := hid h7
            have HRef := hid hr
            have HN := hid hN
            clear h7 hr hN hst
            clear hk0 hk1 hk2 hk3
            go_wp2_with (first | (refine wpList_ldagg 34 rfl Try.underlying33 rfl rfl rfl rfl (cs := a.cs) (fun j v hv => HCS.out j v hv) sz33 ?_; (conv => arg 5; simp only [Act.put, List.setIfInBounds_toArray, List.set_cons_succ, List.set_cons_zero])) | (refine wpList_al rfl rfl M1 z33 rfl (fun b7 w1 M2 => ?_); clear M1; (conv => arg 5; simp only [Act.put, List.setIfInBounds_toArray, List.set_cons_succ, List.set_cons_zero])) | (refine wpList_strow rfl rfl rfl rfl (vs := a.cs) M2 Swap.head sz33 rfl (box33 _ _ _ _ _) (fun w2 M3 => ?_); clear M2; (conv => arg 5; simp only [Act.put, List.setIfInBounds_toArray, List.set_cons_succ, List.set_cons_zero]); have hact : actAt w2 b7 a := M3.holds _ List.mem_cons_self; have hb7 : wr.heap.size ≤ b7 := (M3.fresh _ List.mem_cons_self b7 rfl).resolve_left (by simp); have HACT := hid hact; clear hact; have c4 := HACT.out.cell 4 _ rfl) | (refine wpList_ldagg 41 rfl Try.underlying33 rfl rfl rfl rfl (off := 0) (cs := a.cs) (fun j v hv => by rw [Nat.zero_add]; exact HACT.out.cell j v hv) sz33 ?_; (conv => arg 5; simp only [Act.put, List.setIfInBounds_toArray, List.set_cons_succ, List.set_cons_zero])) | (go_at_call 7; refine (H7.out _ (R1.below M3.below)).mono ?_; rintro e w3 ⟨rfl, v1x, S1, hg1, _⟩; clear c4 H7; have HA3 := hid (HACT.out.grown hg1 (by omega)); have S2 := (R2.below M3.below).grown hg1 (R1.below M3.below).1 (by decide) hne.symm; have c0 := HA3.out.cell 0 _ rfl; have c1 := HA3.out.cell 1 _ rfl; have c2 := HA3.out.cell 2 _ rfl; have c3 := HA3.out.cell 3 _ rfl; have c4 := HA3.out.cell 4 _ rfl; have B1 := below_grown (B.trans (M3.below.mono B.size)) rfl hg1 hb18) | (refine (HRef.out _ S2).mono ?_; rintro e w4 ⟨v2x, rfl, T2, hg2, _⟩; clear c0 c1 c2 c3 c4 HRef; have T1 := S1.grown hg2 S2.1 (by decide) hne; have HAx := hid (HA3.out.grown hg2 (by omega)); have Bx := below_grown B1 rfl hg2 hb20))
            go_loopw [12] (fun n wt => ∃ t : Int, n = .int .i64 t ∧ -1 ≤ t ∧ t ≤ 9 ∧ Mem _ [] wt []) (fun n _ => (9 - intOf n).toNat)
            case atStart => exact ⟨-1, rfl, by omega, by omega, Mem.start _⟩
            case round =>
              obtain ⟨t, rfl, ht0, ht1, Mt⟩ := hrel
              by_cases ht9 : t < 9
              · by_cases htn : t < 0
                · go_wp2_with (go_at_call 12; refine (Mail12_out _ t _ (.inl htn)).mono ?_; rintro e w6 ⟨A6, c6, rfl, _, _, _, hb6, _⟩)
                  go_roundw
                  case rel => exact ⟨t + 1, by go_num, by omega, by omega, Mt.call hb6⟩
                  case measure => simp [intOf]; omega
                · by_cases ht7 : 7 < t
                  · go_wp2_with (go_at_call 12; refine (Mail12_out _ t _ (.inr (by omega))).mono ?_; rintro e w6 ⟨A6, c6, rfl, _, _, _, hb6, _⟩)
                    go_roundw
                    case rel => exact ⟨t + 1, by go_num, by omega, by omega, Mt.call hb6⟩
                    case measure => simp [intOf]; omega
                  · obtain ⟨k, rfl⟩ := Int.eq_ofNat_of_zero_le (show 0 ≤ t by omega)
                    have hk8 : k < 8 := by omega
                    have hk8I : (k : Int) < 8 := by omega
                    obtain ⟨L, A2, c2, hL, hv2, hc2, hn2, hr2, hl2⟩ := T2.at hk8
                    have HC := hid (RS.cell T2.1 hv2)
                    have HM := hid (MailRS T1 hL hk8)
                    have HR2 := hid hr2
                    clear T1 T2 hL hv2 hr2 hn2
                    go_wp2_with fail
                    refine wp_region_planT (.free 0 (.free 1 (.free 3 (.free 4 (.free 5 (.free 6 (.free 7 (.free 8 (.one 2 (.one 9 (.free 10 (.done)))))))))))) (by kernel_rfl) (by kernel_rfl) (fun _ _ _ _ _ h => h) Mt (fun w5 M5 => ?_)
                    clear Mt
                    iterate 7 (refine wpT_free rfl rfl (.inl ⟨rfl, fun w _ => by go_simp; rfl⟩) (by assumption) ?_; (conv => arg 6; simp only [Act.put, List.setIfInBounds_toArray, List.set_cons_succ, List.set_cons_zero]))
                    refine wpT_free rfl rfl (.inl ⟨rfl, fun w hw => run_ld1 Try.underlying25 rfl rfl rfl (hw.cell0 HC.out)⟩) (by assumption) ?_; (conv => arg 6; simp only [Act.put, List.setIfInBounds_toArray, List.set_cons_succ, List.set_cons_zero])
                    refine wpT_op rfl ?_
                    go_wp2_with (go_at_call 12; refine (HM.out _ M5).mono ?_; rintro e w6 ⟨A6, c6, rfl, _, _, hr6, hb6, _⟩)
                    replace M5 := M5.call hb6
                    refine PlanTQ.mk M5 (wpT_op rfl ?_)
                    go_wp2_with (go_at_call 13; refine (Same13 A6 A2 c6 c2 L _ hr6 (HR2.out.mem M5) (by omega)).mono ?_; rintro e w7 ⟨rfl, M7⟩)
                    replace M5 := M5.call M7.below
                    refine PlanTQ.mk M5 ?_
                    (refine wpT_free rfl rfl (.inl ⟨rfl, fun w _ => by go_simp; rfl⟩) (by assumption) ?_; (conv => arg 6; simp only [Act.put, List.setIfInBounds_toArray, List.set_cons_succ, List.set_cons_zero]))
                    refine wpT_done ?_
                    go_wp2_with fail
                    go_roundw
                    case rel => exact ⟨(k : Int) + 1, by go_num, by omega, by omega, M5⟩
                    case measure => simp [intOf]; omega
              · obtain rfl : t = 9 := by omega
                clear ht0 ht1
                have HT1 := hid T1
                have HT2 := hid T2
                clear T1 T2
                go_wp2_with (first | (refine wpList_ldagg 132 rfl Try.underlying33 rfl rfl rfl rfl (off := 0) (cs := a.cs) (fun j v hv => by rw [Nat.zero_add]; exact (HAx.out.below Mt.below).cell j v hv) sz33 ?_; (conv => arg 5; simp only [Act.put, List.setIfInBounds_toArray, List.set_cons_succ, List.set_cons_zero])) | (go_at_call 7; refine (HN.out _).mono ?_; rintro e w6 ⟨rfl, hb6⟩; have Mf := Mt.call hb6; have c0 := (HAx.out.below Mf.below).cell 0 _ rfl; have c1 := (HAx.out.below Mf.below).cell 1 _ rfl) | (apply wpList_wantLd; (· rfl)) | (apply wpList_wantCall; (· rfl)) | (go_at_call 12; refine (Mail12_nil _ _).mono ?_; rintro e w8 ⟨A8, c8, rfl, _, _, _, hb8, _⟩; replace Mf := Mf.call hb8))
                go_roundw
                case rel => exact ⟨i + 1, _, _, _, by omega, by go_num, HT1.out.below Mf.below, HT2.out.below Mf.below, Bx.trans (Mf.below.mono Bx.size)⟩
                case measure => simp [intOf]; omega
          have h5 := HH5.out
          have hneg : a.kind.tmod 5 < 0 := by
            have := Int.lt_tmod_of_pos a.kind (show (0 : Int) < 5 by decide)
            omega
          have h7 := fun w' (h : RS w' b18 28 Ls v1) => Do7 b18 a.kind a.to a.i a.k a.s Ls v1 w' h
          have hN := fun w' => Do7_nil a.kind a.to a.i a.k a.s w'
          simp only [stepA, if_neg hk0, if_neg hk1, if_neg hk2, if_neg hk3, if_neg hk4] at h7
          rw [show nilE a.kind = 0 from by unfold nilE; rw [if_neg hk0, if_neg (by omega)]] at hN
          have H7 := hid h7
          have HN := hid hN
          have e0 : (a.kind.tmod 5 == 0) = false := by rw [beq_eq_false_iff_ne]; exact hk0
          have e1 : (a.kind.tmod 5 == 1) = false := by rw [beq_eq_false_iff_ne]; exact hk1
          have e2 : (a.kind.tmod 5 == 2) = false := by rw [beq_eq_false_iff_ne]; exact hk2
          have e3 : (a.kind.tmod 5 == 3) = false := by rw [beq_eq_false_iff_ne]; exact hk3
          have e4 : (a.kind.tmod 5 == 4) = false := by rw [beq_eq_false_iff_ne]; exact hk4
          have e5 : decide (0 < a.kind.tmod 5) = false := decide_eq_false (by omega)
          clear h7 hN h5 hneg hk0 hk1 hk2 hk3 hk4
          go_wp2_with (first | (refine wpList_ldagg 34 rfl Try.underlying33 rfl rfl rfl rfl (cs := a.cs) (fun j v hv => HCS.out j v hv) sz33 ?_; (conv => arg 5; simp only [Act.put, List.setIfInBounds_toArray, List.set_cons_succ, List.set_cons_zero])) | (refine wpList_al rfl rfl M1 z33 rfl (fun b7 w1 M2 => ?_); clear M1; (conv => arg 5; simp only [Act.put, List.setIfInBounds_toArray, List.set_cons_succ, List.set_cons_zero])) | (refine wpList_strow rfl rfl rfl rfl (vs := a.cs) M2 Swap.head sz33 rfl (box33 _ _ _ _ _) (fun w2 M3 => ?_); clear M2; (conv => arg 5; simp only [Act.put, List.setIfInBounds_toArray, List.set_cons_succ, List.set_cons_zero]); have hact : actAt w2 b7 a := M3.holds _ List.mem_cons_self; have hb7 : wr.heap.size ≤ b7 := (M3.fresh _ List.mem_cons_self b7 rfl).resolve_left (by simp); have HACT := hid hact; clear hact; have c4 := HACT.out.cell 4 _ rfl) | (refine wpList_ldagg 41 rfl Try.underlying33 rfl rfl rfl rfl (off := 0) (cs := a.cs) (fun j v hv => by rw [Nat.zero_add]; exact HACT.out.cell j v hv) sz33 ?_; (conv => arg 5; simp only [Act.put, List.setIfInBounds_toArray, List.set_cons_succ, List.set_cons_zero])) | (go_at_call 7; refine (H7.out _ (R1.below M3.below)).mono ?_; rintro e w3 ⟨rfl, v1x, S1, hg1, _⟩; clear c4 H7; have HA3 := hid (HACT.out.grown hg1 (by omega)); have S2 := (R2.below M3.below).grown hg1 (R1.below M3.below).1 (by decide) hne.symm; have c0 := HA3.out.cell 0 _ rfl; have c1 := HA3.out.cell 1 _ rfl; have c2 := HA3.out.cell 2 _ rfl; have c3 := HA3.out.cell 3 _ rfl; have c4 := HA3.out.cell 4 _ rfl; have B1 := below_grown (B.trans (M3.below.mono B.size)) rfl hg1 hb18) | (refine (HRef.out _ S2).mono ?_; rintro e w4 ⟨v2x, rfl, T2, hg2, _⟩; clear c0 c1 c2 c3 c4 HRef; have T1 := S1.grown hg2 S2.1 (by decide) hne; have HAx := hid (HA3.out.grown hg2 (by omega)); have Bx := below_grown B1 rfl hg2 hb20))
          clear c0 c1 c2 c3 c4
          have T1 := S1
          have T2 := S2
          have HAx := HA3
          have Bx := B1
          clear S1 S2
          go_loopw [12] (fun n wt => ∃ t : Int, n = .int .i64 t ∧ -1 ≤ t ∧ t ≤ 9 ∧ Mem _ [] wt []) (fun n _ => (9 - intOf n).toNat)
          case atStart => exact ⟨-1, rfl, by omega, by omega, Mem.start _⟩
          case round =>
            obtain ⟨t, rfl, ht0, ht1, Mt⟩ := hrel
            by_cases ht9 : t < 9
            · by_cases htn : t < 0
              · go_wp2_with (go_at_call 12; refine (Mail12_out _ t _ (.inl htn)).mono ?_; rintro e w6 ⟨A6, c6, rfl, _, _, _, hb6, _⟩)
                go_roundw
                case rel => exact ⟨t + 1, by go_num, by omega, by omega, Mt.call hb6⟩
                case measure => simp [intOf]; omega
              · by_cases ht7 : 7 < t
                · go_wp2_with (go_at_call 12; refine (Mail12_out _ t _ (.inr (by omega))).mono ?_; rintro e w6 ⟨A6, c6, rfl, _, _, _, hb6, _⟩)
                  go_roundw
                  case rel => exact ⟨t + 1, by go_num, by omega, by omega, Mt.call hb6⟩
                  case measure => simp [intOf]; omega
                · obtain ⟨k, rfl⟩ := Int.eq_ofNat_of_zero_le (show 0 ≤ t by omega)
                  have hk8 : k < 8 := by omega
                  have hk8I : (k : Int) < 8 := by omega
                  obtain ⟨L, A2, c2, hL, hv2, hc2, hn2, hr2, hl2⟩ := T2.at hk8
                  have HC := hid (RS.cell T2.1 hv2)
                  have HM := hid (MailRS T1 hL hk8)
                  have HR2 := hid hr2
                  clear T1 T2 hL hv2 hr2 hn2
                  go_wp2_with fail
                  refine wp_region_planT (.free 0 (.free 1 (.free 3 (.free 4 (.free 5 (.free 6 (.free 7 (.free 8 (.one 2 (.one 9 (.free 10 (.done)))))))))))) (by kernel_rfl) (by kernel_rfl) (fun _ _ _ _ _ h => h) Mt (fun w5 M5 => ?_)
                  clear Mt
                  iterate 7 (refine wpT_free rfl rfl (.inl ⟨rfl, fun w _ => by go_simp; rfl⟩) (by assumption) ?_; (conv => arg 6; simp only [Act.put, List.setIfInBounds_toArray, List.set_cons_succ, List.set_cons_zero]))
                  refine wpT_free rfl rfl (.inl ⟨rfl, fun w hw => run_ld1 Try.underlying25 rfl rfl rfl (hw.cell0 HC.out)⟩) (by assumption) ?_; (conv => arg 6; simp only [Act.put, List.setIfInBounds_toArray, List.set_cons_succ, List.set_cons_zero])
                  refine wpT_op rfl ?_
                  go_wp2_with (go_at_call 12; refine (HM.out _ M5).mono ?_; rintro e w6 ⟨A6, c6, rfl, _, _, hr6, hb6, _⟩)
                  replace M5 := M5.call hb6
                  refine PlanTQ.mk M5 (wpT_op rfl ?_)
                  go_wp2_with (go_at_call 13; refine (Same13 A6 A2 c6 c2 L _ hr6 (HR2.out.mem M5) (by omega)).mono ?_; rintro e w7 ⟨rfl, M7⟩)
                  replace M5 := M5.call M7.below
                  refine PlanTQ.mk M5 ?_
                  (refine wpT_free rfl rfl (.inl ⟨rfl, fun w _ => by go_simp; rfl⟩) (by assumption) ?_; (conv => arg 6; simp only [Act.put, List.setIfInBounds_toArray, List.set_cons_succ, List.set_cons_zero]))
                  refine wpT_done ?_
                  go_wp2_with fail
                  go_roundw
                  case rel => exact ⟨(k : Int) + 1, by go_num, by omega, by omega, M5⟩
                  case measure => simp [intOf]; omega
            · obtain rfl : t = 9 := by omega
              clear ht0 ht1
              have HT1 := hid T1
              have HT2 := hid T2
              clear T1 T2
              go_wp2_with (first | (refine wpList_ldagg 132 rfl Try.underlying33 rfl rfl rfl rfl (off := 0) (cs := a.cs) (fun j v hv => by rw [Nat.zero_add]; exact (HAx.out.below Mt.below).cell j v hv) sz33 ?_; (conv => arg 5; simp only [Act.put, List.setIfInBounds_toArray, List.set_cons_succ, List.set_cons_zero])) | (go_at_call 7; refine (HN.out _).mono ?_; rintro e w6 ⟨rfl, hb6⟩; have Mf := Mt.call hb6; have c0 := (HAx.out.below Mf.below).cell 0 _ rfl; have c1 := (HAx.out.below Mf.below).cell 1 _ rfl) | (apply wpList_wantLd; (· rfl)) | (apply wpList_wantCall; (· rfl)) | (go_at_call 12; refine (Mail12_nil _ _).mono ?_; rintro e w8 ⟨A8, c8, rfl, _, _, _, hb8, _⟩; replace Mf := Mf.call hb8))
              go_roundw
              case rel => exact ⟨i + 1, _, _, _, by omega, by go_num, HT1.out.below Mf.below, HT2.out.below Mf.below, Bx.trans (Mf.below.mono Bx.size)⟩
              case measure => simp [intOf]; omega
        · have h1000I : (1000 : Int) < (a.s.size : Int) := by omega
          go_wp2_with (first | (refine wpList_ldagg 34 rfl Try.underlying33 rfl rfl rfl rfl (cs := a.cs) (fun j v hv => HCS.out j v hv) sz33 ?_; (conv => arg 5; simp only [Act.put, List.setIfInBounds_toArray, List.set_cons_succ, List.set_cons_zero])) | (refine wpList_al rfl rfl M1 z33 rfl (fun b7 w1 M2 => ?_); clear M1; (conv => arg 5; simp only [Act.put, List.setIfInBounds_toArray, List.set_cons_succ, List.set_cons_zero])) | (refine wpList_strow rfl rfl rfl rfl (vs := a.cs) M2 Swap.head sz33 rfl (box33 _ _ _ _ _) (fun w2 M3 => ?_); clear M2; (conv => arg 5; simp only [Act.put, List.setIfInBounds_toArray, List.set_cons_succ, List.set_cons_zero]); have hact : actAt w2 b7 a := M3.holds _ List.mem_cons_self; have hb7 : wr.heap.size ≤ b7 := (M3.fresh _ List.mem_cons_self b7 rfl).resolve_left (by simp); have HACT := hid hact; clear hact; have c4 := HACT.out.cell 4 _ rfl) | (refine wpList_ldagg 41 rfl Try.underlying33 rfl rfl rfl rfl (off := 0) (cs := a.cs) (fun j v hv => by rw [Nat.zero_add]; exact HACT.out.cell j v hv) sz33 ?_; (conv => arg 5; simp only [Act.put, List.setIfInBounds_toArray, List.set_cons_succ, List.set_cons_zero])) | (go_at_call 7; refine (H7.out _ (R1.below M3.below)).mono ?_; rintro e w3 ⟨rfl, v1', S1, hg1, _⟩; clear c4; have HA3 := hid (HACT.out.grown hg1 (by omega)); have S2 := (R2.below M3.below).grown hg1 (R1.below M3.below).1 (by decide) hne.symm; have c0 := HA3.out.cell 0 _ rfl; have c1 := HA3.out.cell 1 _ rfl; have c2 := HA3.out.cell 2 _ rfl; have c3 := HA3.out.cell 3 _ rfl; have c4 := HA3.out.cell 4 _ rfl; have B1 := below_grown (B.trans (M3.below.mono B.size)) rfl hg1 hb18))
          go_roundw
          case rel => exact ⟨i + 1, Ls, v1, v2, by omega, by go_num, R1.below M3.below, R2.below M3.below, B.trans (M3.below.mono B.size)⟩
          case measure => simp [intOf]; omega
      · have h150I : ¬ (i : Int) < 150 := by omega
        go_wp2_with (go_at_call 6; refine (alive6 _).mono ?_; rintro e w1 ⟨rfl, M1⟩)
        go_ret
        exact ⟨rfl, B.trans (M1.below.mono B.size)⟩
    · have hltI : ¬ (i : Int) < (acts.length : Int) := by omega
      go_wp2_with (go_at_call 6; refine (alive6 _).mono ?_; rintro e w1 ⟨rfl, M1⟩)
      go_ret
      exact ⟨rfl, B.trans (M1.below.mono B.size)⟩
end Go.Proofs.Ytbofobkpplncaaa
