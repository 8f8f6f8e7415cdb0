/- A play: a step, by its kind. -/
import Derived.Test.YtcapfnbmmdbcoaaG5
set_option linter.unusedVariables false
set_option linter.unusedSimpArgs false
namespace Go.Proofs.Ytcapfnbmmdbcoaa
open Go.RowKit
set_option maxRecDepth 100000 in
set_option maxHeartbeats 8000000 in
theorem do30_t {K : Nat → Prop} {w : World} {p g m n : Nat} {ts : List Tm} {keys : List (List Int)} {c : Sp} {I : Option Addr} {ic : Nat} (h : DoP K w p g m n ts keys c I ic) (ht : 300 < c.text.size) :
    Calls Try.prog 30 #[.pointer (some ⟨p, 0, none⟩), .agg (spCells c I ic).toArray] w (DoR K p g m n w) := by
  have H := TF.start h.res h.lt
  have hs := hid h
  have HRAW := hid h.raw
  have htI : (300 : Int) < (c.text.size : Int) := by omega
  clear h
  go_enter Try.func30, Try.ntmps30
  go_wp2_with (refine wpF_bxC (cs := spCells c I ic) 3 H (ok3 _ _ _ _ _ _) rfl rfl rfl rfl (fun b3 w1 H1 => ?_); clear H; rename TF _ _ _ _ _ => H; have c2 := H.reb.cell (i := 2) (g := b3) (v := .string c.text) (by (repeat (first | exact List.mem_cons_self | refine List.mem_cons_of_mem _ ?_))) rfl; have c0 := H.reb.cell (i := 0) (g := b3) (v := .int .i64 c.kind) (by (repeat (first | exact List.mem_cons_self | refine List.mem_cons_of_mem _ ?_))) rfl; (conv => arg 5; simp only [Act.put, List.setIfInBounds_toArray, List.set_cons_succ, List.set_cons_zero]))
  go_ret
  exact ⟨ts, keys, rfl, hs.out.pi.up, H.sub (List.nil_sublist _)⟩
set_option maxRecDepth 100000 in
set_option maxHeartbeats 8000000 in
theorem do30_0 {K : Nat → Prop} {w : World} {p g m n : Nat} {ts : List Tm} {keys : List (List Int)} {c : Sp} {I : Option Addr} {ic : Nat} (h : DoP K w p g m n ts keys c I ic) (ht : c.text.size ≤ 300) (h1 : ¬ c.kind.tmod 8 = 1) (h2 : ¬ c.kind.tmod 8 = 2) (h3 : ¬ c.kind.tmod 8 = 3) (h4 : ¬ c.kind.tmod 8 = 4) (h5 : ¬ c.kind.tmod 8 = 5) (h6 : ¬ c.kind.tmod 8 = 6) (h7 : ¬ c.kind.tmod 8 = 7) :
    Calls Try.prog 30 #[.pointer (some ⟨p, 0, none⟩), .agg (spCells c I ic).toArray] w (DoR K p g m n w) := by
  have H := TF.start h.res h.lt
  have hs := hid h
  obtain ⟨ka, hka⟩ : ∃ k, k = atK keys c.at_ := ⟨_, rfl⟩
  obtain ⟨kb, hkb⟩ : ∃ k, k = atK keys (c.keys.getD 0 0) := ⟨_, rfl⟩
  obtain ⟨l, hl⟩ : ∃ l, l = namedP keys c.keys := ⟨_, rfl⟩
  obtain ⟨ts1, ht1⟩ : ∃ t, t = markL ts c.text := ⟨_, rfl⟩
  have EA := hid hka.symm
  have EB := hid hkb.symm
  have EL := hid hl.symm
  have HT1 := hid ht1.symm
  have HA := hid (show KeyOk ka from by rw [hka]; exact h.at _)
  have HB := hid (show KeyOk kb from by rw [hkb]; exact h.at _)
  have HL := hid (show l.length ≤ 5 ∧ ∀ k ∈ l, KeyOk k from by rw [hl]; exact ⟨namedP_len _ _, namedP_ok h.pi.k1 h.ok _⟩)
  have HP1 := hid (show (∀ u ∈ ts1, TmW u) ∧ (∀ u ∈ ts1, u.keys.length ≤ 10) ∧ ts1.length ≤ 2 * n + 1 from by rw [ht1]; exact h.pi.mark _)
  have HRAW := hid h.raw
  have HMK := hid (markN_ok ts c.text)
  have htl : ts.length ≤ 900000 := by have := h.tl; omega
  have htl1 : ts1.length ≤ 900000 := by have := HP1.out.2.2; have := h.nn; omega
  have htI : ¬ (300 : Int) < (c.text.size : Int) := by omega
  have hl5 : l.length ≤ 5 := HL.out.1
  clear h hka hkb hl ht1
  go_enter Try.func30, Try.ntmps30
  go_wp2_with (first | (refine wpF_bxC (cs := spCells c I ic) 3 H (ok3 _ _ _ _ _ _) rfl rfl rfl rfl (fun b3 w1 H1 => ?_); clear H; rename TF _ _ _ _ _ => H; have c2 := H.reb.cell (i := 2) (g := b3) (v := .string c.text) (by (repeat (first | exact List.mem_cons_self | refine List.mem_cons_of_mem _ ?_))) rfl; have c0 := H.reb.cell (i := 0) (g := b3) (v := .int .i64 c.kind) (by (repeat (first | exact List.mem_cons_self | refine List.mem_cons_of_mem _ ?_))) rfl; (conv => arg 5; simp only [Act.put, List.setIfInBounds_toArray, List.set_cons_succ, List.set_cons_zero])) | (refine wpF_al 5 H (ok3 _ _ _ _ _ _) z26 rfl rfl rfl (fun b5 wn Hn => ?_); clear H; rename TF _ _ _ _ _ => H; clear c2 c0; have c2 := H.reb.cell (i := 2) (g := b3) (v := .string c.text) (by (repeat (first | exact List.mem_cons_self | refine List.mem_cons_of_mem _ ?_))) rfl; have c0 := H.reb.cell (i := 0) (g := b3) (v := .int .i64 c.kind) (by (repeat (first | exact List.mem_cons_self | refine List.mem_cons_of_mem _ ?_))) rfl; (conv => arg 5; simp only [Act.put, List.setIfInBounds_toArray, List.set_cons_succ, List.set_cons_zero])) | (refine wpF_al 6 H (ok3 _ _ _ _ _ _) z26 rfl rfl rfl (fun b6 wn Hn => ?_); clear H; rename TF _ _ _ _ _ => H; clear c2 c0; have c2 := H.reb.cell (i := 2) (g := b3) (v := .string c.text) (by (repeat (first | exact List.mem_cons_self | refine List.mem_cons_of_mem _ ?_))) rfl; have c0 := H.reb.cell (i := 0) (g := b3) (v := .int .i64 c.kind) (by (repeat (first | exact List.mem_cons_self | refine List.mem_cons_of_mem _ ?_))) rfl; (conv => arg 5; simp only [Act.put, List.setIfInBounds_toArray, List.set_cons_succ, List.set_cons_zero])) | (refine wpList_ldagg 25 rfl Try.underlying66 rfl rfl rfl rfl (H.cellC (by (repeat (first | exact List.mem_cons_self | refine List.mem_cons_of_mem _ ?_)))) (sz66 HRAW.out) ?_; (conv => arg 5; simp only [Act.put, List.setIfInBounds_toArray, List.set_cons_succ, List.set_cons_zero])) | (go_at_call 51; refine (two51N hs.out H EA.out EB.out).mono ?_; rintro e wn ⟨rfl, M⟩; replace H := H.call0 (ok3 _ _ _ _ _ _) M; clear M; clear c2 c0; have c2 := H.reb.cell (i := 2) (g := b3) (v := .string c.text) (by (repeat (first | exact List.mem_cons_self | refine List.mem_cons_of_mem _ ?_))) rfl; have c0 := H.reb.cell (i := 0) (g := b3) (v := .int .i64 c.kind) (by (repeat (first | exact List.mem_cons_self | refine List.mem_cons_of_mem _ ?_))) rfl) | (refine wpF_st0 (ys := ka) rfl H (ok3 _ _ _ _ _ _) s26 rfl rfl rfl rfl (by (repeat (first | exact Swap.head | apply Swap.tail))) (by first | simp | exact zK_ok.1) (by exact HA.out.1) (fun wn Hn => ?_); clear H; rename TF _ _ _ _ _ => H; clear c2 c0; have c2 := H.reb.cell (i := 2) (g := b3) (v := .string c.text) (by (repeat (first | exact List.mem_cons_self | refine List.mem_cons_of_mem _ ?_))) rfl; have c0 := H.reb.cell (i := 0) (g := b3) (v := .int .i64 c.kind) (by (repeat (first | exact List.mem_cons_self | refine List.mem_cons_of_mem _ ?_))) rfl; (try (conv => arg 5; simp only [Act.put, List.setIfInBounds_toArray, List.set_cons_succ, List.set_cons_zero]))) | (refine wpF_st0 (ys := kb) rfl H (ok3 _ _ _ _ _ _) s26 rfl rfl rfl rfl (by (repeat (first | exact Swap.head | apply Swap.tail))) (by first | simp | exact zK_ok.1) (by exact HB.out.1) (fun wn Hn => ?_); clear H; rename TF _ _ _ _ _ => H; clear c2 c0; have c2 := H.reb.cell (i := 2) (g := b3) (v := .string c.text) (by (repeat (first | exact List.mem_cons_self | refine List.mem_cons_of_mem _ ?_))) rfl; have c0 := H.reb.cell (i := 0) (g := b3) (v := .int .i64 c.kind) (by (repeat (first | exact List.mem_cons_self | refine List.mem_cons_of_mem _ ?_))) rfl; (try (conv => arg 5; simp only [Act.put, List.setIfInBounds_toArray, List.set_cons_succ, List.set_cons_zero]))))
  clear c0 c2
  refine wp_region_planTP [.blk b6 (rowO .u8 26 kb), .blk b5 (rowO .u8 26 ka), .blk b3 (cellsO 66 (spCells c I ic))] (PlayC p g m) (.free 0 (.free 1 (.free 2 (.free 3 (.free 4 (.free 5 (.free 7 (.one 6 (.free 8 (.free 9 (.free 10 (.free 11 (.free 12 (.free 13 (.free 14 (.free 15 (.free 17 (.free 18 (.free 19 (.free 20 (.free 21 (.free 22 (.one 16 (.one 23 (.free 24 (.free 25 (.done))))))))))))))))))))))))))) (by kernel_rfl) (by kernel_rfl) (fun _ _ _ _ _ h => h) H (ok3 _ _ _ _ _ _) ?_
  clear H
  intro ops Q HO HQ wr H _
  have hops := HO.out
  subst hops
  (refine wpT_free rfl rfl (.inl ⟨rfl, fun w _ => by go_simp; rfl⟩) (by exact H.stP (by (repeat (first | exact List.Sublist.refl _ | apply List.Sublist.cons_cons | apply List.Sublist.cons)))) ?_; (conv => arg 6; simp only [Act.put, List.setIfInBounds_toArray, List.set_cons_succ, List.set_cons_zero]))
  (refine wpT_free rfl rfl (.inl ⟨rfl, fun w _ => by go_simp; rfl⟩) (by exact H.stP (by (repeat (first | exact List.Sublist.refl _ | apply List.Sublist.cons_cons | apply List.Sublist.cons)))) ?_; (conv => arg 6; simp only [Act.put, List.setIfInBounds_toArray, List.set_cons_succ, List.set_cons_zero]))
  (refine wpT_free rfl rfl (.inl ⟨rfl, fun w _ => by go_simp; rfl⟩) (by exact H.stP (by (repeat (first | exact List.Sublist.refl _ | apply List.Sublist.cons_cons | apply List.Sublist.cons)))) ?_; (conv => arg 6; simp only [Act.put, List.setIfInBounds_toArray, List.set_cons_succ, List.set_cons_zero]))
  (refine wpT_free rfl rfl (.inl ⟨rfl, fun w hw => run_ld1 Try.underlying23 rfl rfl rfl hw.2.1⟩) (by exact H.stP (by (repeat (first | exact List.Sublist.refl _ | apply List.Sublist.cons_cons | apply List.Sublist.cons)))) ?_; (conv => arg 6; simp only [Act.put, List.setIfInBounds_toArray, List.set_cons_succ, List.set_cons_zero]))
  (refine wpT_free rfl rfl (.inl ⟨rfl, fun w _ => run_slW Try.underlying26 s5 (by decide) rfl rfl w⟩) (by exact H.stP (by (repeat (first | exact List.Sublist.refl _ | apply List.Sublist.cons_cons | apply List.Sublist.cons)))) ?_; (conv => arg 6; simp only [Act.put, List.setIfInBounds_toArray, List.set_cons_succ, List.set_cons_zero]))
  (refine wpT_free rfl rfl (.inl ⟨rfl, fun w hw => by obtain ⟨⟨_, _, M⟩, _⟩ := hw; exact run_cvKeyP Try.underlying37 Try.underlying5 Try.underlying9 rfl rfl M (by (repeat (first | exact List.mem_cons_self | refine List.mem_cons_of_mem _ ?_))) HA.out.1⟩) (by exact H.stP (by (repeat (first | exact List.Sublist.refl _ | apply List.Sublist.cons_cons | apply List.Sublist.cons)))) ?_; (conv => arg 6; simp only [Act.put, List.setIfInBounds_toArray, List.set_cons_succ, List.set_cons_zero]))
  (refine wpT_free rfl rfl (.inl ⟨rfl, fun w hw => by obtain ⟨⟨_, _, M⟩, _⟩ := hw; exact run_ldrowN (xs := ka) Try.underlying26 s26 rfl rfl rfl M (by (repeat (first | exact List.mem_cons_self | refine List.mem_cons_of_mem _ ?_))) HA.out.1⟩) (by exact H.stP (by (repeat (first | exact List.Sublist.refl _ | apply List.Sublist.cons_cons | apply List.Sublist.cons)))) ?_; (conv => arg 6; simp only [Act.put, List.setIfInBounds_toArray, List.set_cons_succ, List.set_cons_zero]))
  refine wpT_op rfl ?_
  go_wp2_with (go_at_call 46; refine (MarkN g HA.out _).mono ?_; rintro e wn ⟨rfl, M⟩; replace H := H.call0 (ok3 _ _ _ _ _ _) M; clear M)
  refine PlanTQ.mk (by exact H.stP (by (repeat (first | exact List.Sublist.refl _ | apply List.Sublist.cons_cons | apply List.Sublist.cons)))) ?_
  (refine wpT_free rfl rfl (.inl ⟨rfl, fun w _ => run_neq26b false rfl rfl rfl HA.out.1 HA.out.1 (by simp) w⟩) (by exact H.stP (by (repeat (first | exact List.Sublist.refl _ | apply List.Sublist.cons_cons | apply List.Sublist.cons)))) ?_; (conv => arg 6; simp only [Act.put, List.setIfInBounds_toArray, List.set_cons_succ, List.set_cons_zero]))
  (refine wpT_free rfl rfl (.inl ⟨rfl, fun w _ => by go_simp; rfl⟩) (by exact H.stP (by (repeat (first | exact List.Sublist.refl _ | apply List.Sublist.cons_cons | apply List.Sublist.cons)))) ?_; (conv => arg 6; simp only [Act.put, List.setIfInBounds_toArray, List.set_cons_succ, List.set_cons_zero]))
  (refine wpT_free rfl rfl (.inl ⟨rfl, fun w _ => by go_simp; rfl⟩) (by exact H.stP (by (repeat (first | exact List.Sublist.refl _ | apply List.Sublist.cons_cons | apply List.Sublist.cons)))) ?_; (conv => arg 6; simp only [Act.put, List.setIfInBounds_toArray, List.set_cons_succ, List.set_cons_zero]))
  (refine wpT_free rfl rfl (.inl ⟨rfl, fun w _ => by go_simp; rfl⟩) (by exact H.stP (by (repeat (first | exact List.Sublist.refl _ | apply List.Sublist.cons_cons | apply List.Sublist.cons)))) ?_; (conv => arg 6; simp only [Act.put, List.setIfInBounds_toArray, List.set_cons_succ, List.set_cons_zero]))
  (refine wpT_free rfl rfl (.inl ⟨rfl, fun w _ => by go_simp; rfl⟩) (by exact H.stP (by (repeat (first | exact List.Sublist.refl _ | apply List.Sublist.cons_cons | apply List.Sublist.cons)))) ?_; (conv => arg 6; simp only [Act.put, List.setIfInBounds_toArray, List.set_cons_succ, List.set_cons_zero]))
  (refine wpT_free rfl rfl (.inl ⟨rfl, fun w hw => run_ld1 Try.underlying23 rfl rfl rfl hw.2.1⟩) (by exact H.stP (by (repeat (first | exact List.Sublist.refl _ | apply List.Sublist.cons_cons | apply List.Sublist.cons)))) ?_; (conv => arg 6; simp only [Act.put, List.setIfInBounds_toArray, List.set_cons_succ, List.set_cons_zero]))
  (refine wpT_free rfl rfl (.inl ⟨rfl, fun w _ => by go_simp; rfl⟩) (by exact H.stP (by (repeat (first | exact List.Sublist.refl _ | apply List.Sublist.cons_cons | apply List.Sublist.cons)))) ?_; (conv => arg 6; simp only [Act.put, List.setIfInBounds_toArray, List.set_cons_succ, List.set_cons_zero]))
  (refine wpT_free rfl rfl (.inl ⟨rfl, fun w hw => run_ld1 Try.underlying9 rfl rfl rfl (st_cell hw (i := 2) (by (repeat (first | exact List.mem_cons_self | refine List.mem_cons_of_mem _ ?_))) rfl)⟩) (by exact H.stP (by (repeat (first | exact List.Sublist.refl _ | apply List.Sublist.cons_cons | apply List.Sublist.cons)))) ?_; (conv => arg 6; simp only [Act.put, List.setIfInBounds_toArray, List.set_cons_succ, List.set_cons_zero]))
  (refine wpT_free rfl rfl (.inl ⟨rfl, fun w _ => by go_simp; rfl⟩) (by exact H.stP (by (repeat (first | exact List.Sublist.refl _ | apply List.Sublist.cons_cons | apply List.Sublist.cons)))) ?_; (conv => arg 6; simp only [Act.put, List.setIfInBounds_toArray, List.set_cons_succ, List.set_cons_zero]))
  (refine wpT_free rfl rfl (.inl ⟨rfl, fun w _ => by go_simp; rfl⟩) (by exact H.stP (by (repeat (first | exact List.Sublist.refl _ | apply List.Sublist.cons_cons | apply List.Sublist.cons)))) ?_; (conv => arg 6; simp only [Act.put, List.setIfInBounds_toArray, List.set_cons_succ, List.set_cons_zero]))
  (refine wpT_free rfl rfl (.inl ⟨rfl, fun w _ => by go_simp; rfl⟩) (by exact H.stP (by (repeat (first | exact List.Sublist.refl _ | apply List.Sublist.cons_cons | apply List.Sublist.cons)))) ?_; (conv => arg 6; simp only [Act.put, List.setIfInBounds_toArray, List.set_cons_succ, List.set_cons_zero]))
  (refine wpT_free rfl rfl (.inl ⟨rfl, fun w hw => run_ld1 Try.underlying44 rfl rfl rfl hw.2.2⟩) (by exact H.stP (by (repeat (first | exact List.Sublist.refl _ | apply List.Sublist.cons_cons | apply List.Sublist.cons)))) ?_; (conv => arg 6; simp only [Act.put, List.setIfInBounds_toArray, List.set_cons_succ, List.set_cons_zero]))
  (refine wpT_free rfl rfl (.inl ⟨rfl, fun w _ => by go_simp; rfl⟩) (by exact H.stP (by (repeat (first | exact List.Sublist.refl _ | apply List.Sublist.cons_cons | apply List.Sublist.cons)))) ?_; (conv => arg 6; simp only [Act.put, List.setIfInBounds_toArray, List.set_cons_succ, List.set_cons_zero]))
  (refine wpT_free rfl rfl (.inl ⟨rfl, fun w hw => run_ld1 Try.underlying9 rfl rfl rfl (st_cell hw (i := 2) (by (repeat (first | exact List.mem_cons_self | refine List.mem_cons_of_mem _ ?_))) rfl)⟩) (by exact H.stP (by (repeat (first | exact List.Sublist.refl _ | apply List.Sublist.cons_cons | apply List.Sublist.cons)))) ?_; (conv => arg 6; simp only [Act.put, List.setIfInBounds_toArray, List.set_cons_succ, List.set_cons_zero]))
  refine wpT_op rfl ?_
  go_wp2_with (first | (apply wpList_want; (· rfl)) | (go_at_call 46; refine (MarkP (ok2 _ _ _ _ _) H (by omega) htl).mono ?_; clear H; rintro e wn ⟨rfl, H⟩; rw [HT1.out] at H))
  refine PlanTQ.mk (by exact H.stP (by (repeat (first | exact List.Sublist.refl _ | apply List.Sublist.cons_cons | apply List.Sublist.cons)))) ?_
  refine wpT_op rfl ?_
  go_wp2_with (first | (apply wpList_want; (· rfl)) | (go_at_call 52; refine (MarkM (tabR_ok _ _) (playR_ok _ _ _ _) H (by omega) htl).mono ?_; clear H; rintro e wn ⟨rfl, H⟩; rw [HT1.out] at H))
  refine PlanTQ.mk (by exact H.stP (by (repeat (first | exact List.Sublist.refl _ | apply List.Sublist.cons_cons | apply List.Sublist.cons)))) ?_
  (refine wpT_free rfl rfl (.inl ⟨rfl, fun w _ => run_neq26b false rfl rfl rfl HMK.out.1 HMK.out.1 (by simp) w⟩) (by exact H.stP (by (repeat (first | exact List.Sublist.refl _ | apply List.Sublist.cons_cons | apply List.Sublist.cons)))) ?_; (conv => arg 6; simp only [Act.put, List.setIfInBounds_toArray, List.set_cons_succ, List.set_cons_zero]))
  (refine wpT_free rfl rfl (.inl ⟨rfl, fun w _ => by go_simp; rfl⟩) (by exact H.stP (by (repeat (first | exact List.Sublist.refl _ | apply List.Sublist.cons_cons | apply List.Sublist.cons)))) ?_; (conv => arg 6; simp only [Act.put, List.setIfInBounds_toArray, List.set_cons_succ, List.set_cons_zero]))
  refine wpT_done ?_
  rw [HQ.out]
  have c0 := H.reb.cell (i := 0) (g := b3) (v := .int .i64 c.kind) (by (repeat (first | exact List.mem_cons_self | refine List.mem_cons_of_mem _ ?_))) rfl
  go_wp2_with (first | (refine wpF_al 7 H (ok3 _ _ _ _ _ _) z26 rfl rfl rfl (fun b7 wn Hn => ?_); clear H; rename TF _ _ _ _ _ => H; clear c0; have c0 := H.reb.cell (i := 0) (g := b3) (v := .int .i64 c.kind) (by (repeat (first | exact List.mem_cons_self | refine List.mem_cons_of_mem _ ?_))) rfl; (conv => arg 5; simp only [Act.put, List.setIfInBounds_toArray, List.set_cons_succ, List.set_cons_zero])) | (refine wpF_al 8 H (ok3 _ _ _ _ _ _) z26 rfl rfl rfl (fun b8 wn Hn => ?_); clear H; rename TF _ _ _ _ _ => H; clear c0; have c0 := H.reb.cell (i := 0) (g := b3) (v := .int .i64 c.kind) (by (repeat (first | exact List.mem_cons_self | refine List.mem_cons_of_mem _ ?_))) rfl; (conv => arg 5; simp only [Act.put, List.setIfInBounds_toArray, List.set_cons_succ, List.set_cons_zero])))
  clear c0
  have hpi : PI (n + 1) ts1 (keys ++ [(List.replicate 32 (0 : Int))]) := hs.out.pi.next (kp_le HP1.out)
  have hxk : KeyOk (List.replicate 32 (0 : Int)) := zK_ok
  obtain ⟨x, hx⟩ : ∃ k, k = List.replicate 32 (0 : Int) := ⟨_, rfl⟩
  obtain ⟨ts2, hts⟩ : ∃ t, t = ts1 := ⟨_, rfl⟩
  rw [← hx, ← hts] at H
  rw [← hx, ← hts] at hpi
  rw [← hx] at hxk
  have HPI := hid hpi
  have HX := hid hxk
  have hkl := HPI.out.kn
  have hnn := hs.out.nn
  clear hpi hxk hx hts
  rw [List.length_append, List.length_singleton] at hkl
  have HLK := hid (H.lookOk HX.out)
  replace H := H.sub (L' := [.blk b8 (rowO .u8 26 x), .blk b7 (rowO .u8 26 x)]) (by (repeat (first | exact List.Sublist.refl _ | apply List.Sublist.cons_cons | apply List.Sublist.cons)))
  go_cut [193] from 57 (fun _ wx => TF K (playS p g m ts2 (keys ++ [x])) w wx [.blk b8 (rowO .u8 26 x), .blk b7 (rowO .u8 26 x)])
  case first =>
    obtain ⟨A9, c9, cp2, M, hclose, hkeep⟩ := H.playOut2 (tabR_ok _ _) (refR_ok _ _)
    have HKE := hid (fun wz L2 M => hkeep b7 _ (by (repeat (first | exact List.mem_cons_self | refine List.mem_cons_of_mem _ ?_))) wz L2 M)
    have HCL := hid hclose
    clear hkeep hclose
    refine wp_region_planS (fun w' => w'.heap[b7]? = some (rowO .u8 26 x)) (.free 0 (.free 1 (.free 2 (.free 3 (.free 5 (.two 4 (.one 6 (.one 7 (.free 8 (.free 9 (.one 10 (.done)))))) 6 (.one 4 (.one 7 (.free 8 (.free 9 (.one 10 (.done)))))))))))) (by kernel_rfl) (by kernel_rfl) (fun _ _ _ _ _ h => h) ?_
    intro w8 hb
    have M0 := M.call hb
    clear M cp2
    have M := M0
    clear M0
    (refine wpT_free rfl rfl (.inl ⟨rfl, fun w _ => by go_simp; rfl⟩) (by exact HKE.out _ _ M) ?_; (conv => arg 6; simp only [Act.put, List.setIfInBounds_toArray, List.set_cons_succ, List.set_cons_zero]))
    (refine wpT_free rfl rfl (.inl ⟨rfl, fun w _ => by go_simp; rfl⟩) (by exact HKE.out _ _ M) ?_; (conv => arg 6; simp only [Act.put, List.setIfInBounds_toArray, List.set_cons_succ, List.set_cons_zero]))
    (refine wpT_free rfl rfl (.inl ⟨rfl, fun w _ => by go_simp; rfl⟩) (by exact HKE.out _ _ M) ?_; (conv => arg 6; simp only [Act.put, List.setIfInBounds_toArray, List.set_cons_succ, List.set_cons_zero]))
    (refine wpT_free rfl rfl (.inl ⟨rfl, fun w _ => by go_simp; rfl⟩) (by exact HKE.out _ _ M) ?_; (conv => arg 6; simp only [Act.put, List.setIfInBounds_toArray, List.set_cons_succ, List.set_cons_zero]))
    (refine wpT_free rfl rfl (.inl ⟨rfl, fun w hw => run_ldrowH Try.underlying26 s26 rfl rfl rfl hw HX.out.1⟩) (by exact HKE.out _ _ M) ?_; (conv => arg 6; simp only [Act.put, List.setIfInBounds_toArray, List.set_cons_succ, List.set_cons_zero]))
    refine wpT_two rfl rfl ?_ ?_
    · have cp2 := M.cell (i := 2) (g := p) (v := .slice A9 keys.length c9) (by (repeat (first | exact List.mem_cons_self | refine List.mem_cons_of_mem _ ?_))) rfl
      go_wp2_with fail
      clear cp2
      refine PlanTQ.mk (by exact HKE.out _ _ M) ?_
      refine wpT_op rfl ?_
      go_wp2_with (refine wpList_bsK1 199 rfl rfl rfl rfl HX.out M (fun b199 wn Mn => ?_); clear M; rename Mem _ _ _ _ => M; (conv => arg 5; simp only [Act.put, List.setIfInBounds_toArray, List.set_cons_succ, List.set_cons_zero]))
      refine PlanTQ.mk (by exact HKE.out _ _ M) ?_
      refine wpT_op rfl ?_
      go_wp2_with (refine wpList_appSm 200 rfl Try.underlying34 i26' rfl (by decide) rfl rfl rfl rfl M (fun A' cap' => Swap.tail (Swap.tail Swap.head)) (M.blkT List.mem_cons_self) (by rw [nums_length, List.flatten_cons, List.flatten_nil, List.append_nil, HX.out.1]) (nums_one .u8 _) (by omega) (by omega) (fun A2 c2 wn Mn => ?_); clear M; rename Mem _ _ _ _ => M; (conv => arg 5; simp only [Act.put, List.setIfInBounds_toArray, List.set_cons_succ, List.set_cons_zero]))
      refine PlanTQ.mk (by exact HKE.out _ _ M) ?_
      (refine wpT_free rfl rfl (.inl ⟨rfl, fun w _ => by go_simp; rfl⟩) (by exact HKE.out _ _ M) ?_; (conv => arg 6; simp only [Act.put, List.setIfInBounds_toArray, List.set_cons_succ, List.set_cons_zero]))
      (refine wpT_free rfl rfl (.inl ⟨rfl, fun w _ => by go_simp; rfl⟩) (by exact HKE.out _ _ M) ?_; (conv => arg 6; simp only [Act.put, List.setIfInBounds_toArray, List.set_cons_succ, List.set_cons_zero]))
      refine wpT_op rfl ?_
      go_wp2_with (refine wpList_stM (v := .slice A2 (keys.length + 1) c2) rfl rfl s34 rfl rfl rfl M (Swap.tail Swap.head) (by simp) ?_; clear M; intro wz M; (try (conv => arg 5; simp only [Act.put, List.setIfInBounds_toArray, List.set_cons_succ, List.set_cons_zero])))
      refine PlanTQ.mk (by exact HKE.out _ _ M) ?_
      refine wpT_done ?_
      go_wp2_with fail
      go_meet
      exact HCL.out A2 c2 [x] _ (one_ok HX.out) (M.sub (by (repeat (first | exact List.Sublist.refl _ | apply List.Sublist.cons_cons | apply List.Sublist.cons))))
    · go_wp2_with (refine wpList_bsK1 199 rfl rfl rfl rfl HX.out M (fun b199 wn Mn => ?_); clear M; rename Mem _ _ _ _ => M; (conv => arg 5; simp only [Act.put, List.setIfInBounds_toArray, List.set_cons_succ, List.set_cons_zero]))
      refine PlanTQ.mk (by exact HKE.out _ _ M) ?_
      refine wpT_op rfl ?_
      have cp2 := M.cell (i := 2) (g := p) (v := .slice A9 keys.length c9) (by (repeat (first | exact List.mem_cons_self | refine List.mem_cons_of_mem _ ?_))) rfl
      go_wp2_with fail
      clear cp2
      refine PlanTQ.mk (by exact HKE.out _ _ M) ?_
      refine wpT_op rfl ?_
      go_wp2_with (refine wpList_appSm 200 rfl Try.underlying34 i26' rfl (by decide) rfl rfl rfl rfl M (fun A' cap' => Swap.tail (Swap.tail Swap.head)) (M.blkT List.mem_cons_self) (by rw [nums_length, List.flatten_cons, List.flatten_nil, List.append_nil, HX.out.1]) (nums_one .u8 _) (by omega) (by omega) (fun A2 c2 wn Mn => ?_); clear M; rename Mem _ _ _ _ => M; (conv => arg 5; simp only [Act.put, List.setIfInBounds_toArray, List.set_cons_succ, List.set_cons_zero]))
      refine PlanTQ.mk (by exact HKE.out _ _ M) ?_
      (refine wpT_free rfl rfl (.inl ⟨rfl, fun w _ => by go_simp; rfl⟩) (by exact HKE.out _ _ M) ?_; (conv => arg 6; simp only [Act.put, List.setIfInBounds_toArray, List.set_cons_succ, List.set_cons_zero]))
      (refine wpT_free rfl rfl (.inl ⟨rfl, fun w _ => by go_simp; rfl⟩) (by exact HKE.out _ _ M) ?_; (conv => arg 6; simp only [Act.put, List.setIfInBounds_toArray, List.set_cons_succ, List.set_cons_zero]))
      refine wpT_op rfl ?_
      go_wp2_with (refine wpList_stM (v := .slice A2 (keys.length + 1) c2) rfl rfl s34 rfl rfl rfl M (Swap.tail Swap.head) (by simp) ?_; clear M; intro wz M; (try (conv => arg 5; simp only [Act.put, List.setIfInBounds_toArray, List.set_cons_succ, List.set_cons_zero])))
      refine PlanTQ.mk (by exact HKE.out _ _ M) ?_
      refine wpT_done ?_
      go_wp2_with fail
      go_meet
      exact HCL.out A2 c2 [x] _ (one_ok HX.out) (M.sub (by (repeat (first | exact List.Sublist.refl _ | apply List.Sublist.cons_cons | apply List.Sublist.cons))))
  case rest =>
    clear H
    have H := hcut
    clear hcut
    obtain ⟨Am, cm, cmm⟩ := H.refCell2
    go_wp2_with fail
    refine wp_region_planTP [.blk b8 (rowO .u8 26 x), .blk b7 (rowO .u8 26 x)] (fun w' => PlayC p g m w' ∧ w'.cell? ⟨m, 0, none⟩ = some (.slice Am ts2.length cm)) (.free 0 (.free 1 (.free 2 (.free 3 (.free 4 (.free 5 (.free 6 (.free 7 (.free 9 (.free 10 (.free 11 (.free 12 (.free 13 (.free 14 (.free 15 (.free 16 (.one 8 (.free 17 (.free 18 (.free 19 (.free 20 (.free 21 (.free 22 (.free 23 (.free 24 (.free 26 (.free 27 (.free 28 (.free 29 (.free 30 (.one 25 (.one 31 (.one 32 (.free 33 (.free 34 (.done)))))))))))))))))))))))))))))))))))) (by kernel_rfl) (by kernel_rfl) (fun _ _ _ _ _ h => h) H (ok3 _ _ _ _ _ _) ?_
    clear H
    intro ops Q HO HQ wr H MR
    have cm2 := MR.cell0 cmm
    clear MR cmm
    have hops := HO.out
    subst hops
    (refine wpT_free rfl rfl (.inl ⟨rfl, fun w hw => by obtain ⟨⟨_, _, M⟩, _⟩ := hw; exact run_ldrowN (xs := x) Try.underlying26 s26 rfl rfl rfl M (by (repeat (first | exact List.mem_cons_self | refine List.mem_cons_of_mem _ ?_))) HX.out.1⟩) (by exact ⟨(H.stP (by (repeat (first | exact List.Sublist.refl _ | apply List.Sublist.cons_cons | apply List.Sublist.cons)))).1, H.playC, cm2⟩) ?_; (conv => arg 6; simp only [Act.put, List.setIfInBounds_toArray, List.set_cons_succ, List.set_cons_zero]))
    (refine wpT_free rfl rfl (.inl ⟨rfl, fun w hw => by obtain ⟨⟨_, _, M⟩, _⟩ := hw; exact run_ldrowN (xs := x) Try.underlying26 s26 rfl rfl rfl M (by (repeat (first | exact List.mem_cons_self | refine List.mem_cons_of_mem _ ?_))) HX.out.1⟩) (by exact ⟨(H.stP (by (repeat (first | exact List.Sublist.refl _ | apply List.Sublist.cons_cons | apply List.Sublist.cons)))).1, H.playC, cm2⟩) ?_; (conv => arg 6; simp only [Act.put, List.setIfInBounds_toArray, List.set_cons_succ, List.set_cons_zero]))
    (refine wpT_free rfl rfl (.inl ⟨rfl, fun w _ => run_eq26b true rfl rfl rfl HX.out.1 HX.out.1 (by simp) w⟩) (by exact ⟨(H.stP (by (repeat (first | exact List.Sublist.refl _ | apply List.Sublist.cons_cons | apply List.Sublist.cons)))).1, H.playC, cm2⟩) ?_; (conv => arg 6; simp only [Act.put, List.setIfInBounds_toArray, List.set_cons_succ, List.set_cons_zero]))
    (refine wpT_free rfl rfl (.inl ⟨rfl, fun w _ => by go_simp; rfl⟩) (by exact ⟨(H.stP (by (repeat (first | exact List.Sublist.refl _ | apply List.Sublist.cons_cons | apply List.Sublist.cons)))).1, H.playC, cm2⟩) ?_; (conv => arg 6; simp only [Act.put, List.setIfInBounds_toArray, List.set_cons_succ, List.set_cons_zero]))
    (refine wpT_free rfl rfl (.inl ⟨rfl, fun w _ => by go_simp; rfl⟩) (by exact ⟨(H.stP (by (repeat (first | exact List.Sublist.refl _ | apply List.Sublist.cons_cons | apply List.Sublist.cons)))).1, H.playC, cm2⟩) ?_; (conv => arg 6; simp only [Act.put, List.setIfInBounds_toArray, List.set_cons_succ, List.set_cons_zero]))
    (refine wpT_free rfl rfl (.inl ⟨rfl, fun w _ => by go_simp; rfl⟩) (by exact ⟨(H.stP (by (repeat (first | exact List.Sublist.refl _ | apply List.Sublist.cons_cons | apply List.Sublist.cons)))).1, H.playC, cm2⟩) ?_; (conv => arg 6; simp only [Act.put, List.setIfInBounds_toArray, List.set_cons_succ, List.set_cons_zero]))
    (refine wpT_free rfl rfl (.inl ⟨rfl, fun w _ => by go_simp; rfl⟩) (by exact ⟨(H.stP (by (repeat (first | exact List.Sublist.refl _ | apply List.Sublist.cons_cons | apply List.Sublist.cons)))).1, H.playC, cm2⟩) ?_; (conv => arg 6; simp only [Act.put, List.setIfInBounds_toArray, List.set_cons_succ, List.set_cons_zero]))
    (refine wpT_free rfl rfl (.inl ⟨rfl, fun w hw => run_ld1 Try.underlying23 rfl rfl rfl hw.2.1.1⟩) (by exact ⟨(H.stP (by (repeat (first | exact List.Sublist.refl _ | apply List.Sublist.cons_cons | apply List.Sublist.cons)))).1, H.playC, cm2⟩) ?_; (conv => arg 6; simp only [Act.put, List.setIfInBounds_toArray, List.set_cons_succ, List.set_cons_zero]))
    (refine wpT_free rfl rfl (.inl ⟨rfl, fun w _ => by go_simp; rfl⟩) (by exact ⟨(H.stP (by (repeat (first | exact List.Sublist.refl _ | apply List.Sublist.cons_cons | apply List.Sublist.cons)))).1, H.playC, cm2⟩) ?_; (conv => arg 6; simp only [Act.put, List.setIfInBounds_toArray, List.set_cons_succ, List.set_cons_zero]))
    (refine wpT_free rfl rfl (.inl ⟨rfl, fun w _ => by go_simp; rfl⟩) (by exact ⟨(H.stP (by (repeat (first | exact List.Sublist.refl _ | apply List.Sublist.cons_cons | apply List.Sublist.cons)))).1, H.playC, cm2⟩) ?_; (conv => arg 6; simp only [Act.put, List.setIfInBounds_toArray, List.set_cons_succ, List.set_cons_zero]))
    (refine wpT_free rfl rfl (.inl ⟨rfl, fun w _ => by go_simp; rfl⟩) (by exact ⟨(H.stP (by (repeat (first | exact List.Sublist.refl _ | apply List.Sublist.cons_cons | apply List.Sublist.cons)))).1, H.playC, cm2⟩) ?_; (conv => arg 6; simp only [Act.put, List.setIfInBounds_toArray, List.set_cons_succ, List.set_cons_zero]))
    (refine wpT_free rfl rfl (.inl ⟨rfl, fun w hw => run_ld1 Try.underlying44 rfl rfl rfl hw.2.1.2⟩) (by exact ⟨(H.stP (by (repeat (first | exact List.Sublist.refl _ | apply List.Sublist.cons_cons | apply List.Sublist.cons)))).1, H.playC, cm2⟩) ?_; (conv => arg 6; simp only [Act.put, List.setIfInBounds_toArray, List.set_cons_succ, List.set_cons_zero]))
    (refine wpT_free rfl rfl (.inl ⟨rfl, fun w _ => by go_simp; rfl⟩) (by exact ⟨(H.stP (by (repeat (first | exact List.Sublist.refl _ | apply List.Sublist.cons_cons | apply List.Sublist.cons)))).1, H.playC, cm2⟩) ?_; (conv => arg 6; simp only [Act.put, List.setIfInBounds_toArray, List.set_cons_succ, List.set_cons_zero]))
    (refine wpT_free rfl rfl (.inl ⟨rfl, fun w _ => by go_simp; rfl⟩) (by exact ⟨(H.stP (by (repeat (first | exact List.Sublist.refl _ | apply List.Sublist.cons_cons | apply List.Sublist.cons)))).1, H.playC, cm2⟩) ?_; (conv => arg 6; simp only [Act.put, List.setIfInBounds_toArray, List.set_cons_succ, List.set_cons_zero]))
    (refine wpT_free rfl rfl (.inl ⟨rfl, fun w hw => run_ld1 Try.underlying45 rfl rfl rfl hw.2.2⟩) (by exact ⟨(H.stP (by (repeat (first | exact List.Sublist.refl _ | apply List.Sublist.cons_cons | apply List.Sublist.cons)))).1, H.playC, cm2⟩) ?_; (conv => arg 6; simp only [Act.put, List.setIfInBounds_toArray, List.set_cons_succ, List.set_cons_zero]))
    (refine wpT_free rfl rfl (.inl ⟨rfl, fun w _ => by go_simp; rfl⟩) (by exact ⟨(H.stP (by (repeat (first | exact List.Sublist.refl _ | apply List.Sublist.cons_cons | apply List.Sublist.cons)))).1, H.playC, cm2⟩) ?_; (conv => arg 6; simp only [Act.put, List.setIfInBounds_toArray, List.set_cons_succ, List.set_cons_zero]))
    refine wpT_op rfl ?_
    go_wp2_with (first | (apply wpList_want; (· rfl)) | (go_at_call 26; refine (Len26P H).mono ?_; rintro e wn ⟨rfl, M⟩; replace H := H.call0 (ok3 _ _ _ _ _ _) M; replace cm2 := M.cell0 cm2; clear M))
    refine PlanTQ.mk (by exact ⟨(H.stP (by (repeat (first | exact List.Sublist.refl _ | apply List.Sublist.cons_cons | apply List.Sublist.cons)))).1, H.playC, cm2⟩) ?_
    (refine wpT_free (v := .bool true) rfl rfl (.inl ⟨rfl, fun w _ => by go_simp⟩) (by exact ⟨(H.stP (by (repeat (first | exact List.Sublist.refl _ | apply List.Sublist.cons_cons | apply List.Sublist.cons)))).1, H.playC, cm2⟩) ?_; (conv => arg 6; simp only [Act.put, List.setIfInBounds_toArray, List.set_cons_succ, List.set_cons_zero]))
    (refine wpT_free (v := .bool true) rfl rfl (.inl ⟨rfl, fun w _ => by go_simp; (try rfl)⟩) (by exact ⟨(H.stP (by (repeat (first | exact List.Sublist.refl _ | apply List.Sublist.cons_cons | apply List.Sublist.cons)))).1, H.playC, cm2⟩) ?_; (conv => arg 6; simp only [Act.put, List.setIfInBounds_toArray, List.set_cons_succ, List.set_cons_zero]))
    (refine wpT_free rfl rfl (.inl ⟨rfl, fun w _ => by go_simp; rfl⟩) (by exact ⟨(H.stP (by (repeat (first | exact List.Sublist.refl _ | apply List.Sublist.cons_cons | apply List.Sublist.cons)))).1, H.playC, cm2⟩) ?_; (conv => arg 6; simp only [Act.put, List.setIfInBounds_toArray, List.set_cons_succ, List.set_cons_zero]))
    (refine wpT_free rfl rfl (.inl ⟨rfl, fun w _ => by go_simp; rfl⟩) (by exact ⟨(H.stP (by (repeat (first | exact List.Sublist.refl _ | apply List.Sublist.cons_cons | apply List.Sublist.cons)))).1, H.playC, cm2⟩) ?_; (conv => arg 6; simp only [Act.put, List.setIfInBounds_toArray, List.set_cons_succ, List.set_cons_zero]))
    (refine wpT_free rfl rfl (.inl ⟨rfl, fun w _ => by go_simp; rfl⟩) (by exact ⟨(H.stP (by (repeat (first | exact List.Sublist.refl _ | apply List.Sublist.cons_cons | apply List.Sublist.cons)))).1, H.playC, cm2⟩) ?_; (conv => arg 6; simp only [Act.put, List.setIfInBounds_toArray, List.set_cons_succ, List.set_cons_zero]))
    (refine wpT_free rfl rfl (.inl ⟨rfl, fun w _ => by go_simp; rfl⟩) (by exact ⟨(H.stP (by (repeat (first | exact List.Sublist.refl _ | apply List.Sublist.cons_cons | apply List.Sublist.cons)))).1, H.playC, cm2⟩) ?_; (conv => arg 6; simp only [Act.put, List.setIfInBounds_toArray, List.set_cons_succ, List.set_cons_zero]))
    (refine wpT_free rfl rfl (.inl ⟨rfl, fun w hw => run_ld1 Try.underlying23 rfl rfl rfl hw.2.1.1⟩) (by exact ⟨(H.stP (by (repeat (first | exact List.Sublist.refl _ | apply List.Sublist.cons_cons | apply List.Sublist.cons)))).1, H.playC, cm2⟩) ?_; (conv => arg 6; simp only [Act.put, List.setIfInBounds_toArray, List.set_cons_succ, List.set_cons_zero]))
    (refine wpT_free rfl rfl (.inl ⟨rfl, fun w hw => by obtain ⟨⟨_, _, M⟩, _⟩ := hw; exact run_ldrowN (xs := x) Try.underlying26 s26 rfl rfl rfl M (by (repeat (first | exact List.mem_cons_self | refine List.mem_cons_of_mem _ ?_))) HX.out.1⟩) (by exact ⟨(H.stP (by (repeat (first | exact List.Sublist.refl _ | apply List.Sublist.cons_cons | apply List.Sublist.cons)))).1, H.playC, cm2⟩) ?_; (conv => arg 6; simp only [Act.put, List.setIfInBounds_toArray, List.set_cons_succ, List.set_cons_zero]))
    (refine wpT_free rfl rfl (.inl ⟨rfl, fun w _ => by go_simp; rfl⟩) (by exact ⟨(H.stP (by (repeat (first | exact List.Sublist.refl _ | apply List.Sublist.cons_cons | apply List.Sublist.cons)))).1, H.playC, cm2⟩) ?_; (conv => arg 6; simp only [Act.put, List.setIfInBounds_toArray, List.set_cons_succ, List.set_cons_zero]))
    (refine wpT_free rfl rfl (.inl ⟨rfl, fun w _ => by go_simp; rfl⟩) (by exact ⟨(H.stP (by (repeat (first | exact List.Sublist.refl _ | apply List.Sublist.cons_cons | apply List.Sublist.cons)))).1, H.playC, cm2⟩) ?_; (conv => arg 6; simp only [Act.put, List.setIfInBounds_toArray, List.set_cons_succ, List.set_cons_zero]))
    (refine wpT_free rfl rfl (.inl ⟨rfl, fun w _ => by go_simp; rfl⟩) (by exact ⟨(H.stP (by (repeat (first | exact List.Sublist.refl _ | apply List.Sublist.cons_cons | apply List.Sublist.cons)))).1, H.playC, cm2⟩) ?_; (conv => arg 6; simp only [Act.put, List.setIfInBounds_toArray, List.set_cons_succ, List.set_cons_zero]))
    (refine wpT_free rfl rfl (.inl ⟨rfl, fun w hw => run_ld1 Try.underlying44 rfl rfl rfl hw.2.1.2⟩) (by exact ⟨(H.stP (by (repeat (first | exact List.Sublist.refl _ | apply List.Sublist.cons_cons | apply List.Sublist.cons)))).1, H.playC, cm2⟩) ?_; (conv => arg 6; simp only [Act.put, List.setIfInBounds_toArray, List.set_cons_succ, List.set_cons_zero]))
    (refine wpT_free rfl rfl (.inl ⟨rfl, fun w hw => by obtain ⟨⟨_, _, M⟩, _⟩ := hw; exact run_ldrowN (xs := x) Try.underlying26 s26 rfl rfl rfl M (by (repeat (first | exact List.mem_cons_self | refine List.mem_cons_of_mem _ ?_))) HX.out.1⟩) (by exact ⟨(H.stP (by (repeat (first | exact List.Sublist.refl _ | apply List.Sublist.cons_cons | apply List.Sublist.cons)))).1, H.playC, cm2⟩) ?_; (conv => arg 6; simp only [Act.put, List.setIfInBounds_toArray, List.set_cons_succ, List.set_cons_zero]))
    refine wpT_op rfl ?_
    go_wp2_with (first | (apply wpList_want; (· rfl)) | (go_at_call 57; refine (LookPT H HX.out).mono ?_; rintro e wn ⟨B1, d1, rfl, r1, M⟩; replace H := H.call0 (ok3 _ _ _ _ _ _) M; replace cm2 := M.cell0 cm2; have HR1 := hid r1; clear M r1))
    refine PlanTQ.mk (by exact ⟨(H.stP (by (repeat (first | exact List.Sublist.refl _ | apply List.Sublist.cons_cons | apply List.Sublist.cons)))).1, H.playC, cm2⟩) ?_
    refine wpT_op rfl ?_
    go_wp2_with (first | (apply wpList_want; (· rfl)) | (go_at_call 58; refine (LookM H HX.out).mono ?_; rintro e wn ⟨B2, d2, rfl, r2, M⟩; replace H := H.call0 (ok3 _ _ _ _ _ _) M; replace cm2 := M.cell0 cm2; have HR3 := hid (HR1.out.mem M); have HR2 := hid r2; clear M r2 HR1))
    refine PlanTQ.mk (by exact ⟨(H.stP (by (repeat (first | exact List.Sublist.refl _ | apply List.Sublist.cons_cons | apply List.Sublist.cons)))).1, H.playC, cm2⟩) ?_
    refine wpT_op rfl ?_
    go_wp2_with (first | (apply wpList_want; (· rfl)) | (go_at_call 56; refine (SameTerm56 (t := lookT ts2 x) _ HLK.out.1 HLK.out.2 HR3.out HR2.out).mono ?_; rintro e wn ⟨rfl, M⟩; replace H := H.call0 (ok3 _ _ _ _ _ _) M; replace cm2 := M.cell0 cm2; clear M))
    refine PlanTQ.mk (by exact ⟨(H.stP (by (repeat (first | exact List.Sublist.refl _ | apply List.Sublist.cons_cons | apply List.Sublist.cons)))).1, H.playC, cm2⟩) ?_
    (refine wpT_free (v := .bool true) rfl rfl (.inl ⟨rfl, fun w _ => by go_simp; (try rfl)⟩) (by exact ⟨(H.stP (by (repeat (first | exact List.Sublist.refl _ | apply List.Sublist.cons_cons | apply List.Sublist.cons)))).1, H.playC, cm2⟩) ?_; (conv => arg 6; simp only [Act.put, List.setIfInBounds_toArray, List.set_cons_succ, List.set_cons_zero]))
    (refine wpT_free (v := .bool true) rfl rfl (.inl ⟨rfl, fun w _ => by go_simp; (try rfl)⟩) (by exact ⟨(H.stP (by (repeat (first | exact List.Sublist.refl _ | apply List.Sublist.cons_cons | apply List.Sublist.cons)))).1, H.playC, cm2⟩) ?_; (conv => arg 6; simp only [Act.put, List.setIfInBounds_toArray, List.set_cons_succ, List.set_cons_zero]))
    refine wpT_done ?_
    rw [HQ.out]
    go_wp2_with fail
    go_ret
    exact ⟨ts2, keys ++ [x], rfl, HPI.out, H.sub (List.nil_sublist _)⟩
set_option maxRecDepth 100000 in
set_option maxHeartbeats 8000000 in
theorem do30_1 {K : Nat → Prop} {w : World} {p g m n : Nat} {ts : List Tm} {keys : List (List Int)} {c : Sp} {I : Option Addr} {ic : Nat} (h : DoP K w p g m n ts keys c I ic) (ht : c.text.size ≤ 300) (hq : c.kind.tmod 8 = 1) :
    Calls Try.prog 30 #[.pointer (some ⟨p, 0, none⟩), .agg (spCells c I ic).toArray] w (DoR K p g m n w) := by
  have H := TF.start h.res h.lt
  have hs := hid h
  obtain ⟨ka, hka⟩ : ∃ k, k = atK keys c.at_ := ⟨_, rfl⟩
  obtain ⟨kb, hkb⟩ : ∃ k, k = atK keys (c.keys.getD 0 0) := ⟨_, rfl⟩
  obtain ⟨l, hl⟩ : ∃ l, l = namedP keys c.keys := ⟨_, rfl⟩
  obtain ⟨ts1, ht1⟩ : ∃ t, t = markL ts c.text := ⟨_, rfl⟩
  have EA := hid hka.symm
  have EB := hid hkb.symm
  have EL := hid hl.symm
  have HT1 := hid ht1.symm
  have HA := hid (show KeyOk ka from by rw [hka]; exact h.at _)
  have HB := hid (show KeyOk kb from by rw [hkb]; exact h.at _)
  have HL := hid (show l.length ≤ 5 ∧ ∀ k ∈ l, KeyOk k from by rw [hl]; exact ⟨namedP_len _ _, namedP_ok h.pi.k1 h.ok _⟩)
  have HP1 := hid (show (∀ u ∈ ts1, TmW u) ∧ (∀ u ∈ ts1, u.keys.length ≤ 10) ∧ ts1.length ≤ 2 * n + 1 from by rw [ht1]; exact h.pi.mark _)
  have HRAW := hid h.raw
  have HMK := hid (markN_ok ts c.text)
  have htl : ts.length ≤ 900000 := by have := h.tl; omega
  have htl1 : ts1.length ≤ 900000 := by have := HP1.out.2.2; have := h.nn; omega
  have htI : ¬ (300 : Int) < (c.text.size : Int) := by omega
  have hl5 : l.length ≤ 5 := HL.out.1
  clear h hka hkb hl ht1
  go_enter Try.func30, Try.ntmps30
  go_wp2_with (first | (refine wpF_bxC (cs := spCells c I ic) 3 H (ok3 _ _ _ _ _ _) rfl rfl rfl rfl (fun b3 w1 H1 => ?_); clear H; rename TF _ _ _ _ _ => H; have c2 := H.reb.cell (i := 2) (g := b3) (v := .string c.text) (by (repeat (first | exact List.mem_cons_self | refine List.mem_cons_of_mem _ ?_))) rfl; have c0 := H.reb.cell (i := 0) (g := b3) (v := .int .i64 c.kind) (by (repeat (first | exact List.mem_cons_self | refine List.mem_cons_of_mem _ ?_))) rfl; (conv => arg 5; simp only [Act.put, List.setIfInBounds_toArray, List.set_cons_succ, List.set_cons_zero])) | (refine wpF_al 5 H (ok3 _ _ _ _ _ _) z26 rfl rfl rfl (fun b5 wn Hn => ?_); clear H; rename TF _ _ _ _ _ => H; clear c2 c0; have c2 := H.reb.cell (i := 2) (g := b3) (v := .string c.text) (by (repeat (first | exact List.mem_cons_self | refine List.mem_cons_of_mem _ ?_))) rfl; have c0 := H.reb.cell (i := 0) (g := b3) (v := .int .i64 c.kind) (by (repeat (first | exact List.mem_cons_self | refine List.mem_cons_of_mem _ ?_))) rfl; (conv => arg 5; simp only [Act.put, List.setIfInBounds_toArray, List.set_cons_succ, List.set_cons_zero])) | (refine wpF_al 6 H (ok3 _ _ _ _ _ _) z26 rfl rfl rfl (fun b6 wn Hn => ?_); clear H; rename TF _ _ _ _ _ => H; clear c2 c0; have c2 := H.reb.cell (i := 2) (g := b3) (v := .string c.text) (by (repeat (first | exact List.mem_cons_self | refine List.mem_cons_of_mem _ ?_))) rfl; have c0 := H.reb.cell (i := 0) (g := b3) (v := .int .i64 c.kind) (by (repeat (first | exact List.mem_cons_self | refine List.mem_cons_of_mem _ ?_))) rfl; (conv => arg 5; simp only [Act.put, List.setIfInBounds_toArray, List.set_cons_succ, List.set_cons_zero])) | (refine wpList_ldagg 25 rfl Try.underlying66 rfl rfl rfl rfl (H.cellC (by (repeat (first | exact List.mem_cons_self | refine List.mem_cons_of_mem _ ?_)))) (sz66 HRAW.out) ?_; (conv => arg 5; simp only [Act.put, List.setIfInBounds_toArray, List.set_cons_succ, List.set_cons_zero])) | (go_at_call 51; refine (two51N hs.out H EA.out EB.out).mono ?_; rintro e wn ⟨rfl, M⟩; replace H := H.call0 (ok3 _ _ _ _ _ _) M; clear M; clear c2 c0; have c2 := H.reb.cell (i := 2) (g := b3) (v := .string c.text) (by (repeat (first | exact List.mem_cons_self | refine List.mem_cons_of_mem _ ?_))) rfl; have c0 := H.reb.cell (i := 0) (g := b3) (v := .int .i64 c.kind) (by (repeat (first | exact List.mem_cons_self | refine List.mem_cons_of_mem _ ?_))) rfl) | (refine wpF_st0 (ys := ka) rfl H (ok3 _ _ _ _ _ _) s26 rfl rfl rfl rfl (by (repeat (first | exact Swap.head | apply Swap.tail))) (by first | simp | exact zK_ok.1) (by exact HA.out.1) (fun wn Hn => ?_); clear H; rename TF _ _ _ _ _ => H; clear c2 c0; have c2 := H.reb.cell (i := 2) (g := b3) (v := .string c.text) (by (repeat (first | exact List.mem_cons_self | refine List.mem_cons_of_mem _ ?_))) rfl; have c0 := H.reb.cell (i := 0) (g := b3) (v := .int .i64 c.kind) (by (repeat (first | exact List.mem_cons_self | refine List.mem_cons_of_mem _ ?_))) rfl; (try (conv => arg 5; simp only [Act.put, List.setIfInBounds_toArray, List.set_cons_succ, List.set_cons_zero]))) | (refine wpF_st0 (ys := kb) rfl H (ok3 _ _ _ _ _ _) s26 rfl rfl rfl rfl (by (repeat (first | exact Swap.head | apply Swap.tail))) (by first | simp | exact zK_ok.1) (by exact HB.out.1) (fun wn Hn => ?_); clear H; rename TF _ _ _ _ _ => H; clear c2 c0; have c2 := H.reb.cell (i := 2) (g := b3) (v := .string c.text) (by (repeat (first | exact List.mem_cons_self | refine List.mem_cons_of_mem _ ?_))) rfl; have c0 := H.reb.cell (i := 0) (g := b3) (v := .int .i64 c.kind) (by (repeat (first | exact List.mem_cons_self | refine List.mem_cons_of_mem _ ?_))) rfl; (try (conv => arg 5; simp only [Act.put, List.setIfInBounds_toArray, List.set_cons_succ, List.set_cons_zero]))))
  clear c0 c2
  refine wp_region_planTP [.blk b6 (rowO .u8 26 kb), .blk b5 (rowO .u8 26 ka), .blk b3 (cellsO 66 (spCells c I ic))] (PlayC p g m) (.free 0 (.free 1 (.free 2 (.free 3 (.free 4 (.free 5 (.free 7 (.one 6 (.free 8 (.free 9 (.free 10 (.free 11 (.free 12 (.free 13 (.free 14 (.free 15 (.free 17 (.free 18 (.free 19 (.free 20 (.free 21 (.free 22 (.one 16 (.one 23 (.free 24 (.free 25 (.done))))))))))))))))))))))))))) (by kernel_rfl) (by kernel_rfl) (fun _ _ _ _ _ h => h) H (ok3 _ _ _ _ _ _) ?_
  clear H
  intro ops Q HO HQ wr H _
  have hops := HO.out
  subst hops
  (refine wpT_free rfl rfl (.inl ⟨rfl, fun w _ => by go_simp; rfl⟩) (by exact H.stP (by (repeat (first | exact List.Sublist.refl _ | apply List.Sublist.cons_cons | apply List.Sublist.cons)))) ?_; (conv => arg 6; simp only [Act.put, List.setIfInBounds_toArray, List.set_cons_succ, List.set_cons_zero]))
  (refine wpT_free rfl rfl (.inl ⟨rfl, fun w _ => by go_simp; rfl⟩) (by exact H.stP (by (repeat (first | exact List.Sublist.refl _ | apply List.Sublist.cons_cons | apply List.Sublist.cons)))) ?_; (conv => arg 6; simp only [Act.put, List.setIfInBounds_toArray, List.set_cons_succ, List.set_cons_zero]))
  (refine wpT_free rfl rfl (.inl ⟨rfl, fun w _ => by go_simp; rfl⟩) (by exact H.stP (by (repeat (first | exact List.Sublist.refl _ | apply List.Sublist.cons_cons | apply List.Sublist.cons)))) ?_; (conv => arg 6; simp only [Act.put, List.setIfInBounds_toArray, List.set_cons_succ, List.set_cons_zero]))
  (refine wpT_free rfl rfl (.inl ⟨rfl, fun w hw => run_ld1 Try.underlying23 rfl rfl rfl hw.2.1⟩) (by exact H.stP (by (repeat (first | exact List.Sublist.refl _ | apply List.Sublist.cons_cons | apply List.Sublist.cons)))) ?_; (conv => arg 6; simp only [Act.put, List.setIfInBounds_toArray, List.set_cons_succ, List.set_cons_zero]))
  (refine wpT_free rfl rfl (.inl ⟨rfl, fun w _ => run_slW Try.underlying26 s5 (by decide) rfl rfl w⟩) (by exact H.stP (by (repeat (first | exact List.Sublist.refl _ | apply List.Sublist.cons_cons | apply List.Sublist.cons)))) ?_; (conv => arg 6; simp only [Act.put, List.setIfInBounds_toArray, List.set_cons_succ, List.set_cons_zero]))
  (refine wpT_free rfl rfl (.inl ⟨rfl, fun w hw => by obtain ⟨⟨_, _, M⟩, _⟩ := hw; exact run_cvKeyP Try.underlying37 Try.underlying5 Try.underlying9 rfl rfl M (by (repeat (first | exact List.mem_cons_self | refine List.mem_cons_of_mem _ ?_))) HA.out.1⟩) (by exact H.stP (by (repeat (first | exact List.Sublist.refl _ | apply List.Sublist.cons_cons | apply List.Sublist.cons)))) ?_; (conv => arg 6; simp only [Act.put, List.setIfInBounds_toArray, List.set_cons_succ, List.set_cons_zero]))
  (refine wpT_free rfl rfl (.inl ⟨rfl, fun w hw => by obtain ⟨⟨_, _, M⟩, _⟩ := hw; exact run_ldrowN (xs := ka) Try.underlying26 s26 rfl rfl rfl M (by (repeat (first | exact List.mem_cons_self | refine List.mem_cons_of_mem _ ?_))) HA.out.1⟩) (by exact H.stP (by (repeat (first | exact List.Sublist.refl _ | apply List.Sublist.cons_cons | apply List.Sublist.cons)))) ?_; (conv => arg 6; simp only [Act.put, List.setIfInBounds_toArray, List.set_cons_succ, List.set_cons_zero]))
  refine wpT_op rfl ?_
  go_wp2_with (go_at_call 46; refine (MarkN g HA.out _).mono ?_; rintro e wn ⟨rfl, M⟩; replace H := H.call0 (ok3 _ _ _ _ _ _) M; clear M)
  refine PlanTQ.mk (by exact H.stP (by (repeat (first | exact List.Sublist.refl _ | apply List.Sublist.cons_cons | apply List.Sublist.cons)))) ?_
  (refine wpT_free rfl rfl (.inl ⟨rfl, fun w _ => run_neq26b false rfl rfl rfl HA.out.1 HA.out.1 (by simp) w⟩) (by exact H.stP (by (repeat (first | exact List.Sublist.refl _ | apply List.Sublist.cons_cons | apply List.Sublist.cons)))) ?_; (conv => arg 6; simp only [Act.put, List.setIfInBounds_toArray, List.set_cons_succ, List.set_cons_zero]))
  (refine wpT_free rfl rfl (.inl ⟨rfl, fun w _ => by go_simp; rfl⟩) (by exact H.stP (by (repeat (first | exact List.Sublist.refl _ | apply List.Sublist.cons_cons | apply List.Sublist.cons)))) ?_; (conv => arg 6; simp only [Act.put, List.setIfInBounds_toArray, List.set_cons_succ, List.set_cons_zero]))
  (refine wpT_free rfl rfl (.inl ⟨rfl, fun w _ => by go_simp; rfl⟩) (by exact H.stP (by (repeat (first | exact List.Sublist.refl _ | apply List.Sublist.cons_cons | apply List.Sublist.cons)))) ?_; (conv => arg 6; simp only [Act.put, List.setIfInBounds_toArray, List.set_cons_succ, List.set_cons_zero]))
  (refine wpT_free rfl rfl (.inl ⟨rfl, fun w _ => by go_simp; rfl⟩) (by exact H.stP (by (repeat (first | exact List.Sublist.refl _ | apply List.Sublist.cons_cons | apply List.Sublist.cons)))) ?_; (conv => arg 6; simp only [Act.put, List.setIfInBounds_toArray, List.set_cons_succ, List.set_cons_zero]))
  (refine wpT_free rfl rfl (.inl ⟨rfl, fun w _ => by go_simp; rfl⟩) (by exact H.stP (by (repeat (first | exact List.Sublist.refl _ | apply List.Sublist.cons_cons | apply List.Sublist.cons)))) ?_; (conv => arg 6; simp only [Act.put, List.setIfInBounds_toArray, List.set_cons_succ, List.set_cons_zero]))
  (refine wpT_free rfl rfl (.inl ⟨rfl, fun w hw => run_ld1 Try.underlying23 rfl rfl rfl hw.2.1⟩) (by exact H.stP (by (repeat (first | exact List.Sublist.refl _ | apply List.Sublist.cons_cons | apply List.Sublist.cons)))) ?_; (conv => arg 6; simp only [Act.put, List.setIfInBounds_toArray, List.set_cons_succ, List.set_cons_zero]))
  (refine wpT_free rfl rfl (.inl ⟨rfl, fun w _ => by go_simp; rfl⟩) (by exact H.stP (by (repeat (first | exact List.Sublist.refl _ | apply List.Sublist.cons_cons | apply List.Sublist.cons)))) ?_; (conv => arg 6; simp only [Act.put, List.setIfInBounds_toArray, List.set_cons_succ, List.set_cons_zero]))
  (refine wpT_free rfl rfl (.inl ⟨rfl, fun w hw => run_ld1 Try.underlying9 rfl rfl rfl (st_cell hw (i := 2) (by (repeat (first | exact List.mem_cons_self | refine List.mem_cons_of_mem _ ?_))) rfl)⟩) (by exact H.stP (by (repeat (first | exact List.Sublist.refl _ | apply List.Sublist.cons_cons | apply List.Sublist.cons)))) ?_; (conv => arg 6; simp only [Act.put, List.setIfInBounds_toArray, List.set_cons_succ, List.set_cons_zero]))
  (refine wpT_free rfl rfl (.inl ⟨rfl, fun w _ => by go_simp; rfl⟩) (by exact H.stP (by (repeat (first | exact List.Sublist.refl _ | apply List.Sublist.cons_cons | apply List.Sublist.cons)))) ?_; (conv => arg 6; simp only [Act.put, List.setIfInBounds_toArray, List.set_cons_succ, List.set_cons_zero]))
  (refine wpT_free rfl rfl (.inl ⟨rfl, fun w _ => by go_simp; rfl⟩) (by exact H.stP (by (repeat (first | exact List.Sublist.refl _ | apply List.Sublist.cons_cons | apply List.Sublist.cons)))) ?_; (conv => arg 6; simp only [Act.put, List.setIfInBounds_toArray, List.set_cons_succ, List.set_cons_zero]))
  (refine wpT_free rfl rfl (.inl ⟨rfl, fun w _ => by go_simp; rfl⟩) (by exact H.stP (by (repeat (first | exact List.Sublist.refl _ | apply List.Sublist.cons_cons | apply List.Sublist.cons)))) ?_; (conv => arg 6; simp only [Act.put, List.setIfInBounds_toArray, List.set_cons_succ, List.set_cons_zero]))
  (refine wpT_free rfl rfl (.inl ⟨rfl, fun w hw => run_ld1 Try.underlying44 rfl rfl rfl hw.2.2⟩) (by exact H.stP (by (repeat (first | exact List.Sublist.refl _ | apply List.Sublist.cons_cons | apply List.Sublist.cons)))) ?_; (conv => arg 6; simp only [Act.put, List.setIfInBounds_toArray, List.set_cons_succ, List.set_cons_zero]))
  (refine wpT_free rfl rfl (.inl ⟨rfl, fun w _ => by go_simp; rfl⟩) (by exact H.stP (by (repeat (first | exact List.Sublist.refl _ | apply List.Sublist.cons_cons | apply List.Sublist.cons)))) ?_; (conv => arg 6; simp only [Act.put, List.setIfInBounds_toArray, List.set_cons_succ, List.set_cons_zero]))
  (refine wpT_free rfl rfl (.inl ⟨rfl, fun w hw => run_ld1 Try.underlying9 rfl rfl rfl (st_cell hw (i := 2) (by (repeat (first | exact List.mem_cons_self | refine List.mem_cons_of_mem _ ?_))) rfl)⟩) (by exact H.stP (by (repeat (first | exact List.Sublist.refl _ | apply List.Sublist.cons_cons | apply List.Sublist.cons)))) ?_; (conv => arg 6; simp only [Act.put, List.setIfInBounds_toArray, List.set_cons_succ, List.set_cons_zero]))
  refine wpT_op rfl ?_
  go_wp2_with (first | (apply wpList_want; (· rfl)) | (go_at_call 46; refine (MarkP (ok2 _ _ _ _ _) H (by omega) htl).mono ?_; clear H; rintro e wn ⟨rfl, H⟩; rw [HT1.out] at H))
  refine PlanTQ.mk (by exact H.stP (by (repeat (first | exact List.Sublist.refl _ | apply List.Sublist.cons_cons | apply List.Sublist.cons)))) ?_
  refine wpT_op rfl ?_
  go_wp2_with (first | (apply wpList_want; (· rfl)) | (go_at_call 52; refine (MarkM (tabR_ok _ _) (playR_ok _ _ _ _) H (by omega) htl).mono ?_; clear H; rintro e wn ⟨rfl, H⟩; rw [HT1.out] at H))
  refine PlanTQ.mk (by exact H.stP (by (repeat (first | exact List.Sublist.refl _ | apply List.Sublist.cons_cons | apply List.Sublist.cons)))) ?_
  (refine wpT_free rfl rfl (.inl ⟨rfl, fun w _ => run_neq26b false rfl rfl rfl HMK.out.1 HMK.out.1 (by simp) w⟩) (by exact H.stP (by (repeat (first | exact List.Sublist.refl _ | apply List.Sublist.cons_cons | apply List.Sublist.cons)))) ?_; (conv => arg 6; simp only [Act.put, List.setIfInBounds_toArray, List.set_cons_succ, List.set_cons_zero]))
  (refine wpT_free rfl rfl (.inl ⟨rfl, fun w _ => by go_simp; rfl⟩) (by exact H.stP (by (repeat (first | exact List.Sublist.refl _ | apply List.Sublist.cons_cons | apply List.Sublist.cons)))) ?_; (conv => arg 6; simp only [Act.put, List.setIfInBounds_toArray, List.set_cons_succ, List.set_cons_zero]))
  refine wpT_done ?_
  rw [HQ.out]
  have c0 := H.reb.cell (i := 0) (g := b3) (v := .int .i64 c.kind) (by (repeat (first | exact List.mem_cons_self | refine List.mem_cons_of_mem _ ?_))) rfl
  go_wp2_with (first | (refine wpF_al 7 H (ok3 _ _ _ _ _ _) z26 rfl rfl rfl (fun b7 wn Hn => ?_); clear H; rename TF _ _ _ _ _ => H; clear c0; have c0 := H.reb.cell (i := 0) (g := b3) (v := .int .i64 c.kind) (by (repeat (first | exact List.mem_cons_self | refine List.mem_cons_of_mem _ ?_))) rfl; (conv => arg 5; simp only [Act.put, List.setIfInBounds_toArray, List.set_cons_succ, List.set_cons_zero])) | (refine wpF_al 8 H (ok3 _ _ _ _ _ _) z26 rfl rfl rfl (fun b8 wn Hn => ?_); clear H; rename TF _ _ _ _ _ => H; clear c0; have c0 := H.reb.cell (i := 0) (g := b3) (v := .int .i64 c.kind) (by (repeat (first | exact List.mem_cons_self | refine List.mem_cons_of_mem _ ?_))) rfl; (conv => arg 5; simp only [Act.put, List.setIfInBounds_toArray, List.set_cons_succ, List.set_cons_zero])))
  clear c0
  refine wp_region_planTP [.blk b3 (cellsO 66 (spCells c I ic))] (PlayC p g m) (.free 0 (.free 1 (.free 2 (.free 3 (.free 4 (.free 5 (.one 6 (.one 7 (.done))))))))) (by kernel_rfl) (by kernel_rfl) (fun _ _ _ _ _ h => h) H (ok3 _ _ _ _ _ _) ?_
  clear H
  intro ops Q HO HQ wr H _
  have hops := HO.out
  subst hops
  (refine wpT_free rfl rfl (.inl ⟨rfl, fun w _ => by go_simp; rfl⟩) (by exact H.stP (by (repeat (first | exact List.Sublist.refl _ | apply List.Sublist.cons_cons | apply List.Sublist.cons)))) ?_; (conv => arg 6; simp only [Act.put, List.setIfInBounds_toArray, List.set_cons_succ, List.set_cons_zero]))
  (refine wpT_free rfl rfl (.inl ⟨rfl, fun w _ => by go_simp; rfl⟩) (by exact H.stP (by (repeat (first | exact List.Sublist.refl _ | apply List.Sublist.cons_cons | apply List.Sublist.cons)))) ?_; (conv => arg 6; simp only [Act.put, List.setIfInBounds_toArray, List.set_cons_succ, List.set_cons_zero]))
  (refine wpT_free rfl rfl (.inl ⟨rfl, fun w _ => by go_simp; rfl⟩) (by exact H.stP (by (repeat (first | exact List.Sublist.refl _ | apply List.Sublist.cons_cons | apply List.Sublist.cons)))) ?_; (conv => arg 6; simp only [Act.put, List.setIfInBounds_toArray, List.set_cons_succ, List.set_cons_zero]))
  (refine wpT_free rfl rfl (.inl ⟨rfl, fun w hw => run_ld1 Try.underlying23 rfl rfl rfl hw.2.1⟩) (by exact H.stP (by (repeat (first | exact List.Sublist.refl _ | apply List.Sublist.cons_cons | apply List.Sublist.cons)))) ?_; (conv => arg 6; simp only [Act.put, List.setIfInBounds_toArray, List.set_cons_succ, List.set_cons_zero]))
  (refine wpT_free rfl rfl (.inl ⟨rfl, fun w _ => by go_simp; rfl⟩) (by exact H.stP (by (repeat (first | exact List.Sublist.refl _ | apply List.Sublist.cons_cons | apply List.Sublist.cons)))) ?_; (conv => arg 6; simp only [Act.put, List.setIfInBounds_toArray, List.set_cons_succ, List.set_cons_zero]))
  (refine wpT_free rfl rfl (.inl ⟨rfl, fun w hw => run_ld1 Try.underlying9 rfl rfl rfl (st_cell hw (i := 2) (by (repeat (first | exact List.mem_cons_self | refine List.mem_cons_of_mem _ ?_))) rfl)⟩) (by exact H.stP (by (repeat (first | exact List.Sublist.refl _ | apply List.Sublist.cons_cons | apply List.Sublist.cons)))) ?_; (conv => arg 6; simp only [Act.put, List.setIfInBounds_toArray, List.set_cons_succ, List.set_cons_zero]))
  refine wpT_op rfl ?_
  go_wp2_with (go_at_call 12; refine (DrawT (ok2 _ _ _ _ _) H (by omega) htl1).mono ?_; clear H; rintro e wn ⟨rfl, H⟩)
  refine PlanTQ.mk (by exact H.stP (by (repeat (first | exact List.Sublist.refl _ | apply List.Sublist.cons_cons | apply List.Sublist.cons)))) ?_
  refine wpT_op rfl ?_
  go_wp2_with ((refine wpF_st0 (ys := nm ts1 ⟨1, c.text, []⟩) rfl H (ok3 _ _ _ _ _ _) s26 rfl rfl rfl rfl (by (repeat (first | exact Swap.head | apply Swap.tail))) (by simp) (nm_ok _ _).1 (fun wn Hn => ?_); clear H; rename TF _ _ _ _ _ => H; (try (conv => arg 5; simp only [Act.put, List.setIfInBounds_toArray, List.set_cons_succ, List.set_cons_zero]))))
  refine PlanTQ.mk (by exact H.stP (by (repeat (first | exact List.Sublist.refl _ | apply List.Sublist.cons_cons | apply List.Sublist.cons)))) ?_
  refine wpT_done ?_
  rw [HQ.out]
  go_wp2_with fail
  refine wp_region_planTP [.blk b3 (cellsO 66 (spCells c I ic))] (PlayC p g m) (.free 0 (.free 1 (.free 2 (.free 3 (.free 4 (.free 5 (.one 6 (.one 7 (.done))))))))) (by kernel_rfl) (by kernel_rfl) (fun _ _ _ _ _ h => h) H (ok3 _ _ _ _ _ _) ?_
  clear H
  intro ops Q HO HQ wr H _
  have hops := HO.out
  subst hops
  (refine wpT_free rfl rfl (.inl ⟨rfl, fun w _ => by go_simp; rfl⟩) (by exact H.stP (by (repeat (first | exact List.Sublist.refl _ | apply List.Sublist.cons_cons | apply List.Sublist.cons)))) ?_; (conv => arg 6; simp only [Act.put, List.setIfInBounds_toArray, List.set_cons_succ, List.set_cons_zero]))
  (refine wpT_free rfl rfl (.inl ⟨rfl, fun w _ => by go_simp; rfl⟩) (by exact H.stP (by (repeat (first | exact List.Sublist.refl _ | apply List.Sublist.cons_cons | apply List.Sublist.cons)))) ?_; (conv => arg 6; simp only [Act.put, List.setIfInBounds_toArray, List.set_cons_succ, List.set_cons_zero]))
  (refine wpT_free rfl rfl (.inl ⟨rfl, fun w _ => by go_simp; rfl⟩) (by exact H.stP (by (repeat (first | exact List.Sublist.refl _ | apply List.Sublist.cons_cons | apply List.Sublist.cons)))) ?_; (conv => arg 6; simp only [Act.put, List.setIfInBounds_toArray, List.set_cons_succ, List.set_cons_zero]))
  (refine wpT_free rfl rfl (.inl ⟨rfl, fun w hw => run_ld1 Try.underlying44 rfl rfl rfl hw.2.2⟩) (by exact H.stP (by (repeat (first | exact List.Sublist.refl _ | apply List.Sublist.cons_cons | apply List.Sublist.cons)))) ?_; (conv => arg 6; simp only [Act.put, List.setIfInBounds_toArray, List.set_cons_succ, List.set_cons_zero]))
  (refine wpT_free rfl rfl (.inl ⟨rfl, fun w _ => by go_simp; rfl⟩) (by exact H.stP (by (repeat (first | exact List.Sublist.refl _ | apply List.Sublist.cons_cons | apply List.Sublist.cons)))) ?_; (conv => arg 6; simp only [Act.put, List.setIfInBounds_toArray, List.set_cons_succ, List.set_cons_zero]))
  (refine wpT_free rfl rfl (.inl ⟨rfl, fun w hw => run_ld1 Try.underlying9 rfl rfl rfl (st_cell hw (i := 2) (by (repeat (first | exact List.mem_cons_self | refine List.mem_cons_of_mem _ ?_))) rfl)⟩) (by exact H.stP (by (repeat (first | exact List.Sublist.refl _ | apply List.Sublist.cons_cons | apply List.Sublist.cons)))) ?_; (conv => arg 6; simp only [Act.put, List.setIfInBounds_toArray, List.set_cons_succ, List.set_cons_zero]))
  refine wpT_op rfl ?_
  go_wp2_with (go_at_call 45; refine (MakeM (ks := []) (tabR_ok _ _) (playR_ok _ _ _ _) H rfl (tmOk (by decide) (by decide) (by omega) (by simp) (by simp)) RowT.nil htl1).mono ?_; clear H; rintro e wn ⟨rfl, H⟩)
  refine PlanTQ.mk (by exact H.stP (by (repeat (first | exact List.Sublist.refl _ | apply List.Sublist.cons_cons | apply List.Sublist.cons)))) ?_
  refine wpT_op rfl ?_
  go_wp2_with ((refine wpF_st0 (ys := nm ts1 ⟨1, c.text, []⟩) rfl H (ok3 _ _ _ _ _ _) s26 rfl rfl rfl rfl (by (repeat (first | exact Swap.head | apply Swap.tail))) (by simp) (nm_ok _ _).1 (fun wn Hn => ?_); clear H; rename TF _ _ _ _ _ => H; (try (conv => arg 5; simp only [Act.put, List.setIfInBounds_toArray, List.set_cons_succ, List.set_cons_zero]))))
  refine PlanTQ.mk (by exact H.stP (by (repeat (first | exact List.Sublist.refl _ | apply List.Sublist.cons_cons | apply List.Sublist.cons)))) ?_
  refine wpT_done ?_
  rw [HQ.out]
  go_wp2_with fail
  have hpi : PI (n + 1) (putL ts1 ⟨1, c.text, []⟩) (keys ++ [(nm ts1 ⟨1, c.text, []⟩)]) := hs.out.pi.next (PI.put HP1.out (tmw_oth (by simp) (by simp) (by simp)) (by simp))
  have hxk : KeyOk (nm ts1 ⟨1, c.text, []⟩) := nm_ok _ _
  obtain ⟨x, hx⟩ : ∃ k, k = nm ts1 ⟨1, c.text, []⟩ := ⟨_, rfl⟩
  obtain ⟨ts2, hts⟩ : ∃ t, t = putL ts1 ⟨1, c.text, []⟩ := ⟨_, rfl⟩
  rw [← hx, ← hts] at H
  rw [← hx, ← hts] at hpi
  rw [← hx] at hxk
  have HPI := hid hpi
  have HX := hid hxk
  have hkl := HPI.out.kn
  have hnn := hs.out.nn
  clear hpi hxk hx hts
  rw [List.length_append, List.length_singleton] at hkl
  have HLK := hid (H.lookOk HX.out)
  replace H := H.sub (L' := [.blk b8 (rowO .u8 26 x), .blk b7 (rowO .u8 26 x)]) (by (repeat (first | exact List.Sublist.refl _ | apply List.Sublist.cons_cons | apply List.Sublist.cons)))
  go_cut [193] from 57 (fun _ wx => TF K (playS p g m ts2 (keys ++ [x])) w wx [.blk b8 (rowO .u8 26 x), .blk b7 (rowO .u8 26 x)])
  case first =>
    obtain ⟨A9, c9, cp2, M, hclose, hkeep⟩ := H.playOut2 (tabR_ok _ _) (refR_ok _ _)
    have HKE := hid (fun wz L2 M => hkeep b7 _ (by (repeat (first | exact List.mem_cons_self | refine List.mem_cons_of_mem _ ?_))) wz L2 M)
    have HCL := hid hclose
    clear hkeep hclose
    refine wp_region_planS (fun w' => w'.heap[b7]? = some (rowO .u8 26 x)) (.free 0 (.free 1 (.free 2 (.free 3 (.free 5 (.two 4 (.one 6 (.one 7 (.free 8 (.free 9 (.one 10 (.done)))))) 6 (.one 4 (.one 7 (.free 8 (.free 9 (.one 10 (.done)))))))))))) (by kernel_rfl) (by kernel_rfl) (fun _ _ _ _ _ h => h) ?_
    intro w8 hb
    have M0 := M.call hb
    clear M cp2
    have M := M0
    clear M0
    (refine wpT_free rfl rfl (.inl ⟨rfl, fun w _ => by go_simp; rfl⟩) (by exact HKE.out _ _ M) ?_; (conv => arg 6; simp only [Act.put, List.setIfInBounds_toArray, List.set_cons_succ, List.set_cons_zero]))
    (refine wpT_free rfl rfl (.inl ⟨rfl, fun w _ => by go_simp; rfl⟩) (by exact HKE.out _ _ M) ?_; (conv => arg 6; simp only [Act.put, List.setIfInBounds_toArray, List.set_cons_succ, List.set_cons_zero]))
    (refine wpT_free rfl rfl (.inl ⟨rfl, fun w _ => by go_simp; rfl⟩) (by exact HKE.out _ _ M) ?_; (conv => arg 6; simp only [Act.put, List.setIfInBounds_toArray, List.set_cons_succ, List.set_cons_zero]))
    (refine wpT_free rfl rfl (.inl ⟨rfl, fun w _ => by go_simp; rfl⟩) (by exact HKE.out _ _ M) ?_; (conv => arg 6; simp only [Act.put, List.setIfInBounds_toArray, List.set_cons_succ, List.set_cons_zero]))
    (refine wpT_free rfl rfl (.inl ⟨rfl, fun w hw => run_ldrowH Try.underlying26 s26 rfl rfl rfl hw HX.out.1⟩) (by exact HKE.out _ _ M) ?_; (conv => arg 6; simp only [Act.put, List.setIfInBounds_toArray, List.set_cons_succ, List.set_cons_zero]))
    refine wpT_two rfl rfl ?_ ?_
    · have cp2 := M.cell (i := 2) (g := p) (v := .slice A9 keys.length c9) (by (repeat (first | exact List.mem_cons_self | refine List.mem_cons_of_mem _ ?_))) rfl
      go_wp2_with fail
      clear cp2
      refine PlanTQ.mk (by exact HKE.out _ _ M) ?_
      refine wpT_op rfl ?_
      go_wp2_with (refine wpList_bsK1 199 rfl rfl rfl rfl HX.out M (fun b199 wn Mn => ?_); clear M; rename Mem _ _ _ _ => M; (conv => arg 5; simp only [Act.put, List.setIfInBounds_toArray, List.set_cons_succ, List.set_cons_zero]))
      refine PlanTQ.mk (by exact HKE.out _ _ M) ?_
      refine wpT_op rfl ?_
      go_wp2_with (refine wpList_appSm 200 rfl Try.underlying34 i26' rfl (by decide) rfl rfl rfl rfl M (fun A' cap' => Swap.tail (Swap.tail Swap.head)) (M.blkT List.mem_cons_self) (by rw [nums_length, List.flatten_cons, List.flatten_nil, List.append_nil, HX.out.1]) (nums_one .u8 _) (by omega) (by omega) (fun A2 c2 wn Mn => ?_); clear M; rename Mem _ _ _ _ => M; (conv => arg 5; simp only [Act.put, List.setIfInBounds_toArray, List.set_cons_succ, List.set_cons_zero]))
      refine PlanTQ.mk (by exact HKE.out _ _ M) ?_
      (refine wpT_free rfl rfl (.inl ⟨rfl, fun w _ => by go_simp; rfl⟩) (by exact HKE.out _ _ M) ?_; (conv => arg 6; simp only [Act.put, List.setIfInBounds_toArray, List.set_cons_succ, List.set_cons_zero]))
      (refine wpT_free rfl rfl (.inl ⟨rfl, fun w _ => by go_simp; rfl⟩) (by exact HKE.out _ _ M) ?_; (conv => arg 6; simp only [Act.put, List.setIfInBounds_toArray, List.set_cons_succ, List.set_cons_zero]))
      refine wpT_op rfl ?_
      go_wp2_with (refine wpList_stM (v := .slice A2 (keys.length + 1) c2) rfl rfl s34 rfl rfl rfl M (Swap.tail Swap.head) (by simp) ?_; clear M; intro wz M; (try (conv => arg 5; simp only [Act.put, List.setIfInBounds_toArray, List.set_cons_succ, List.set_cons_zero])))
      refine PlanTQ.mk (by exact HKE.out _ _ M) ?_
      refine wpT_done ?_
      go_wp2_with fail
      go_meet
      exact HCL.out A2 c2 [x] _ (one_ok HX.out) (M.sub (by (repeat (first | exact List.Sublist.refl _ | apply List.Sublist.cons_cons | apply List.Sublist.cons))))
    · go_wp2_with (refine wpList_bsK1 199 rfl rfl rfl rfl HX.out M (fun b199 wn Mn => ?_); clear M; rename Mem _ _ _ _ => M; (conv => arg 5; simp only [Act.put, List.setIfInBounds_toArray, List.set_cons_succ, List.set_cons_zero]))
      refine PlanTQ.mk (by exact HKE.out _ _ M) ?_
      refine wpT_op rfl ?_
      have cp2 := M.cell (i := 2) (g := p) (v := .slice A9 keys.length c9) (by (repeat (first | exact List.mem_cons_self | refine List.mem_cons_of_mem _ ?_))) rfl
      go_wp2_with fail
      clear cp2
      refine PlanTQ.mk (by exact HKE.out _ _ M) ?_
      refine wpT_op rfl ?_
      go_wp2_with (refine wpList_appSm 200 rfl Try.underlying34 i26' rfl (by decide) rfl rfl rfl rfl M (fun A' cap' => Swap.tail (Swap.tail Swap.head)) (M.blkT List.mem_cons_self) (by rw [nums_length, List.flatten_cons, List.flatten_nil, List.append_nil, HX.out.1]) (nums_one .u8 _) (by omega) (by omega) (fun A2 c2 wn Mn => ?_); clear M; rename Mem _ _ _ _ => M; (conv => arg 5; simp only [Act.put, List.setIfInBounds_toArray, List.set_cons_succ, List.set_cons_zero]))
      refine PlanTQ.mk (by exact HKE.out _ _ M) ?_
      (refine wpT_free rfl rfl (.inl ⟨rfl, fun w _ => by go_simp; rfl⟩) (by exact HKE.out _ _ M) ?_; (conv => arg 6; simp only [Act.put, List.setIfInBounds_toArray, List.set_cons_succ, List.set_cons_zero]))
      (refine wpT_free rfl rfl (.inl ⟨rfl, fun w _ => by go_simp; rfl⟩) (by exact HKE.out _ _ M) ?_; (conv => arg 6; simp only [Act.put, List.setIfInBounds_toArray, List.set_cons_succ, List.set_cons_zero]))
      refine wpT_op rfl ?_
      go_wp2_with (refine wpList_stM (v := .slice A2 (keys.length + 1) c2) rfl rfl s34 rfl rfl rfl M (Swap.tail Swap.head) (by simp) ?_; clear M; intro wz M; (try (conv => arg 5; simp only [Act.put, List.setIfInBounds_toArray, List.set_cons_succ, List.set_cons_zero])))
      refine PlanTQ.mk (by exact HKE.out _ _ M) ?_
      refine wpT_done ?_
      go_wp2_with fail
      go_meet
      exact HCL.out A2 c2 [x] _ (one_ok HX.out) (M.sub (by (repeat (first | exact List.Sublist.refl _ | apply List.Sublist.cons_cons | apply List.Sublist.cons))))
  case rest =>
    clear H
    have H := hcut
    clear hcut
    obtain ⟨Am, cm, cmm⟩ := H.refCell2
    go_wp2_with fail
    refine wp_region_planTP [.blk b8 (rowO .u8 26 x), .blk b7 (rowO .u8 26 x)] (fun w' => PlayC p g m w' ∧ w'.cell? ⟨m, 0, none⟩ = some (.slice Am ts2.length cm)) (.free 0 (.free 1 (.free 2 (.free 3 (.free 4 (.free 5 (.free 6 (.free 7 (.free 9 (.free 10 (.free 11 (.free 12 (.free 13 (.free 14 (.free 15 (.free 16 (.one 8 (.free 17 (.free 18 (.free 19 (.free 20 (.free 21 (.free 22 (.free 23 (.free 24 (.free 26 (.free 27 (.free 28 (.free 29 (.free 30 (.one 25 (.one 31 (.one 32 (.free 33 (.free 34 (.done)))))))))))))))))))))))))))))))))))) (by kernel_rfl) (by kernel_rfl) (fun _ _ _ _ _ h => h) H (ok3 _ _ _ _ _ _) ?_
    clear H
    intro ops Q HO HQ wr H MR
    have cm2 := MR.cell0 cmm
    clear MR cmm
    have hops := HO.out
    subst hops
    (refine wpT_free rfl rfl (.inl ⟨rfl, fun w hw => by obtain ⟨⟨_, _, M⟩, _⟩ := hw; exact run_ldrowN (xs := x) Try.underlying26 s26 rfl rfl rfl M (by (repeat (first | exact List.mem_cons_self | refine List.mem_cons_of_mem _ ?_))) HX.out.1⟩) (by exact ⟨(H.stP (by (repeat (first | exact List.Sublist.refl _ | apply List.Sublist.cons_cons | apply List.Sublist.cons)))).1, H.playC, cm2⟩) ?_; (conv => arg 6; simp only [Act.put, List.setIfInBounds_toArray, List.set_cons_succ, List.set_cons_zero]))
    (refine wpT_free rfl rfl (.inl ⟨rfl, fun w hw => by obtain ⟨⟨_, _, M⟩, _⟩ := hw; exact run_ldrowN (xs := x) Try.underlying26 s26 rfl rfl rfl M (by (repeat (first | exact List.mem_cons_self | refine List.mem_cons_of_mem _ ?_))) HX.out.1⟩) (by exact ⟨(H.stP (by (repeat (first | exact List.Sublist.refl _ | apply List.Sublist.cons_cons | apply List.Sublist.cons)))).1, H.playC, cm2⟩) ?_; (conv => arg 6; simp only [Act.put, List.setIfInBounds_toArray, List.set_cons_succ, List.set_cons_zero]))
    (refine wpT_free rfl rfl (.inl ⟨rfl, fun w _ => run_eq26b true rfl rfl rfl HX.out.1 HX.out.1 (by simp) w⟩) (by exact ⟨(H.stP (by (repeat (first | exact List.Sublist.refl _ | apply List.Sublist.cons_cons | apply List.Sublist.cons)))).1, H.playC, cm2⟩) ?_; (conv => arg 6; simp only [Act.put, List.setIfInBounds_toArray, List.set_cons_succ, List.set_cons_zero]))
    (refine wpT_free rfl rfl (.inl ⟨rfl, fun w _ => by go_simp; rfl⟩) (by exact ⟨(H.stP (by (repeat (first | exact List.Sublist.refl _ | apply List.Sublist.cons_cons | apply List.Sublist.cons)))).1, H.playC, cm2⟩) ?_; (conv => arg 6; simp only [Act.put, List.setIfInBounds_toArray, List.set_cons_succ, List.set_cons_zero]))
    (refine wpT_free rfl rfl (.inl ⟨rfl, fun w _ => by go_simp; rfl⟩) (by exact ⟨(H.stP (by (repeat (first | exact List.Sublist.refl _ | apply List.Sublist.cons_cons | apply List.Sublist.cons)))).1, H.playC, cm2⟩) ?_; (conv => arg 6; simp only [Act.put, List.setIfInBounds_toArray, List.set_cons_succ, List.set_cons_zero]))
    (refine wpT_free rfl rfl (.inl ⟨rfl, fun w _ => by go_simp; rfl⟩) (by exact ⟨(H.stP (by (repeat (first | exact List.Sublist.refl _ | apply List.Sublist.cons_cons | apply List.Sublist.cons)))).1, H.playC, cm2⟩) ?_; (conv => arg 6; simp only [Act.put, List.setIfInBounds_toArray, List.set_cons_succ, List.set_cons_zero]))
    (refine wpT_free rfl rfl (.inl ⟨rfl, fun w _ => by go_simp; rfl⟩) (by exact ⟨(H.stP (by (repeat (first | exact List.Sublist.refl _ | apply List.Sublist.cons_cons | apply List.Sublist.cons)))).1, H.playC, cm2⟩) ?_; (conv => arg 6; simp only [Act.put, List.setIfInBounds_toArray, List.set_cons_succ, List.set_cons_zero]))
    (refine wpT_free rfl rfl (.inl ⟨rfl, fun w hw => run_ld1 Try.underlying23 rfl rfl rfl hw.2.1.1⟩) (by exact ⟨(H.stP (by (repeat (first | exact List.Sublist.refl _ | apply List.Sublist.cons_cons | apply List.Sublist.cons)))).1, H.playC, cm2⟩) ?_; (conv => arg 6; simp only [Act.put, List.setIfInBounds_toArray, List.set_cons_succ, List.set_cons_zero]))
    (refine wpT_free rfl rfl (.inl ⟨rfl, fun w _ => by go_simp; rfl⟩) (by exact ⟨(H.stP (by (repeat (first | exact List.Sublist.refl _ | apply List.Sublist.cons_cons | apply List.Sublist.cons)))).1, H.playC, cm2⟩) ?_; (conv => arg 6; simp only [Act.put, List.setIfInBounds_toArray, List.set_cons_succ, List.set_cons_zero]))
    (refine wpT_free rfl rfl (.inl ⟨rfl, fun w _ => by go_simp; rfl⟩) (by exact ⟨(H.stP (by (repeat (first | exact List.Sublist.refl _ | apply List.Sublist.cons_cons | apply List.Sublist.cons)))).1, H.playC, cm2⟩) ?_; (conv => arg 6; simp only [Act.put, List.setIfInBounds_toArray, List.set_cons_succ, List.set_cons_zero]))
    (refine wpT_free rfl rfl (.inl ⟨rfl, fun w _ => by go_simp; rfl⟩) (by exact ⟨(H.stP (by (repeat (first | exact List.Sublist.refl _ | apply List.Sublist.cons_cons | apply List.Sublist.cons)))).1, H.playC, cm2⟩) ?_; (conv => arg 6; simp only [Act.put, List.setIfInBounds_toArray, List.set_cons_succ, List.set_cons_zero]))
    (refine wpT_free rfl rfl (.inl ⟨rfl, fun w hw => run_ld1 Try.underlying44 rfl rfl rfl hw.2.1.2⟩) (by exact ⟨(H.stP (by (repeat (first | exact List.Sublist.refl _ | apply List.Sublist.cons_cons | apply List.Sublist.cons)))).1, H.playC, cm2⟩) ?_; (conv => arg 6; simp only [Act.put, List.setIfInBounds_toArray, List.set_cons_succ, List.set_cons_zero]))
    (refine wpT_free rfl rfl (.inl ⟨rfl, fun w _ => by go_simp; rfl⟩) (by exact ⟨(H.stP (by (repeat (first | exact List.Sublist.refl _ | apply List.Sublist.cons_cons | apply List.Sublist.cons)))).1, H.playC, cm2⟩) ?_; (conv => arg 6; simp only [Act.put, List.setIfInBounds_toArray, List.set_cons_succ, List.set_cons_zero]))
    (refine wpT_free rfl rfl (.inl ⟨rfl, fun w _ => by go_simp; rfl⟩) (by exact ⟨(H.stP (by (repeat (first | exact List.Sublist.refl _ | apply List.Sublist.cons_cons | apply List.Sublist.cons)))).1, H.playC, cm2⟩) ?_; (conv => arg 6; simp only [Act.put, List.setIfInBounds_toArray, List.set_cons_succ, List.set_cons_zero]))
    (refine wpT_free rfl rfl (.inl ⟨rfl, fun w hw => run_ld1 Try.underlying45 rfl rfl rfl hw.2.2⟩) (by exact ⟨(H.stP (by (repeat (first | exact List.Sublist.refl _ | apply List.Sublist.cons_cons | apply List.Sublist.cons)))).1, H.playC, cm2⟩) ?_; (conv => arg 6; simp only [Act.put, List.setIfInBounds_toArray, List.set_cons_succ, List.set_cons_zero]))
    (refine wpT_free rfl rfl (.inl ⟨rfl, fun w _ => by go_simp; rfl⟩) (by exact ⟨(H.stP (by (repeat (first | exact List.Sublist.refl _ | apply List.Sublist.cons_cons | apply List.Sublist.cons)))).1, H.playC, cm2⟩) ?_; (conv => arg 6; simp only [Act.put, List.setIfInBounds_toArray, List.set_cons_succ, List.set_cons_zero]))
    refine wpT_op rfl ?_
    go_wp2_with (first | (apply wpList_want; (· rfl)) | (go_at_call 26; refine (Len26P H).mono ?_; rintro e wn ⟨rfl, M⟩; replace H := H.call0 (ok3 _ _ _ _ _ _) M; replace cm2 := M.cell0 cm2; clear M))
    refine PlanTQ.mk (by exact ⟨(H.stP (by (repeat (first | exact List.Sublist.refl _ | apply List.Sublist.cons_cons | apply List.Sublist.cons)))).1, H.playC, cm2⟩) ?_
    (refine wpT_free (v := .bool true) rfl rfl (.inl ⟨rfl, fun w _ => by go_simp⟩) (by exact ⟨(H.stP (by (repeat (first | exact List.Sublist.refl _ | apply List.Sublist.cons_cons | apply List.Sublist.cons)))).1, H.playC, cm2⟩) ?_; (conv => arg 6; simp only [Act.put, List.setIfInBounds_toArray, List.set_cons_succ, List.set_cons_zero]))
    (refine wpT_free (v := .bool true) rfl rfl (.inl ⟨rfl, fun w _ => by go_simp; (try rfl)⟩) (by exact ⟨(H.stP (by (repeat (first | exact List.Sublist.refl _ | apply List.Sublist.cons_cons | apply List.Sublist.cons)))).1, H.playC, cm2⟩) ?_; (conv => arg 6; simp only [Act.put, List.setIfInBounds_toArray, List.set_cons_succ, List.set_cons_zero]))
    (refine wpT_free rfl rfl (.inl ⟨rfl, fun w _ => by go_simp; rfl⟩) (by exact ⟨(H.stP (by (repeat (first | exact List.Sublist.refl _ | apply List.Sublist.cons_cons | apply List.Sublist.cons)))).1, H.playC, cm2⟩) ?_; (conv => arg 6; simp only [Act.put, List.setIfInBounds_toArray, List.set_cons_succ, List.set_cons_zero]))
    (refine wpT_free rfl rfl (.inl ⟨rfl, fun w _ => by go_simp; rfl⟩) (by exact ⟨(H.stP (by (repeat (first | exact List.Sublist.refl _ | apply List.Sublist.cons_cons | apply List.Sublist.cons)))).1, H.playC, cm2⟩) ?_; (conv => arg 6; simp only [Act.put, List.setIfInBounds_toArray, List.set_cons_succ, List.set_cons_zero]))
    (refine wpT_free rfl rfl (.inl ⟨rfl, fun w _ => by go_simp; rfl⟩) (by exact ⟨(H.stP (by (repeat (first | exact List.Sublist.refl _ | apply List.Sublist.cons_cons | apply List.Sublist.cons)))).1, H.playC, cm2⟩) ?_; (conv => arg 6; simp only [Act.put, List.setIfInBounds_toArray, List.set_cons_succ, List.set_cons_zero]))
    (refine wpT_free rfl rfl (.inl ⟨rfl, fun w _ => by go_simp; rfl⟩) (by exact ⟨(H.stP (by (repeat (first | exact List.Sublist.refl _ | apply List.Sublist.cons_cons | apply List.Sublist.cons)))).1, H.playC, cm2⟩) ?_; (conv => arg 6; simp only [Act.put, List.setIfInBounds_toArray, List.set_cons_succ, List.set_cons_zero]))
    (refine wpT_free rfl rfl (.inl ⟨rfl, fun w hw => run_ld1 Try.underlying23 rfl rfl rfl hw.2.1.1⟩) (by exact ⟨(H.stP (by (repeat (first | exact List.Sublist.refl _ | apply List.Sublist.cons_cons | apply List.Sublist.cons)))).1, H.playC, cm2⟩) ?_; (conv => arg 6; simp only [Act.put, List.setIfInBounds_toArray, List.set_cons_succ, List.set_cons_zero]))
    (refine wpT_free rfl rfl (.inl ⟨rfl, fun w hw => by obtain ⟨⟨_, _, M⟩, _⟩ := hw; exact run_ldrowN (xs := x) Try.underlying26 s26 rfl rfl rfl M (by (repeat (first | exact List.mem_cons_self | refine List.mem_cons_of_mem _ ?_))) HX.out.1⟩) (by exact ⟨(H.stP (by (repeat (first | exact List.Sublist.refl _ | apply List.Sublist.cons_cons | apply List.Sublist.cons)))).1, H.playC, cm2⟩) ?_; (conv => arg 6; simp only [Act.put, List.setIfInBounds_toArray, List.set_cons_succ, List.set_cons_zero]))
    (refine wpT_free rfl rfl (.inl ⟨rfl, fun w _ => by go_simp; rfl⟩) (by exact ⟨(H.stP (by (repeat (first | exact List.Sublist.refl _ | apply List.Sublist.cons_cons | apply List.Sublist.cons)))).1, H.playC, cm2⟩) ?_; (conv => arg 6; simp only [Act.put, List.setIfInBounds_toArray, List.set_cons_succ, List.set_cons_zero]))
    (refine wpT_free rfl rfl (.inl ⟨rfl, fun w _ => by go_simp; rfl⟩) (by exact ⟨(H.stP (by (repeat (first | exact List.Sublist.refl _ | apply List.Sublist.cons_cons | apply List.Sublist.cons)))).1, H.playC, cm2⟩) ?_; (conv => arg 6; simp only [Act.put, List.setIfInBounds_toArray, List.set_cons_succ, List.set_cons_zero]))
    (refine wpT_free rfl rfl (.inl ⟨rfl, fun w _ => by go_simp; rfl⟩) (by exact ⟨(H.stP (by (repeat (first | exact List.Sublist.refl _ | apply List.Sublist.cons_cons | apply List.Sublist.cons)))).1, H.playC, cm2⟩) ?_; (conv => arg 6; simp only [Act.put, List.setIfInBounds_toArray, List.set_cons_succ, List.set_cons_zero]))
    (refine wpT_free rfl rfl (.inl ⟨rfl, fun w hw => run_ld1 Try.underlying44 rfl rfl rfl hw.2.1.2⟩) (by exact ⟨(H.stP (by (repeat (first | exact List.Sublist.refl _ | apply List.Sublist.cons_cons | apply List.Sublist.cons)))).1, H.playC, cm2⟩) ?_; (conv => arg 6; simp only [Act.put, List.setIfInBounds_toArray, List.set_cons_succ, List.set_cons_zero]))
    (refine wpT_free rfl rfl (.inl ⟨rfl, fun w hw => by obtain ⟨⟨_, _, M⟩, _⟩ := hw; exact run_ldrowN (xs := x) Try.underlying26 s26 rfl rfl rfl M (by (repeat (first | exact List.mem_cons_self | refine List.mem_cons_of_mem _ ?_))) HX.out.1⟩) (by exact ⟨(H.stP (by (repeat (first | exact List.Sublist.refl _ | apply List.Sublist.cons_cons | apply List.Sublist.cons)))).1, H.playC, cm2⟩) ?_; (conv => arg 6; simp only [Act.put, List.setIfInBounds_toArray, List.set_cons_succ, List.set_cons_zero]))
    refine wpT_op rfl ?_
    go_wp2_with (first | (apply wpList_want; (· rfl)) | (go_at_call 57; refine (LookPT H HX.out).mono ?_; rintro e wn ⟨B1, d1, rfl, r1, M⟩; replace H := H.call0 (ok3 _ _ _ _ _ _) M; replace cm2 := M.cell0 cm2; have HR1 := hid r1; clear M r1))
    refine PlanTQ.mk (by exact ⟨(H.stP (by (repeat (first | exact List.Sublist.refl _ | apply List.Sublist.cons_cons | apply List.Sublist.cons)))).1, H.playC, cm2⟩) ?_
    refine wpT_op rfl ?_
    go_wp2_with (first | (apply wpList_want; (· rfl)) | (go_at_call 58; refine (LookM H HX.out).mono ?_; rintro e wn ⟨B2, d2, rfl, r2, M⟩; replace H := H.call0 (ok3 _ _ _ _ _ _) M; replace cm2 := M.cell0 cm2; have HR3 := hid (HR1.out.mem M); have HR2 := hid r2; clear M r2 HR1))
    refine PlanTQ.mk (by exact ⟨(H.stP (by (repeat (first | exact List.Sublist.refl _ | apply List.Sublist.cons_cons | apply List.Sublist.cons)))).1, H.playC, cm2⟩) ?_
    refine wpT_op rfl ?_
    go_wp2_with (first | (apply wpList_want; (· rfl)) | (go_at_call 56; refine (SameTerm56 (t := lookT ts2 x) _ HLK.out.1 HLK.out.2 HR3.out HR2.out).mono ?_; rintro e wn ⟨rfl, M⟩; replace H := H.call0 (ok3 _ _ _ _ _ _) M; replace cm2 := M.cell0 cm2; clear M))
    refine PlanTQ.mk (by exact ⟨(H.stP (by (repeat (first | exact List.Sublist.refl _ | apply List.Sublist.cons_cons | apply List.Sublist.cons)))).1, H.playC, cm2⟩) ?_
    (refine wpT_free (v := .bool true) rfl rfl (.inl ⟨rfl, fun w _ => by go_simp; (try rfl)⟩) (by exact ⟨(H.stP (by (repeat (first | exact List.Sublist.refl _ | apply List.Sublist.cons_cons | apply List.Sublist.cons)))).1, H.playC, cm2⟩) ?_; (conv => arg 6; simp only [Act.put, List.setIfInBounds_toArray, List.set_cons_succ, List.set_cons_zero]))
    (refine wpT_free (v := .bool true) rfl rfl (.inl ⟨rfl, fun w _ => by go_simp; (try rfl)⟩) (by exact ⟨(H.stP (by (repeat (first | exact List.Sublist.refl _ | apply List.Sublist.cons_cons | apply List.Sublist.cons)))).1, H.playC, cm2⟩) ?_; (conv => arg 6; simp only [Act.put, List.setIfInBounds_toArray, List.set_cons_succ, List.set_cons_zero]))
    refine wpT_done ?_
    rw [HQ.out]
    go_wp2_with fail
    go_ret
    exact ⟨ts2, keys ++ [x], rfl, HPI.out, H.sub (List.nil_sublist _)⟩
set_option maxRecDepth 100000 in
set_option maxHeartbeats 8000000 in
theorem do30_2 {K : Nat → Prop} {w : World} {p g m n : Nat} {ts : List Tm} {keys : List (List Int)} {c : Sp} {I : Option Addr} {ic : Nat} (h : DoP K w p g m n ts keys c I ic) (ht : c.text.size ≤ 300) (hq : c.kind.tmod 8 = 2) :
    Calls Try.prog 30 #[.pointer (some ⟨p, 0, none⟩), .agg (spCells c I ic).toArray] w (DoR K p g m n w) := by
  have H := TF.start h.res h.lt
  have hs := hid h
  obtain ⟨ka, hka⟩ : ∃ k, k = atK keys c.at_ := ⟨_, rfl⟩
  obtain ⟨kb, hkb⟩ : ∃ k, k = atK keys (c.keys.getD 0 0) := ⟨_, rfl⟩
  obtain ⟨l, hl⟩ : ∃ l, l = namedP keys c.keys := ⟨_, rfl⟩
  obtain ⟨ts1, ht1⟩ : ∃ t, t = markL ts c.text := ⟨_, rfl⟩
  have EA := hid hka.symm
  have EB := hid hkb.symm
  have EL := hid hl.symm
  have HT1 := hid ht1.symm
  have HA := hid (show KeyOk ka from by rw [hka]; exact h.at _)
  have HB := hid (show KeyOk kb from by rw [hkb]; exact h.at _)
  have HL := hid (show l.length ≤ 5 ∧ ∀ k ∈ l, KeyOk k from by rw [hl]; exact ⟨namedP_len _ _, namedP_ok h.pi.k1 h.ok _⟩)
  have HP1 := hid (show (∀ u ∈ ts1, TmW u) ∧ (∀ u ∈ ts1, u.keys.length ≤ 10) ∧ ts1.length ≤ 2 * n + 1 from by rw [ht1]; exact h.pi.mark _)
  have HRAW := hid h.raw
  have HMK := hid (markN_ok ts c.text)
  have htl : ts.length ≤ 900000 := by have := h.tl; omega
  have htl1 : ts1.length ≤ 900000 := by have := HP1.out.2.2; have := h.nn; omega
  have htI : ¬ (300 : Int) < (c.text.size : Int) := by omega
  have hl5 : l.length ≤ 5 := HL.out.1
  clear h hka hkb hl ht1
  go_enter Try.func30, Try.ntmps30
  go_wp2_with (first | (refine wpF_bxC (cs := spCells c I ic) 3 H (ok3 _ _ _ _ _ _) rfl rfl rfl rfl (fun b3 w1 H1 => ?_); clear H; rename TF _ _ _ _ _ => H; have c2 := H.reb.cell (i := 2) (g := b3) (v := .string c.text) (by (repeat (first | exact List.mem_cons_self | refine List.mem_cons_of_mem _ ?_))) rfl; have c0 := H.reb.cell (i := 0) (g := b3) (v := .int .i64 c.kind) (by (repeat (first | exact List.mem_cons_self | refine List.mem_cons_of_mem _ ?_))) rfl; (conv => arg 5; simp only [Act.put, List.setIfInBounds_toArray, List.set_cons_succ, List.set_cons_zero])) | (refine wpF_al 5 H (ok3 _ _ _ _ _ _) z26 rfl rfl rfl (fun b5 wn Hn => ?_); clear H; rename TF _ _ _ _ _ => H; clear c2 c0; have c2 := H.reb.cell (i := 2) (g := b3) (v := .string c.text) (by (repeat (first | exact List.mem_cons_self | refine List.mem_cons_of_mem _ ?_))) rfl; have c0 := H.reb.cell (i := 0) (g := b3) (v := .int .i64 c.kind) (by (repeat (first | exact List.mem_cons_self | refine List.mem_cons_of_mem _ ?_))) rfl; (conv => arg 5; simp only [Act.put, List.setIfInBounds_toArray, List.set_cons_succ, List.set_cons_zero])) | (refine wpF_al 6 H (ok3 _ _ _ _ _ _) z26 rfl rfl rfl (fun b6 wn Hn => ?_); clear H; rename TF _ _ _ _ _ => H; clear c2 c0; have c2 := H.reb.cell (i := 2) (g := b3) (v := .string c.text) (by (repeat (first | exact List.mem_cons_self | refine List.mem_cons_of_mem _ ?_))) rfl; have c0 := H.reb.cell (i := 0) (g := b3) (v := .int .i64 c.kind) (by (repeat (first | exact List.mem_cons_self | refine List.mem_cons_of_mem _ ?_))) rfl; (conv => arg 5; simp only [Act.put, List.setIfInBounds_toArray, List.set_cons_succ, List.set_cons_zero])) | (refine wpList_ldagg 25 rfl Try.underlying66 rfl rfl rfl rfl (H.cellC (by (repeat (first | exact List.mem_cons_self | refine List.mem_cons_of_mem _ ?_)))) (sz66 HRAW.out) ?_; (conv => arg 5; simp only [Act.put, List.setIfInBounds_toArray, List.set_cons_succ, List.set_cons_zero])) | (go_at_call 51; refine (two51N hs.out H EA.out EB.out).mono ?_; rintro e wn ⟨rfl, M⟩; replace H := H.call0 (ok3 _ _ _ _ _ _) M; clear M; clear c2 c0; have c2 := H.reb.cell (i := 2) (g := b3) (v := .string c.text) (by (repeat (first | exact List.mem_cons_self | refine List.mem_cons_of_mem _ ?_))) rfl; have c0 := H.reb.cell (i := 0) (g := b3) (v := .int .i64 c.kind) (by (repeat (first | exact List.mem_cons_self | refine List.mem_cons_of_mem _ ?_))) rfl) | (refine wpF_st0 (ys := ka) rfl H (ok3 _ _ _ _ _ _) s26 rfl rfl rfl rfl (by (repeat (first | exact Swap.head | apply Swap.tail))) (by first | simp | exact zK_ok.1) (by exact HA.out.1) (fun wn Hn => ?_); clear H; rename TF _ _ _ _ _ => H; clear c2 c0; have c2 := H.reb.cell (i := 2) (g := b3) (v := .string c.text) (by (repeat (first | exact List.mem_cons_self | refine List.mem_cons_of_mem _ ?_))) rfl; have c0 := H.reb.cell (i := 0) (g := b3) (v := .int .i64 c.kind) (by (repeat (first | exact List.mem_cons_self | refine List.mem_cons_of_mem _ ?_))) rfl; (try (conv => arg 5; simp only [Act.put, List.setIfInBounds_toArray, List.set_cons_succ, List.set_cons_zero]))) | (refine wpF_st0 (ys := kb) rfl H (ok3 _ _ _ _ _ _) s26 rfl rfl rfl rfl (by (repeat (first | exact Swap.head | apply Swap.tail))) (by first | simp | exact zK_ok.1) (by exact HB.out.1) (fun wn Hn => ?_); clear H; rename TF _ _ _ _ _ => H; clear c2 c0; have c2 := H.reb.cell (i := 2) (g := b3) (v := .string c.text) (by (repeat (first | exact List.mem_cons_self | refine List.mem_cons_of_mem _ ?_))) rfl; have c0 := H.reb.cell (i := 0) (g := b3) (v := .int .i64 c.kind) (by (repeat (first | exact List.mem_cons_self | refine List.mem_cons_of_mem _ ?_))) rfl; (try (conv => arg 5; simp only [Act.put, List.setIfInBounds_toArray, List.set_cons_succ, List.set_cons_zero]))))
  clear c0 c2
  refine wp_region_planTP [.blk b6 (rowO .u8 26 kb), .blk b5 (rowO .u8 26 ka), .blk b3 (cellsO 66 (spCells c I ic))] (PlayC p g m) (.free 0 (.free 1 (.free 2 (.free 3 (.free 4 (.free 5 (.free 7 (.one 6 (.free 8 (.free 9 (.free 10 (.free 11 (.free 12 (.free 13 (.free 14 (.free 15 (.free 17 (.free 18 (.free 19 (.free 20 (.free 21 (.free 22 (.one 16 (.one 23 (.free 24 (.free 25 (.done))))))))))))))))))))))))))) (by kernel_rfl) (by kernel_rfl) (fun _ _ _ _ _ h => h) H (ok3 _ _ _ _ _ _) ?_
  clear H
  intro ops Q HO HQ wr H _
  have hops := HO.out
  subst hops
  (refine wpT_free rfl rfl (.inl ⟨rfl, fun w _ => by go_simp; rfl⟩) (by exact H.stP (by (repeat (first | exact List.Sublist.refl _ | apply List.Sublist.cons_cons | apply List.Sublist.cons)))) ?_; (conv => arg 6; simp only [Act.put, List.setIfInBounds_toArray, List.set_cons_succ, List.set_cons_zero]))
  (refine wpT_free rfl rfl (.inl ⟨rfl, fun w _ => by go_simp; rfl⟩) (by exact H.stP (by (repeat (first | exact List.Sublist.refl _ | apply List.Sublist.cons_cons | apply List.Sublist.cons)))) ?_; (conv => arg 6; simp only [Act.put, List.setIfInBounds_toArray, List.set_cons_succ, List.set_cons_zero]))
  (refine wpT_free rfl rfl (.inl ⟨rfl, fun w _ => by go_simp; rfl⟩) (by exact H.stP (by (repeat (first | exact List.Sublist.refl _ | apply List.Sublist.cons_cons | apply List.Sublist.cons)))) ?_; (conv => arg 6; simp only [Act.put, List.setIfInBounds_toArray, List.set_cons_succ, List.set_cons_zero]))
  (refine wpT_free rfl rfl (.inl ⟨rfl, fun w hw => run_ld1 Try.underlying23 rfl rfl rfl hw.2.1⟩) (by exact H.stP (by (repeat (first | exact List.Sublist.refl _ | apply List.Sublist.cons_cons | apply List.Sublist.cons)))) ?_; (conv => arg 6; simp only [Act.put, List.setIfInBounds_toArray, List.set_cons_succ, List.set_cons_zero]))
  (refine wpT_free rfl rfl (.inl ⟨rfl, fun w _ => run_slW Try.underlying26 s5 (by decide) rfl rfl w⟩) (by exact H.stP (by (repeat (first | exact List.Sublist.refl _ | apply List.Sublist.cons_cons | apply List.Sublist.cons)))) ?_; (conv => arg 6; simp only [Act.put, List.setIfInBounds_toArray, List.set_cons_succ, List.set_cons_zero]))
  (refine wpT_free rfl rfl (.inl ⟨rfl, fun w hw => by obtain ⟨⟨_, _, M⟩, _⟩ := hw; exact run_cvKeyP Try.underlying37 Try.underlying5 Try.underlying9 rfl rfl M (by (repeat (first | exact List.mem_cons_self | refine List.mem_cons_of_mem _ ?_))) HA.out.1⟩) (by exact H.stP (by (repeat (first | exact List.Sublist.refl _ | apply List.Sublist.cons_cons | apply List.Sublist.cons)))) ?_; (conv => arg 6; simp only [Act.put, List.setIfInBounds_toArray, List.set_cons_succ, List.set_cons_zero]))
  (refine wpT_free rfl rfl (.inl ⟨rfl, fun w hw => by obtain ⟨⟨_, _, M⟩, _⟩ := hw; exact run_ldrowN (xs := ka) Try.underlying26 s26 rfl rfl rfl M (by (repeat (first | exact List.mem_cons_self | refine List.mem_cons_of_mem _ ?_))) HA.out.1⟩) (by exact H.stP (by (repeat (first | exact List.Sublist.refl _ | apply List.Sublist.cons_cons | apply List.Sublist.cons)))) ?_; (conv => arg 6; simp only [Act.put, List.setIfInBounds_toArray, List.set_cons_succ, List.set_cons_zero]))
  refine wpT_op rfl ?_
  go_wp2_with (go_at_call 46; refine (MarkN g HA.out _).mono ?_; rintro e wn ⟨rfl, M⟩; replace H := H.call0 (ok3 _ _ _ _ _ _) M; clear M)
  refine PlanTQ.mk (by exact H.stP (by (repeat (first | exact List.Sublist.refl _ | apply List.Sublist.cons_cons | apply List.Sublist.cons)))) ?_
  (refine wpT_free rfl rfl (.inl ⟨rfl, fun w _ => run_neq26b false rfl rfl rfl HA.out.1 HA.out.1 (by simp) w⟩) (by exact H.stP (by (repeat (first | exact List.Sublist.refl _ | apply List.Sublist.cons_cons | apply List.Sublist.cons)))) ?_; (conv => arg 6; simp only [Act.put, List.setIfInBounds_toArray, List.set_cons_succ, List.set_cons_zero]))
  (refine wpT_free rfl rfl (.inl ⟨rfl, fun w _ => by go_simp; rfl⟩) (by exact H.stP (by (repeat (first | exact List.Sublist.refl _ | apply List.Sublist.cons_cons | apply List.Sublist.cons)))) ?_; (conv => arg 6; simp only [Act.put, List.setIfInBounds_toArray, List.set_cons_succ, List.set_cons_zero]))
  (refine wpT_free rfl rfl (.inl ⟨rfl, fun w _ => by go_simp; rfl⟩) (by exact H.stP (by (repeat (first | exact List.Sublist.refl _ | apply List.Sublist.cons_cons | apply List.Sublist.cons)))) ?_; (conv => arg 6; simp only [Act.put, List.setIfInBounds_toArray, List.set_cons_succ, List.set_cons_zero]))
  (refine wpT_free rfl rfl (.inl ⟨rfl, fun w _ => by go_simp; rfl⟩) (by exact H.stP (by (repeat (first | exact List.Sublist.refl _ | apply List.Sublist.cons_cons | apply List.Sublist.cons)))) ?_; (conv => arg 6; simp only [Act.put, List.setIfInBounds_toArray, List.set_cons_succ, List.set_cons_zero]))
  (refine wpT_free rfl rfl (.inl ⟨rfl, fun w _ => by go_simp; rfl⟩) (by exact H.stP (by (repeat (first | exact List.Sublist.refl _ | apply List.Sublist.cons_cons | apply List.Sublist.cons)))) ?_; (conv => arg 6; simp only [Act.put, List.setIfInBounds_toArray, List.set_cons_succ, List.set_cons_zero]))
  (refine wpT_free rfl rfl (.inl ⟨rfl, fun w hw => run_ld1 Try.underlying23 rfl rfl rfl hw.2.1⟩) (by exact H.stP (by (repeat (first | exact List.Sublist.refl _ | apply List.Sublist.cons_cons | apply List.Sublist.cons)))) ?_; (conv => arg 6; simp only [Act.put, List.setIfInBounds_toArray, List.set_cons_succ, List.set_cons_zero]))
  (refine wpT_free rfl rfl (.inl ⟨rfl, fun w _ => by go_simp; rfl⟩) (by exact H.stP (by (repeat (first | exact List.Sublist.refl _ | apply List.Sublist.cons_cons | apply List.Sublist.cons)))) ?_; (conv => arg 6; simp only [Act.put, List.setIfInBounds_toArray, List.set_cons_succ, List.set_cons_zero]))
  (refine wpT_free rfl rfl (.inl ⟨rfl, fun w hw => run_ld1 Try.underlying9 rfl rfl rfl (st_cell hw (i := 2) (by (repeat (first | exact List.mem_cons_self | refine List.mem_cons_of_mem _ ?_))) rfl)⟩) (by exact H.stP (by (repeat (first | exact List.Sublist.refl _ | apply List.Sublist.cons_cons | apply List.Sublist.cons)))) ?_; (conv => arg 6; simp only [Act.put, List.setIfInBounds_toArray, List.set_cons_succ, List.set_cons_zero]))
  (refine wpT_free rfl rfl (.inl ⟨rfl, fun w _ => by go_simp; rfl⟩) (by exact H.stP (by (repeat (first | exact List.Sublist.refl _ | apply List.Sublist.cons_cons | apply List.Sublist.cons)))) ?_; (conv => arg 6; simp only [Act.put, List.setIfInBounds_toArray, List.set_cons_succ, List.set_cons_zero]))
  (refine wpT_free rfl rfl (.inl ⟨rfl, fun w _ => by go_simp; rfl⟩) (by exact H.stP (by (repeat (first | exact List.Sublist.refl _ | apply List.Sublist.cons_cons | apply List.Sublist.cons)))) ?_; (conv => arg 6; simp only [Act.put, List.setIfInBounds_toArray, List.set_cons_succ, List.set_cons_zero]))
  (refine wpT_free rfl rfl (.inl ⟨rfl, fun w _ => by go_simp; rfl⟩) (by exact H.stP (by (repeat (first | exact List.Sublist.refl _ | apply List.Sublist.cons_cons | apply List.Sublist.cons)))) ?_; (conv => arg 6; simp only [Act.put, List.setIfInBounds_toArray, List.set_cons_succ, List.set_cons_zero]))
  (refine wpT_free rfl rfl (.inl ⟨rfl, fun w hw => run_ld1 Try.underlying44 rfl rfl rfl hw.2.2⟩) (by exact H.stP (by (repeat (first | exact List.Sublist.refl _ | apply List.Sublist.cons_cons | apply List.Sublist.cons)))) ?_; (conv => arg 6; simp only [Act.put, List.setIfInBounds_toArray, List.set_cons_succ, List.set_cons_zero]))
  (refine wpT_free rfl rfl (.inl ⟨rfl, fun w _ => by go_simp; rfl⟩) (by exact H.stP (by (repeat (first | exact List.Sublist.refl _ | apply List.Sublist.cons_cons | apply List.Sublist.cons)))) ?_; (conv => arg 6; simp only [Act.put, List.setIfInBounds_toArray, List.set_cons_succ, List.set_cons_zero]))
  (refine wpT_free rfl rfl (.inl ⟨rfl, fun w hw => run_ld1 Try.underlying9 rfl rfl rfl (st_cell hw (i := 2) (by (repeat (first | exact List.mem_cons_self | refine List.mem_cons_of_mem _ ?_))) rfl)⟩) (by exact H.stP (by (repeat (first | exact List.Sublist.refl _ | apply List.Sublist.cons_cons | apply List.Sublist.cons)))) ?_; (conv => arg 6; simp only [Act.put, List.setIfInBounds_toArray, List.set_cons_succ, List.set_cons_zero]))
  refine wpT_op rfl ?_
  go_wp2_with (first | (apply wpList_want; (· rfl)) | (go_at_call 46; refine (MarkP (ok2 _ _ _ _ _) H (by omega) htl).mono ?_; clear H; rintro e wn ⟨rfl, H⟩; rw [HT1.out] at H))
  refine PlanTQ.mk (by exact H.stP (by (repeat (first | exact List.Sublist.refl _ | apply List.Sublist.cons_cons | apply List.Sublist.cons)))) ?_
  refine wpT_op rfl ?_
  go_wp2_with (first | (apply wpList_want; (· rfl)) | (go_at_call 52; refine (MarkM (tabR_ok _ _) (playR_ok _ _ _ _) H (by omega) htl).mono ?_; clear H; rintro e wn ⟨rfl, H⟩; rw [HT1.out] at H))
  refine PlanTQ.mk (by exact H.stP (by (repeat (first | exact List.Sublist.refl _ | apply List.Sublist.cons_cons | apply List.Sublist.cons)))) ?_
  (refine wpT_free rfl rfl (.inl ⟨rfl, fun w _ => run_neq26b false rfl rfl rfl HMK.out.1 HMK.out.1 (by simp) w⟩) (by exact H.stP (by (repeat (first | exact List.Sublist.refl _ | apply List.Sublist.cons_cons | apply List.Sublist.cons)))) ?_; (conv => arg 6; simp only [Act.put, List.setIfInBounds_toArray, List.set_cons_succ, List.set_cons_zero]))
  (refine wpT_free rfl rfl (.inl ⟨rfl, fun w _ => by go_simp; rfl⟩) (by exact H.stP (by (repeat (first | exact List.Sublist.refl _ | apply List.Sublist.cons_cons | apply List.Sublist.cons)))) ?_; (conv => arg 6; simp only [Act.put, List.setIfInBounds_toArray, List.set_cons_succ, List.set_cons_zero]))
  refine wpT_done ?_
  rw [HQ.out]
  have c0 := H.reb.cell (i := 0) (g := b3) (v := .int .i64 c.kind) (by (repeat (first | exact List.mem_cons_self | refine List.mem_cons_of_mem _ ?_))) rfl
  go_wp2_with (first | (refine wpF_al 7 H (ok3 _ _ _ _ _ _) z26 rfl rfl rfl (fun b7 wn Hn => ?_); clear H; rename TF _ _ _ _ _ => H; clear c0; have c0 := H.reb.cell (i := 0) (g := b3) (v := .int .i64 c.kind) (by (repeat (first | exact List.mem_cons_self | refine List.mem_cons_of_mem _ ?_))) rfl; (conv => arg 5; simp only [Act.put, List.setIfInBounds_toArray, List.set_cons_succ, List.set_cons_zero])) | (refine wpF_al 8 H (ok3 _ _ _ _ _ _) z26 rfl rfl rfl (fun b8 wn Hn => ?_); clear H; rename TF _ _ _ _ _ => H; clear c0; have c0 := H.reb.cell (i := 0) (g := b3) (v := .int .i64 c.kind) (by (repeat (first | exact List.mem_cons_self | refine List.mem_cons_of_mem _ ?_))) rfl; (conv => arg 5; simp only [Act.put, List.setIfInBounds_toArray, List.set_cons_succ, List.set_cons_zero])))
  clear c0
  refine wp_region_planTP [.blk b3 (cellsO 66 (spCells c I ic))] (PlayC p g m) (.free 0 (.free 1 (.free 2 (.free 3 (.free 4 (.free 5 (.free 6 (.free 7 (.one 8 (.one 9 (.one 10 (.done)))))))))))) (by kernel_rfl) (by kernel_rfl) (fun _ _ _ _ _ h => h) H (ok3 _ _ _ _ _ _) ?_
  clear H
  intro ops Q HO HQ wr H _
  have hops := HO.out
  subst hops
  (refine wpT_free rfl rfl (.inl ⟨rfl, fun w _ => by go_simp; rfl⟩) (by exact H.stP (by (repeat (first | exact List.Sublist.refl _ | apply List.Sublist.cons_cons | apply List.Sublist.cons)))) ?_; (conv => arg 6; simp only [Act.put, List.setIfInBounds_toArray, List.set_cons_succ, List.set_cons_zero]))
  (refine wpT_free rfl rfl (.inl ⟨rfl, fun w _ => by go_simp; rfl⟩) (by exact H.stP (by (repeat (first | exact List.Sublist.refl _ | apply List.Sublist.cons_cons | apply List.Sublist.cons)))) ?_; (conv => arg 6; simp only [Act.put, List.setIfInBounds_toArray, List.set_cons_succ, List.set_cons_zero]))
  (refine wpT_free rfl rfl (.inl ⟨rfl, fun w _ => by go_simp; rfl⟩) (by exact H.stP (by (repeat (first | exact List.Sublist.refl _ | apply List.Sublist.cons_cons | apply List.Sublist.cons)))) ?_; (conv => arg 6; simp only [Act.put, List.setIfInBounds_toArray, List.set_cons_succ, List.set_cons_zero]))
  (refine wpT_free rfl rfl (.inl ⟨rfl, fun w hw => run_ld1 Try.underlying23 rfl rfl rfl hw.2.1⟩) (by exact H.stP (by (repeat (first | exact List.Sublist.refl _ | apply List.Sublist.cons_cons | apply List.Sublist.cons)))) ?_; (conv => arg 6; simp only [Act.put, List.setIfInBounds_toArray, List.set_cons_succ, List.set_cons_zero]))
  (refine wpT_free rfl rfl (.inl ⟨rfl, fun w _ => by go_simp; rfl⟩) (by exact H.stP (by (repeat (first | exact List.Sublist.refl _ | apply List.Sublist.cons_cons | apply List.Sublist.cons)))) ?_; (conv => arg 6; simp only [Act.put, List.setIfInBounds_toArray, List.set_cons_succ, List.set_cons_zero]))
  (refine wpT_free rfl rfl (.inl ⟨rfl, fun w hw => run_ld1 Try.underlying9 rfl rfl rfl (st_cell hw (i := 2) (by (repeat (first | exact List.mem_cons_self | refine List.mem_cons_of_mem _ ?_))) rfl)⟩) (by exact H.stP (by (repeat (first | exact List.Sublist.refl _ | apply List.Sublist.cons_cons | apply List.Sublist.cons)))) ?_; (conv => arg 6; simp only [Act.put, List.setIfInBounds_toArray, List.set_cons_succ, List.set_cons_zero]))
  (refine wpT_free rfl rfl (.inl ⟨rfl, fun w _ => by go_simp; rfl⟩) (by exact H.stP (by (repeat (first | exact List.Sublist.refl _ | apply List.Sublist.cons_cons | apply List.Sublist.cons)))) ?_; (conv => arg 6; simp only [Act.put, List.setIfInBounds_toArray, List.set_cons_succ, List.set_cons_zero]))
  (refine wpT_free rfl rfl (.inl ⟨rfl, fun w hw => run_ldK Try.underlying66 rfl rfl rfl (cs := spCells c I ic) (st_cells hw (by (repeat (first | exact List.mem_cons_self | refine List.mem_cons_of_mem _ ?_)))) (sz66 HRAW.out)⟩) (by exact H.stP (by (repeat (first | exact List.Sublist.refl _ | apply List.Sublist.cons_cons | apply List.Sublist.cons)))) ?_; (conv => arg 6; simp only [Act.put, List.setIfInBounds_toArray, List.set_cons_succ, List.set_cons_zero]))
  refine wpT_op rfl ?_
  go_wp2_with (go_at_call 53; refine (named53N hs.out (tabR_ok _ _) (refR_ok _ _) H EL.out).mono ?_; clear H; rintro e wn ⟨B, d, rfl, H⟩)
  refine PlanTQ.mk (by exact H.stP (by (repeat (first | exact List.Sublist.refl _ | apply List.Sublist.cons_cons | apply List.Sublist.cons)))) ?_
  refine wpT_op rfl ?_
  go_wp2_with (go_at_call 13; refine (HashT (ok2 _ _ _ _ _) H (by omega) HL.out.2 (by omega) List.mem_cons_self htl1).mono ?_; clear H; rintro e wn ⟨rfl, H⟩)
  refine PlanTQ.mk (by exact H.stP (by (repeat (first | exact List.Sublist.refl _ | apply List.Sublist.cons_cons | apply List.Sublist.cons)))) ?_
  refine wpT_op rfl ?_
  go_wp2_with ((refine wpF_st0 (ys := nm ts1 ⟨2, c.text, l⟩) rfl H (ok3 _ _ _ _ _ _) s26 rfl rfl rfl rfl (by (repeat (first | exact Swap.head | apply Swap.tail))) (by simp) (nm_ok _ _).1 (fun wn Hn => ?_); clear H; rename TF _ _ _ _ _ => H; (try (conv => arg 5; simp only [Act.put, List.setIfInBounds_toArray, List.set_cons_succ, List.set_cons_zero]))))
  refine PlanTQ.mk (by exact H.stP (by (repeat (first | exact List.Sublist.refl _ | apply List.Sublist.cons_cons | apply List.Sublist.cons)))) ?_
  refine wpT_done ?_
  rw [HQ.out]
  go_wp2_with fail
  refine wp_region_planTP [.blk b3 (cellsO 66 (spCells c I ic))] (PlayC p g m) (.free 0 (.free 1 (.free 2 (.free 3 (.free 4 (.free 5 (.free 6 (.free 7 (.one 8 (.one 9 (.one 10 (.done)))))))))))) (by kernel_rfl) (by kernel_rfl) (fun _ _ _ _ _ h => h) H (ok3 _ _ _ _ _ _) ?_
  clear H
  intro ops Q HO HQ wr H _
  have hops := HO.out
  subst hops
  (refine wpT_free rfl rfl (.inl ⟨rfl, fun w _ => by go_simp; rfl⟩) (by exact H.stP (by (repeat (first | exact List.Sublist.refl _ | apply List.Sublist.cons_cons | apply List.Sublist.cons)))) ?_; (conv => arg 6; simp only [Act.put, List.setIfInBounds_toArray, List.set_cons_succ, List.set_cons_zero]))
  (refine wpT_free rfl rfl (.inl ⟨rfl, fun w _ => by go_simp; rfl⟩) (by exact H.stP (by (repeat (first | exact List.Sublist.refl _ | apply List.Sublist.cons_cons | apply List.Sublist.cons)))) ?_; (conv => arg 6; simp only [Act.put, List.setIfInBounds_toArray, List.set_cons_succ, List.set_cons_zero]))
  (refine wpT_free rfl rfl (.inl ⟨rfl, fun w _ => by go_simp; rfl⟩) (by exact H.stP (by (repeat (first | exact List.Sublist.refl _ | apply List.Sublist.cons_cons | apply List.Sublist.cons)))) ?_; (conv => arg 6; simp only [Act.put, List.setIfInBounds_toArray, List.set_cons_succ, List.set_cons_zero]))
  (refine wpT_free rfl rfl (.inl ⟨rfl, fun w hw => run_ld1 Try.underlying44 rfl rfl rfl hw.2.2⟩) (by exact H.stP (by (repeat (first | exact List.Sublist.refl _ | apply List.Sublist.cons_cons | apply List.Sublist.cons)))) ?_; (conv => arg 6; simp only [Act.put, List.setIfInBounds_toArray, List.set_cons_succ, List.set_cons_zero]))
  (refine wpT_free rfl rfl (.inl ⟨rfl, fun w _ => by go_simp; rfl⟩) (by exact H.stP (by (repeat (first | exact List.Sublist.refl _ | apply List.Sublist.cons_cons | apply List.Sublist.cons)))) ?_; (conv => arg 6; simp only [Act.put, List.setIfInBounds_toArray, List.set_cons_succ, List.set_cons_zero]))
  (refine wpT_free rfl rfl (.inl ⟨rfl, fun w hw => run_ld1 Try.underlying9 rfl rfl rfl (st_cell hw (i := 2) (by (repeat (first | exact List.mem_cons_self | refine List.mem_cons_of_mem _ ?_))) rfl)⟩) (by exact H.stP (by (repeat (first | exact List.Sublist.refl _ | apply List.Sublist.cons_cons | apply List.Sublist.cons)))) ?_; (conv => arg 6; simp only [Act.put, List.setIfInBounds_toArray, List.set_cons_succ, List.set_cons_zero]))
  (refine wpT_free rfl rfl (.inl ⟨rfl, fun w _ => by go_simp; rfl⟩) (by exact H.stP (by (repeat (first | exact List.Sublist.refl _ | apply List.Sublist.cons_cons | apply List.Sublist.cons)))) ?_; (conv => arg 6; simp only [Act.put, List.setIfInBounds_toArray, List.set_cons_succ, List.set_cons_zero]))
  (refine wpT_free rfl rfl (.inl ⟨rfl, fun w hw => run_ldK Try.underlying66 rfl rfl rfl (cs := spCells c I ic) (st_cells hw (by (repeat (first | exact List.mem_cons_self | refine List.mem_cons_of_mem _ ?_)))) (sz66 HRAW.out)⟩) (by exact H.stP (by (repeat (first | exact List.Sublist.refl _ | apply List.Sublist.cons_cons | apply List.Sublist.cons)))) ?_; (conv => arg 6; simp only [Act.put, List.setIfInBounds_toArray, List.set_cons_succ, List.set_cons_zero]))
  refine wpT_op rfl ?_
  go_wp2_with (go_at_call 53; refine (named53N hs.out (tabR_ok _ _) (refR_ok _ _) H EL.out).mono ?_; clear H; rintro e wn ⟨C, f, rfl, H⟩)
  refine PlanTQ.mk (by exact H.stP (by (repeat (first | exact List.Sublist.refl _ | apply List.Sublist.cons_cons | apply List.Sublist.cons)))) ?_
  refine wpT_op rfl ?_
  go_wp2_with (go_at_call 45; refine (MakeM (ks := l) (tabR_ok _ _) (playR_ok _ _ _ _) H rfl (tmOk (by decide) (by decide) (by omega) (by omega) HL.out.2) (H.reb.vecT List.mem_cons_self) htl1).mono ?_; clear H; rintro e wn ⟨rfl, H⟩)
  refine PlanTQ.mk (by exact H.stP (by (repeat (first | exact List.Sublist.refl _ | apply List.Sublist.cons_cons | apply List.Sublist.cons)))) ?_
  refine wpT_op rfl ?_
  go_wp2_with ((refine wpF_st0 (ys := nm ts1 ⟨2, c.text, l⟩) rfl H (ok3 _ _ _ _ _ _) s26 rfl rfl rfl rfl (by (repeat (first | exact Swap.head | apply Swap.tail))) (by simp) (nm_ok _ _).1 (fun wn Hn => ?_); clear H; rename TF _ _ _ _ _ => H; (try (conv => arg 5; simp only [Act.put, List.setIfInBounds_toArray, List.set_cons_succ, List.set_cons_zero]))))
  refine PlanTQ.mk (by exact H.stP (by (repeat (first | exact List.Sublist.refl _ | apply List.Sublist.cons_cons | apply List.Sublist.cons)))) ?_
  refine wpT_done ?_
  rw [HQ.out]
  go_wp2_with fail
  have hpi : PI (n + 1) (putL ts1 ⟨2, c.text, l⟩) (keys ++ [(nm ts1 ⟨2, c.text, l⟩)]) := hs.out.pi.next (PI.put HP1.out (tmw_oth (by simp) (by simp) (by simp)) (by have := HL.out.1; simp only []; omega))
  have hxk : KeyOk (nm ts1 ⟨2, c.text, l⟩) := nm_ok _ _
  obtain ⟨x, hx⟩ : ∃ k, k = nm ts1 ⟨2, c.text, l⟩ := ⟨_, rfl⟩
  obtain ⟨ts2, hts⟩ : ∃ t, t = putL ts1 ⟨2, c.text, l⟩ := ⟨_, rfl⟩
  rw [← hx, ← hts] at H
  rw [← hx, ← hts] at hpi
  rw [← hx] at hxk
  have HPI := hid hpi
  have HX := hid hxk
  have hkl := HPI.out.kn
  have hnn := hs.out.nn
  clear hpi hxk hx hts
  rw [List.length_append, List.length_singleton] at hkl
  have HLK := hid (H.lookOk HX.out)
  replace H := H.sub (L' := [.blk b8 (rowO .u8 26 x), .blk b7 (rowO .u8 26 x)]) (by (repeat (first | exact List.Sublist.refl _ | apply List.Sublist.cons_cons | apply List.Sublist.cons)))
  go_cut [193] from 57 (fun _ wx => TF K (playS p g m ts2 (keys ++ [x])) w wx [.blk b8 (rowO .u8 26 x), .blk b7 (rowO .u8 26 x)])
  case first =>
    obtain ⟨A9, c9, cp2, M, hclose, hkeep⟩ := H.playOut2 (tabR_ok _ _) (refR_ok _ _)
    have HKE := hid (fun wz L2 M => hkeep b7 _ (by (repeat (first | exact List.mem_cons_self | refine List.mem_cons_of_mem _ ?_))) wz L2 M)
    have HCL := hid hclose
    clear hkeep hclose
    refine wp_region_planS (fun w' => w'.heap[b7]? = some (rowO .u8 26 x)) (.free 0 (.free 1 (.free 2 (.free 3 (.free 5 (.two 4 (.one 6 (.one 7 (.free 8 (.free 9 (.one 10 (.done)))))) 6 (.one 4 (.one 7 (.free 8 (.free 9 (.one 10 (.done)))))))))))) (by kernel_rfl) (by kernel_rfl) (fun _ _ _ _ _ h => h) ?_
    intro w8 hb
    have M0 := M.call hb
    clear M cp2
    have M := M0
    clear M0
    (refine wpT_free rfl rfl (.inl ⟨rfl, fun w _ => by go_simp; rfl⟩) (by exact HKE.out _ _ M) ?_; (conv => arg 6; simp only [Act.put, List.setIfInBounds_toArray, List.set_cons_succ, List.set_cons_zero]))
    (refine wpT_free rfl rfl (.inl ⟨rfl, fun w _ => by go_simp; rfl⟩) (by exact HKE.out _ _ M) ?_; (conv => arg 6; simp only [Act.put, List.setIfInBounds_toArray, List.set_cons_succ, List.set_cons_zero]))
    (refine wpT_free rfl rfl (.inl ⟨rfl, fun w _ => by go_simp; rfl⟩) (by exact HKE.out _ _ M) ?_; (conv => arg 6; simp only [Act.put, List.setIfInBounds_toArray, List.set_cons_succ, List.set_cons_zero]))
    (refine wpT_free rfl rfl (.inl ⟨rfl, fun w _ => by go_simp; rfl⟩) (by exact HKE.out _ _ M) ?_; (conv => arg 6; simp only [Act.put, List.setIfInBounds_toArray, List.set_cons_succ, List.set_cons_zero]))
    (refine wpT_free rfl rfl (.inl ⟨rfl, fun w hw => run_ldrowH Try.underlying26 s26 rfl rfl rfl hw HX.out.1⟩) (by exact HKE.out _ _ M) ?_; (conv => arg 6; simp only [Act.put, List.setIfInBounds_toArray, List.set_cons_succ, List.set_cons_zero]))
    refine wpT_two rfl rfl ?_ ?_
    · have cp2 := M.cell (i := 2) (g := p) (v := .slice A9 keys.length c9) (by (repeat (first | exact List.mem_cons_self | refine List.mem_cons_of_mem _ ?_))) rfl
      go_wp2_with fail
      clear cp2
      refine PlanTQ.mk (by exact HKE.out _ _ M) ?_
      refine wpT_op rfl ?_
      go_wp2_with (refine wpList_bsK1 199 rfl rfl rfl rfl HX.out M (fun b199 wn Mn => ?_); clear M; rename Mem _ _ _ _ => M; (conv => arg 5; simp only [Act.put, List.setIfInBounds_toArray, List.set_cons_succ, List.set_cons_zero]))
      refine PlanTQ.mk (by exact HKE.out _ _ M) ?_
      refine wpT_op rfl ?_
      go_wp2_with (refine wpList_appSm 200 rfl Try.underlying34 i26' rfl (by decide) rfl rfl rfl rfl M (fun A' cap' => Swap.tail (Swap.tail Swap.head)) (M.blkT List.mem_cons_self) (by rw [nums_length, List.flatten_cons, List.flatten_nil, List.append_nil, HX.out.1]) (nums_one .u8 _) (by omega) (by omega) (fun A2 c2 wn Mn => ?_); clear M; rename Mem _ _ _ _ => M; (conv => arg 5; simp only [Act.put, List.setIfInBounds_toArray, List.set_cons_succ, List.set_cons_zero]))
      refine PlanTQ.mk (by exact HKE.out _ _ M) ?_
      (refine wpT_free rfl rfl (.inl ⟨rfl, fun w _ => by go_simp; rfl⟩) (by exact HKE.out _ _ M) ?_; (conv => arg 6; simp only [Act.put, List.setIfInBounds_toArray, List.set_cons_succ, List.set_cons_zero]))
      (refine wpT_free rfl rfl (.inl ⟨rfl, fun w _ => by go_simp; rfl⟩) (by exact HKE.out _ _ M) ?_; (conv => arg 6; simp only [Act.put, List.setIfInBounds_toArray, List.set_cons_succ, List.set_cons_zero]))
      refine wpT_op rfl ?_
      go_wp2_with (refine wpList_stM (v := .slice A2 (keys.length + 1) c2) rfl rfl s34 rfl rfl rfl M (Swap.tail Swap.head) (by simp) ?_; clear M; intro wz M; (try (conv => arg 5; simp only [Act.put, List.setIfInBounds_toArray, List.set_cons_succ, List.set_cons_zero])))
      refine PlanTQ.mk (by exact HKE.out _ _ M) ?_
      refine wpT_done ?_
      go_wp2_with fail
      go_meet
      exact HCL.out A2 c2 [x] _ (one_ok HX.out) (M.sub (by (repeat (first | exact List.Sublist.refl _ | apply List.Sublist.cons_cons | apply List.Sublist.cons))))
    · go_wp2_with (refine wpList_bsK1 199 rfl rfl rfl rfl HX.out M (fun b199 wn Mn => ?_); clear M; rename Mem _ _ _ _ => M; (conv => arg 5; simp only [Act.put, List.setIfInBounds_toArray, List.set_cons_succ, List.set_cons_zero]))
      refine PlanTQ.mk (by exact HKE.out _ _ M) ?_
      refine wpT_op rfl ?_
      have cp2 := M.cell (i := 2) (g := p) (v := .slice A9 keys.length c9) (by (repeat (first | exact List.mem_cons_self | refine List.mem_cons_of_mem _ ?_))) rfl
      go_wp2_with fail
      clear cp2
      refine PlanTQ.mk (by exact HKE.out _ _ M) ?_
      refine wpT_op rfl ?_
      go_wp2_with (refine wpList_appSm 200 rfl Try.underlying34 i26' rfl (by decide) rfl rfl rfl rfl M (fun A' cap' => Swap.tail (Swap.tail Swap.head)) (M.blkT List.mem_cons_self) (by rw [nums_length, List.flatten_cons, List.flatten_nil, List.append_nil, HX.out.1]) (nums_one .u8 _) (by omega) (by omega) (fun A2 c2 wn Mn => ?_); clear M; rename Mem _ _ _ _ => M; (conv => arg 5; simp only [Act.put, List.setIfInBounds_toArray, List.set_cons_succ, List.set_cons_zero]))
      refine PlanTQ.mk (by exact HKE.out _ _ M) ?_
      (refine wpT_free rfl rfl (.inl ⟨rfl, fun w _ => by go_simp; rfl⟩) (by exact HKE.out _ _ M) ?_; (conv => arg 6; simp only [Act.put, List.setIfInBounds_toArray, List.set_cons_succ, List.set_cons_zero]))
      (refine wpT_free rfl rfl (.inl ⟨rfl, fun w _ => by go_simp; rfl⟩) (by exact HKE.out _ _ M) ?_; (conv => arg 6; simp only [Act.put, List.setIfInBounds_toArray, List.set_cons_succ, List.set_cons_zero]))
      refine wpT_op rfl ?_
      go_wp2_with (refine wpList_stM (v := .slice A2 (keys.length + 1) c2) rfl rfl s34 rfl rfl rfl M (Swap.tail Swap.head) (by simp) ?_; clear M; intro wz M; (try (conv => arg 5; simp only [Act.put, List.setIfInBounds_toArray, List.set_cons_succ, List.set_cons_zero])))
      refine PlanTQ.mk (by exact HKE.out _ _ M) ?_
      refine wpT_done ?_
      go_wp2_with fail
      go_meet
      exact HCL.out A2 c2 [x] _ (one_ok HX.out) (M.sub (by (repeat (first | exact List.Sublist.refl _ | apply List.Sublist.cons_cons | apply List.Sublist.cons))))
  case rest =>
    clear H
    have H := hcut
    clear hcut
    obtain ⟨Am, cm, cmm⟩ := H.refCell2
    go_wp2_with fail
    refine wp_region_planTP [.blk b8 (rowO .u8 26 x), .blk b7 (rowO .u8 26 x)] (fun w' => PlayC p g m w' ∧ w'.cell? ⟨m, 0, none⟩ = some (.slice Am ts2.length cm)) (.free 0 (.free 1 (.free 2 (.free 3 (.free 4 (.free 5 (.free 6 (.free 7 (.free 9 (.free 10 (.free 11 (.free 12 (.free 13 (.free 14 (.free 15 (.free 16 (.one 8 (.free 17 (.free 18 (.free 19 (.free 20 (.free 21 (.free 22 (.free 23 (.free 24 (.free 26 (.free 27 (.free 28 (.free 29 (.free 30 (.one 25 (.one 31 (.one 32 (.free 33 (.free 34 (.done)))))))))))))))))))))))))))))))))))) (by kernel_rfl) (by kernel_rfl) (fun _ _ _ _ _ h => h) H (ok3 _ _ _ _ _ _) ?_
    clear H
    intro ops Q HO HQ wr H MR
    have cm2 := MR.cell0 cmm
    clear MR cmm
    have hops := HO.out
    subst hops
    (refine wpT_free rfl rfl (.inl ⟨rfl, fun w hw => by obtain ⟨⟨_, _, M⟩, _⟩ := hw; exact run_ldrowN (xs := x) Try.underlying26 s26 rfl rfl rfl M (by (repeat (first | exact List.mem_cons_self | refine List.mem_cons_of_mem _ ?_))) HX.out.1⟩) (by exact ⟨(H.stP (by (repeat (first | exact List.Sublist.refl _ | apply List.Sublist.cons_cons | apply List.Sublist.cons)))).1, H.playC, cm2⟩) ?_; (conv => arg 6; simp only [Act.put, List.setIfInBounds_toArray, List.set_cons_succ, List.set_cons_zero]))
    (refine wpT_free rfl rfl (.inl ⟨rfl, fun w hw => by obtain ⟨⟨_, _, M⟩, _⟩ := hw; exact run_ldrowN (xs := x) Try.underlying26 s26 rfl rfl rfl M (by (repeat (first | exact List.mem_cons_self | refine List.mem_cons_of_mem _ ?_))) HX.out.1⟩) (by exact ⟨(H.stP (by (repeat (first | exact List.Sublist.refl _ | apply List.Sublist.cons_cons | apply List.Sublist.cons)))).1, H.playC, cm2⟩) ?_; (conv => arg 6; simp only [Act.put, List.setIfInBounds_toArray, List.set_cons_succ, List.set_cons_zero]))
    (refine wpT_free rfl rfl (.inl ⟨rfl, fun w _ => run_eq26b true rfl rfl rfl HX.out.1 HX.out.1 (by simp) w⟩) (by exact ⟨(H.stP (by (repeat (first | exact List.Sublist.refl _ | apply List.Sublist.cons_cons | apply List.Sublist.cons)))).1, H.playC, cm2⟩) ?_; (conv => arg 6; simp only [Act.put, List.setIfInBounds_toArray, List.set_cons_succ, List.set_cons_zero]))
    (refine wpT_free rfl rfl (.inl ⟨rfl, fun w _ => by go_simp; rfl⟩) (by exact ⟨(H.stP (by (repeat (first | exact List.Sublist.refl _ | apply List.Sublist.cons_cons | apply List.Sublist.cons)))).1, H.playC, cm2⟩) ?_; (conv => arg 6; simp only [Act.put, List.setIfInBounds_toArray, List.set_cons_succ, List.set_cons_zero]))
    (refine wpT_free rfl rfl (.inl ⟨rfl, fun w _ => by go_simp; rfl⟩) (by exact ⟨(H.stP (by (repeat (first | exact List.Sublist.refl _ | apply List.Sublist.cons_cons | apply List.Sublist.cons)))).1, H.playC, cm2⟩) ?_; (conv => arg 6; simp only [Act.put, List.setIfInBounds_toArray, List.set_cons_succ, List.set_cons_zero]))
    (refine wpT_free rfl rfl (.inl ⟨rfl, fun w _ => by go_simp; rfl⟩) (by exact ⟨(H.stP (by (repeat (first | exact List.Sublist.refl _ | apply List.Sublist.cons_cons | apply List.Sublist.cons)))).1, H.playC, cm2⟩) ?_; (conv => arg 6; simp only [Act.put, List.setIfInBounds_toArray, List.set_cons_succ, List.set_cons_zero]))
    (refine wpT_free rfl rfl (.inl ⟨rfl, fun w _ => by go_simp; rfl⟩) (by exact ⟨(H.stP (by (repeat (first | exact List.Sublist.refl _ | apply List.Sublist.cons_cons | apply List.Sublist.cons)))).1, H.playC, cm2⟩) ?_; (conv => arg 6; simp only [Act.put, List.setIfInBounds_toArray, List.set_cons_succ, List.set_cons_zero]))
    (refine wpT_free rfl rfl (.inl ⟨rfl, fun w hw => run_ld1 Try.underlying23 rfl rfl rfl hw.2.1.1⟩) (by exact ⟨(H.stP (by (repeat (first | exact List.Sublist.refl _ | apply List.Sublist.cons_cons | apply List.Sublist.cons)))).1, H.playC, cm2⟩) ?_; (conv => arg 6; simp only [Act.put, List.setIfInBounds_toArray, List.set_cons_succ, List.set_cons_zero]))
    (refine wpT_free rfl rfl (.inl ⟨rfl, fun w _ => by go_simp; rfl⟩) (by exact ⟨(H.stP (by (repeat (first | exact List.Sublist.refl _ | apply List.Sublist.cons_cons | apply List.Sublist.cons)))).1, H.playC, cm2⟩) ?_; (conv => arg 6; simp only [Act.put, List.setIfInBounds_toArray, List.set_cons_succ, List.set_cons_zero]))
    (refine wpT_free rfl rfl (.inl ⟨rfl, fun w _ => by go_simp; rfl⟩) (by exact ⟨(H.stP (by (repeat (first | exact List.Sublist.refl _ | apply List.Sublist.cons_cons | apply List.Sublist.cons)))).1, H.playC, cm2⟩) ?_; (conv => arg 6; simp only [Act.put, List.setIfInBounds_toArray, List.set_cons_succ, List.set_cons_zero]))
    (refine wpT_free rfl rfl (.inl ⟨rfl, fun w _ => by go_simp; rfl⟩) (by exact ⟨(H.stP (by (repeat (first | exact List.Sublist.refl _ | apply List.Sublist.cons_cons | apply List.Sublist.cons)))).1, H.playC, cm2⟩) ?_; (conv => arg 6; simp only [Act.put, List.setIfInBounds_toArray, List.set_cons_succ, List.set_cons_zero]))
    (refine wpT_free rfl rfl (.inl ⟨rfl, fun w hw => run_ld1 Try.underlying44 rfl rfl rfl hw.2.1.2⟩) (by exact ⟨(H.stP (by (repeat (first | exact List.Sublist.refl _ | apply List.Sublist.cons_cons | apply List.Sublist.cons)))).1, H.playC, cm2⟩) ?_; (conv => arg 6; simp only [Act.put, List.setIfInBounds_toArray, List.set_cons_succ, List.set_cons_zero]))
    (refine wpT_free rfl rfl (.inl ⟨rfl, fun w _ => by go_simp; rfl⟩) (by exact ⟨(H.stP (by (repeat (first | exact List.Sublist.refl _ | apply List.Sublist.cons_cons | apply List.Sublist.cons)))).1, H.playC, cm2⟩) ?_; (conv => arg 6; simp only [Act.put, List.setIfInBounds_toArray, List.set_cons_succ, List.set_cons_zero]))
    (refine wpT_free rfl rfl (.inl ⟨rfl, fun w _ => by go_simp; rfl⟩) (by exact ⟨(H.stP (by (repeat (first | exact List.Sublist.refl _ | apply List.Sublist.cons_cons | apply List.Sublist.cons)))).1, H.playC, cm2⟩) ?_; (conv => arg 6; simp only [Act.put, List.setIfInBounds_toArray, List.set_cons_succ, List.set_cons_zero]))
    (refine wpT_free rfl rfl (.inl ⟨rfl, fun w hw => run_ld1 Try.underlying45 rfl rfl rfl hw.2.2⟩) (by exact ⟨(H.stP (by (repeat (first | exact List.Sublist.refl _ | apply List.Sublist.cons_cons | apply List.Sublist.cons)))).1, H.playC, cm2⟩) ?_; (conv => arg 6; simp only [Act.put, List.setIfInBounds_toArray, List.set_cons_succ, List.set_cons_zero]))
    (refine wpT_free rfl rfl (.inl ⟨rfl, fun w _ => by go_simp; rfl⟩) (by exact ⟨(H.stP (by (repeat (first | exact List.Sublist.refl _ | apply List.Sublist.cons_cons | apply List.Sublist.cons)))).1, H.playC, cm2⟩) ?_; (conv => arg 6; simp only [Act.put, List.setIfInBounds_toArray, List.set_cons_succ, List.set_cons_zero]))
    refine wpT_op rfl ?_
    go_wp2_with (first | (apply wpList_want; (· rfl)) | (go_at_call 26; refine (Len26P H).mono ?_; rintro e wn ⟨rfl, M⟩; replace H := H.call0 (ok3 _ _ _ _ _ _) M; replace cm2 := M.cell0 cm2; clear M))
    refine PlanTQ.mk (by exact ⟨(H.stP (by (repeat (first | exact List.Sublist.refl _ | apply List.Sublist.cons_cons | apply List.Sublist.cons)))).1, H.playC, cm2⟩) ?_
    (refine wpT_free (v := .bool true) rfl rfl (.inl ⟨rfl, fun w _ => by go_simp⟩) (by exact ⟨(H.stP (by (repeat (first | exact List.Sublist.refl _ | apply List.Sublist.cons_cons | apply List.Sublist.cons)))).1, H.playC, cm2⟩) ?_; (conv => arg 6; simp only [Act.put, List.setIfInBounds_toArray, List.set_cons_succ, List.set_cons_zero]))
    (refine wpT_free (v := .bool true) rfl rfl (.inl ⟨rfl, fun w _ => by go_simp; (try rfl)⟩) (by exact ⟨(H.stP (by (repeat (first | exact List.Sublist.refl _ | apply List.Sublist.cons_cons | apply List.Sublist.cons)))).1, H.playC, cm2⟩) ?_; (conv => arg 6; simp only [Act.put, List.setIfInBounds_toArray, List.set_cons_succ, List.set_cons_zero]))
    (refine wpT_free rfl rfl (.inl ⟨rfl, fun w _ => by go_simp; rfl⟩) (by exact ⟨(H.stP (by (repeat (first | exact List.Sublist.refl _ | apply List.Sublist.cons_cons | apply List.Sublist.cons)))).1, H.playC, cm2⟩) ?_; (conv => arg 6; simp only [Act.put, List.setIfInBounds_toArray, List.set_cons_succ, List.set_cons_zero]))
    (refine wpT_free rfl rfl (.inl ⟨rfl, fun w _ => by go_simp; rfl⟩) (by exact ⟨(H.stP (by (repeat (first | exact List.Sublist.refl _ | apply List.Sublist.cons_cons | apply List.Sublist.cons)))).1, H.playC, cm2⟩) ?_; (conv => arg 6; simp only [Act.put, List.setIfInBounds_toArray, List.set_cons_succ, List.set_cons_zero]))
    (refine wpT_free rfl rfl (.inl ⟨rfl, fun w _ => by go_simp; rfl⟩) (by exact ⟨(H.stP (by (repeat (first | exact List.Sublist.refl _ | apply List.Sublist.cons_cons | apply List.Sublist.cons)))).1, H.playC, cm2⟩) ?_; (conv => arg 6; simp only [Act.put, List.setIfInBounds_toArray, List.set_cons_succ, List.set_cons_zero]))
    (refine wpT_free rfl rfl (.inl ⟨rfl, fun w _ => by go_simp; rfl⟩) (by exact ⟨(H.stP (by (repeat (first | exact List.Sublist.refl _ | apply List.Sublist.cons_cons | apply List.Sublist.cons)))).1, H.playC, cm2⟩) ?_; (conv => arg 6; simp only [Act.put, List.setIfInBounds_toArray, List.set_cons_succ, List.set_cons_zero]))
    (refine wpT_free rfl rfl (.inl ⟨rfl, fun w hw => run_ld1 Try.underlying23 rfl rfl rfl hw.2.1.1⟩) (by exact ⟨(H.stP (by (repeat (first | exact List.Sublist.refl _ | apply List.Sublist.cons_cons | apply List.Sublist.cons)))).1, H.playC, cm2⟩) ?_; (conv => arg 6; simp only [Act.put, List.setIfInBounds_toArray, List.set_cons_succ, List.set_cons_zero]))
    (refine wpT_free rfl rfl (.inl ⟨rfl, fun w hw => by obtain ⟨⟨_, _, M⟩, _⟩ := hw; exact run_ldrowN (xs := x) Try.underlying26 s26 rfl rfl rfl M (by (repeat (first | exact List.mem_cons_self | refine List.mem_cons_of_mem _ ?_))) HX.out.1⟩) (by exact ⟨(H.stP (by (repeat (first | exact List.Sublist.refl _ | apply List.Sublist.cons_cons | apply List.Sublist.cons)))).1, H.playC, cm2⟩) ?_; (conv => arg 6; simp only [Act.put, List.setIfInBounds_toArray, List.set_cons_succ, List.set_cons_zero]))
    (refine wpT_free rfl rfl (.inl ⟨rfl, fun w _ => by go_simp; rfl⟩) (by exact ⟨(H.stP (by (repeat (first | exact List.Sublist.refl _ | apply List.Sublist.cons_cons | apply List.Sublist.cons)))).1, H.playC, cm2⟩) ?_; (conv => arg 6; simp only [Act.put, List.setIfInBounds_toArray, List.set_cons_succ, List.set_cons_zero]))
    (refine wpT_free rfl rfl (.inl ⟨rfl, fun w _ => by go_simp; rfl⟩) (by exact ⟨(H.stP (by (repeat (first | exact List.Sublist.refl _ | apply List.Sublist.cons_cons | apply List.Sublist.cons)))).1, H.playC, cm2⟩) ?_; (conv => arg 6; simp only [Act.put, List.setIfInBounds_toArray, List.set_cons_succ, List.set_cons_zero]))
    (refine wpT_free rfl rfl (.inl ⟨rfl, fun w _ => by go_simp; rfl⟩) (by exact ⟨(H.stP (by (repeat (first | exact List.Sublist.refl _ | apply List.Sublist.cons_cons | apply List.Sublist.cons)))).1, H.playC, cm2⟩) ?_; (conv => arg 6; simp only [Act.put, List.setIfInBounds_toArray, List.set_cons_succ, List.set_cons_zero]))
    (refine wpT_free rfl rfl (.inl ⟨rfl, fun w hw => run_ld1 Try.underlying44 rfl rfl rfl hw.2.1.2⟩) (by exact ⟨(H.stP (by (repeat (first | exact List.Sublist.refl _ | apply List.Sublist.cons_cons | apply List.Sublist.cons)))).1, H.playC, cm2⟩) ?_; (conv => arg 6; simp only [Act.put, List.setIfInBounds_toArray, List.set_cons_succ, List.set_cons_zero]))
    (refine wpT_free rfl rfl (.inl ⟨rfl, fun w hw => by obtain ⟨⟨_, _, M⟩, _⟩ := hw; exact run_ldrowN (xs := x) Try.underlying26 s26 rfl rfl rfl M (by (repeat (first | exact List.mem_cons_self | refine List.mem_cons_of_mem _ ?_))) HX.out.1⟩) (by exact ⟨(H.stP (by (repeat (first | exact List.Sublist.refl _ | apply List.Sublist.cons_cons | apply List.Sublist.cons)))).1, H.playC, cm2⟩) ?_; (conv => arg 6; simp only [Act.put, List.setIfInBounds_toArray, List.set_cons_succ, List.set_cons_zero]))
    refine wpT_op rfl ?_
    go_wp2_with (first | (apply wpList_want; (· rfl)) | (go_at_call 57; refine (LookPT H HX.out).mono ?_; rintro e wn ⟨B1, d1, rfl, r1, M⟩; replace H := H.call0 (ok3 _ _ _ _ _ _) M; replace cm2 := M.cell0 cm2; have HR1 := hid r1; clear M r1))
    refine PlanTQ.mk (by exact ⟨(H.stP (by (repeat (first | exact List.Sublist.refl _ | apply List.Sublist.cons_cons | apply List.Sublist.cons)))).1, H.playC, cm2⟩) ?_
    refine wpT_op rfl ?_
    go_wp2_with (first | (apply wpList_want; (· rfl)) | (go_at_call 58; refine (LookM H HX.out).mono ?_; rintro e wn ⟨B2, d2, rfl, r2, M⟩; replace H := H.call0 (ok3 _ _ _ _ _ _) M; replace cm2 := M.cell0 cm2; have HR3 := hid (HR1.out.mem M); have HR2 := hid r2; clear M r2 HR1))
    refine PlanTQ.mk (by exact ⟨(H.stP (by (repeat (first | exact List.Sublist.refl _ | apply List.Sublist.cons_cons | apply List.Sublist.cons)))).1, H.playC, cm2⟩) ?_
    refine wpT_op rfl ?_
    go_wp2_with (first | (apply wpList_want; (· rfl)) | (go_at_call 56; refine (SameTerm56 (t := lookT ts2 x) _ HLK.out.1 HLK.out.2 HR3.out HR2.out).mono ?_; rintro e wn ⟨rfl, M⟩; replace H := H.call0 (ok3 _ _ _ _ _ _) M; replace cm2 := M.cell0 cm2; clear M))
    refine PlanTQ.mk (by exact ⟨(H.stP (by (repeat (first | exact List.Sublist.refl _ | apply List.Sublist.cons_cons | apply List.Sublist.cons)))).1, H.playC, cm2⟩) ?_
    (refine wpT_free (v := .bool true) rfl rfl (.inl ⟨rfl, fun w _ => by go_simp; (try rfl)⟩) (by exact ⟨(H.stP (by (repeat (first | exact List.Sublist.refl _ | apply List.Sublist.cons_cons | apply List.Sublist.cons)))).1, H.playC, cm2⟩) ?_; (conv => arg 6; simp only [Act.put, List.setIfInBounds_toArray, List.set_cons_succ, List.set_cons_zero]))
    (refine wpT_free (v := .bool true) rfl rfl (.inl ⟨rfl, fun w _ => by go_simp; (try rfl)⟩) (by exact ⟨(H.stP (by (repeat (first | exact List.Sublist.refl _ | apply List.Sublist.cons_cons | apply List.Sublist.cons)))).1, H.playC, cm2⟩) ?_; (conv => arg 6; simp only [Act.put, List.setIfInBounds_toArray, List.set_cons_succ, List.set_cons_zero]))
    refine wpT_done ?_
    rw [HQ.out]
    go_wp2_with fail
    go_ret
    exact ⟨ts2, keys ++ [x], rfl, HPI.out, H.sub (List.nil_sublist _)⟩
set_option maxRecDepth 100000 in
set_option maxHeartbeats 8000000 in
theorem do30_3 {K : Nat → Prop} {w : World} {p g m n : Nat} {ts : List Tm} {keys : List (List Int)} {c : Sp} {I : Option Addr} {ic : Nat} (h : DoP K w p g m n ts keys c I ic) (ht : c.text.size ≤ 300) (hq : c.kind.tmod 8 = 3) :
    Calls Try.prog 30 #[.pointer (some ⟨p, 0, none⟩), .agg (spCells c I ic).toArray] w (DoR K p g m n w) := by
  have H := TF.start h.res h.lt
  have hs := hid h
  obtain ⟨ka, hka⟩ : ∃ k, k = atK keys c.at_ := ⟨_, rfl⟩
  obtain ⟨kb, hkb⟩ : ∃ k, k = atK keys (c.keys.getD 0 0) := ⟨_, rfl⟩
  obtain ⟨l, hl⟩ : ∃ l, l = namedP keys c.keys := ⟨_, rfl⟩
  obtain ⟨ts1, ht1⟩ : ∃ t, t = markL ts c.text := ⟨_, rfl⟩
  have EA := hid hka.symm
  have EB := hid hkb.symm
  have EL := hid hl.symm
  have HT1 := hid ht1.symm
  have HA := hid (show KeyOk ka from by rw [hka]; exact h.at _)
  have HB := hid (show KeyOk kb from by rw [hkb]; exact h.at _)
  have HL := hid (show l.length ≤ 5 ∧ ∀ k ∈ l, KeyOk k from by rw [hl]; exact ⟨namedP_len _ _, namedP_ok h.pi.k1 h.ok _⟩)
  have HP1 := hid (show (∀ u ∈ ts1, TmW u) ∧ (∀ u ∈ ts1, u.keys.length ≤ 10) ∧ ts1.length ≤ 2 * n + 1 from by rw [ht1]; exact h.pi.mark _)
  have HRAW := hid h.raw
  have HMK := hid (markN_ok ts c.text)
  have htl : ts.length ≤ 900000 := by have := h.tl; omega
  have htl1 : ts1.length ≤ 900000 := by have := HP1.out.2.2; have := h.nn; omega
  have htI : ¬ (300 : Int) < (c.text.size : Int) := by omega
  have hl5 : l.length ≤ 5 := HL.out.1
  clear h hka hkb hl ht1
  go_enter Try.func30, Try.ntmps30
  go_wp2_with (first | (refine wpF_bxC (cs := spCells c I ic) 3 H (ok3 _ _ _ _ _ _) rfl rfl rfl rfl (fun b3 w1 H1 => ?_); clear H; rename TF _ _ _ _ _ => H; have c2 := H.reb.cell (i := 2) (g := b3) (v := .string c.text) (by (repeat (first | exact List.mem_cons_self | refine List.mem_cons_of_mem _ ?_))) rfl; have c0 := H.reb.cell (i := 0) (g := b3) (v := .int .i64 c.kind) (by (repeat (first | exact List.mem_cons_self | refine List.mem_cons_of_mem _ ?_))) rfl; (conv => arg 5; simp only [Act.put, List.setIfInBounds_toArray, List.set_cons_succ, List.set_cons_zero])) | (refine wpF_al 5 H (ok3 _ _ _ _ _ _) z26 rfl rfl rfl (fun b5 wn Hn => ?_); clear H; rename TF _ _ _ _ _ => H; clear c2 c0; have c2 := H.reb.cell (i := 2) (g := b3) (v := .string c.text) (by (repeat (first | exact List.mem_cons_self | refine List.mem_cons_of_mem _ ?_))) rfl; have c0 := H.reb.cell (i := 0) (g := b3) (v := .int .i64 c.kind) (by (repeat (first | exact List.mem_cons_self | refine List.mem_cons_of_mem _ ?_))) rfl; (conv => arg 5; simp only [Act.put, List.setIfInBounds_toArray, List.set_cons_succ, List.set_cons_zero])) | (refine wpF_al 6 H (ok3 _ _ _ _ _ _) z26 rfl rfl rfl (fun b6 wn Hn => ?_); clear H; rename TF _ _ _ _ _ => H; clear c2 c0; have c2 := H.reb.cell (i := 2) (g := b3) (v := .string c.text) (by (repeat (first | exact List.mem_cons_self | refine List.mem_cons_of_mem _ ?_))) rfl; have c0 := H.reb.cell (i := 0) (g := b3) (v := .int .i64 c.kind) (by (repeat (first | exact List.mem_cons_self | refine List.mem_cons_of_mem _ ?_))) rfl; (conv => arg 5; simp only [Act.put, List.setIfInBounds_toArray, List.set_cons_succ, List.set_cons_zero])) | (refine wpList_ldagg 25 rfl Try.underlying66 rfl rfl rfl rfl (H.cellC (by (repeat (first | exact List.mem_cons_self | refine List.mem_cons_of_mem _ ?_)))) (sz66 HRAW.out) ?_; (conv => arg 5; simp only [Act.put, List.setIfInBounds_toArray, List.set_cons_succ, List.set_cons_zero])) | (go_at_call 51; refine (two51N hs.out H EA.out EB.out).mono ?_; rintro e wn ⟨rfl, M⟩; replace H := H.call0 (ok3 _ _ _ _ _ _) M; clear M; clear c2 c0; have c2 := H.reb.cell (i := 2) (g := b3) (v := .string c.text) (by (repeat (first | exact List.mem_cons_self | refine List.mem_cons_of_mem _ ?_))) rfl; have c0 := H.reb.cell (i := 0) (g := b3) (v := .int .i64 c.kind) (by (repeat (first | exact List.mem_cons_self | refine List.mem_cons_of_mem _ ?_))) rfl) | (refine wpF_st0 (ys := ka) rfl H (ok3 _ _ _ _ _ _) s26 rfl rfl rfl rfl (by (repeat (first | exact Swap.head | apply Swap.tail))) (by first | simp | exact zK_ok.1) (by exact HA.out.1) (fun wn Hn => ?_); clear H; rename TF _ _ _ _ _ => H; clear c2 c0; have c2 := H.reb.cell (i := 2) (g := b3) (v := .string c.text) (by (repeat (first | exact List.mem_cons_self | refine List.mem_cons_of_mem _ ?_))) rfl; have c0 := H.reb.cell (i := 0) (g := b3) (v := .int .i64 c.kind) (by (repeat (first | exact List.mem_cons_self | refine List.mem_cons_of_mem _ ?_))) rfl; (try (conv => arg 5; simp only [Act.put, List.setIfInBounds_toArray, List.set_cons_succ, List.set_cons_zero]))) | (refine wpF_st0 (ys := kb) rfl H (ok3 _ _ _ _ _ _) s26 rfl rfl rfl rfl (by (repeat (first | exact Swap.head | apply Swap.tail))) (by first | simp | exact zK_ok.1) (by exact HB.out.1) (fun wn Hn => ?_); clear H; rename TF _ _ _ _ _ => H; clear c2 c0; have c2 := H.reb.cell (i := 2) (g := b3) (v := .string c.text) (by (repeat (first | exact List.mem_cons_self | refine List.mem_cons_of_mem _ ?_))) rfl; have c0 := H.reb.cell (i := 0) (g := b3) (v := .int .i64 c.kind) (by (repeat (first | exact List.mem_cons_self | refine List.mem_cons_of_mem _ ?_))) rfl; (try (conv => arg 5; simp only [Act.put, List.setIfInBounds_toArray, List.set_cons_succ, List.set_cons_zero]))))
  clear c0 c2
  refine wp_region_planTP [.blk b6 (rowO .u8 26 kb), .blk b5 (rowO .u8 26 ka), .blk b3 (cellsO 66 (spCells c I ic))] (PlayC p g m) (.free 0 (.free 1 (.free 2 (.free 3 (.free 4 (.free 5 (.free 7 (.one 6 (.free 8 (.free 9 (.free 10 (.free 11 (.free 12 (.free 13 (.free 14 (.free 15 (.free 17 (.free 18 (.free 19 (.free 20 (.free 21 (.free 22 (.one 16 (.one 23 (.free 24 (.free 25 (.done))))))))))))))))))))))))))) (by kernel_rfl) (by kernel_rfl) (fun _ _ _ _ _ h => h) H (ok3 _ _ _ _ _ _) ?_
  clear H
  intro ops Q HO HQ wr H _
  have hops := HO.out
  subst hops
  (refine wpT_free rfl rfl (.inl ⟨rfl, fun w _ => by go_simp; rfl⟩) (by exact H.stP (by (repeat (first | exact List.Sublist.refl _ | apply List.Sublist.cons_cons | apply List.Sublist.cons)))) ?_; (conv => arg 6; simp only [Act.put, List.setIfInBounds_toArray, List.set_cons_succ, List.set_cons_zero]))
  (refine wpT_free rfl rfl (.inl ⟨rfl, fun w _ => by go_simp; rfl⟩) (by exact H.stP (by (repeat (first | exact List.Sublist.refl _ | apply List.Sublist.cons_cons | apply List.Sublist.cons)))) ?_; (conv => arg 6; simp only [Act.put, List.setIfInBounds_toArray, List.set_cons_succ, List.set_cons_zero]))
  (refine wpT_free rfl rfl (.inl ⟨rfl, fun w _ => by go_simp; rfl⟩) (by exact H.stP (by (repeat (first | exact List.Sublist.refl _ | apply List.Sublist.cons_cons | apply List.Sublist.cons)))) ?_; (conv => arg 6; simp only [Act.put, List.setIfInBounds_toArray, List.set_cons_succ, List.set_cons_zero]))
  (refine wpT_free rfl rfl (.inl ⟨rfl, fun w hw => run_ld1 Try.underlying23 rfl rfl rfl hw.2.1⟩) (by exact H.stP (by (repeat (first | exact List.Sublist.refl _ | apply List.Sublist.cons_cons | apply List.Sublist.cons)))) ?_; (conv => arg 6; simp only [Act.put, List.setIfInBounds_toArray, List.set_cons_succ, List.set_cons_zero]))
  (refine wpT_free rfl rfl (.inl ⟨rfl, fun w _ => run_slW Try.underlying26 s5 (by decide) rfl rfl w⟩) (by exact H.stP (by (repeat (first | exact List.Sublist.refl _ | apply List.Sublist.cons_cons | apply List.Sublist.cons)))) ?_; (conv => arg 6; simp only [Act.put, List.setIfInBounds_toArray, List.set_cons_succ, List.set_cons_zero]))
  (refine wpT_free rfl rfl (.inl ⟨rfl, fun w hw => by obtain ⟨⟨_, _, M⟩, _⟩ := hw; exact run_cvKeyP Try.underlying37 Try.underlying5 Try.underlying9 rfl rfl M (by (repeat (first | exact List.mem_cons_self | refine List.mem_cons_of_mem _ ?_))) HA.out.1⟩) (by exact H.stP (by (repeat (first | exact List.Sublist.refl _ | apply List.Sublist.cons_cons | apply List.Sublist.cons)))) ?_; (conv => arg 6; simp only [Act.put, List.setIfInBounds_toArray, List.set_cons_succ, List.set_cons_zero]))
  (refine wpT_free rfl rfl (.inl ⟨rfl, fun w hw => by obtain ⟨⟨_, _, M⟩, _⟩ := hw; exact run_ldrowN (xs := ka) Try.underlying26 s26 rfl rfl rfl M (by (repeat (first | exact List.mem_cons_self | refine List.mem_cons_of_mem _ ?_))) HA.out.1⟩) (by exact H.stP (by (repeat (first | exact List.Sublist.refl _ | apply List.Sublist.cons_cons | apply List.Sublist.cons)))) ?_; (conv => arg 6; simp only [Act.put, List.setIfInBounds_toArray, List.set_cons_succ, List.set_cons_zero]))
  refine wpT_op rfl ?_
  go_wp2_with (go_at_call 46; refine (MarkN g HA.out _).mono ?_; rintro e wn ⟨rfl, M⟩; replace H := H.call0 (ok3 _ _ _ _ _ _) M; clear M)
  refine PlanTQ.mk (by exact H.stP (by (repeat (first | exact List.Sublist.refl _ | apply List.Sublist.cons_cons | apply List.Sublist.cons)))) ?_
  (refine wpT_free rfl rfl (.inl ⟨rfl, fun w _ => run_neq26b false rfl rfl rfl HA.out.1 HA.out.1 (by simp) w⟩) (by exact H.stP (by (repeat (first | exact List.Sublist.refl _ | apply List.Sublist.cons_cons | apply List.Sublist.cons)))) ?_; (conv => arg 6; simp only [Act.put, List.setIfInBounds_toArray, List.set_cons_succ, List.set_cons_zero]))
  (refine wpT_free rfl rfl (.inl ⟨rfl, fun w _ => by go_simp; rfl⟩) (by exact H.stP (by (repeat (first | exact List.Sublist.refl _ | apply List.Sublist.cons_cons | apply List.Sublist.cons)))) ?_; (conv => arg 6; simp only [Act.put, List.setIfInBounds_toArray, List.set_cons_succ, List.set_cons_zero]))
  (refine wpT_free rfl rfl (.inl ⟨rfl, fun w _ => by go_simp; rfl⟩) (by exact H.stP (by (repeat (first | exact List.Sublist.refl _ | apply List.Sublist.cons_cons | apply List.Sublist.cons)))) ?_; (conv => arg 6; simp only [Act.put, List.setIfInBounds_toArray, List.set_cons_succ, List.set_cons_zero]))
  (refine wpT_free rfl rfl (.inl ⟨rfl, fun w _ => by go_simp; rfl⟩) (by exact H.stP (by (repeat (first | exact List.Sublist.refl _ | apply List.Sublist.cons_cons | apply List.Sublist.cons)))) ?_; (conv => arg 6; simp only [Act.put, List.setIfInBounds_toArray, List.set_cons_succ, List.set_cons_zero]))
  (refine wpT_free rfl rfl (.inl ⟨rfl, fun w _ => by go_simp; rfl⟩) (by exact H.stP (by (repeat (first | exact List.Sublist.refl _ | apply List.Sublist.cons_cons | apply List.Sublist.cons)))) ?_; (conv => arg 6; simp only [Act.put, List.setIfInBounds_toArray, List.set_cons_succ, List.set_cons_zero]))
  (refine wpT_free rfl rfl (.inl ⟨rfl, fun w hw => run_ld1 Try.underlying23 rfl rfl rfl hw.2.1⟩) (by exact H.stP (by (repeat (first | exact List.Sublist.refl _ | apply List.Sublist.cons_cons | apply List.Sublist.cons)))) ?_; (conv => arg 6; simp only [Act.put, List.setIfInBounds_toArray, List.set_cons_succ, List.set_cons_zero]))
  (refine wpT_free rfl rfl (.inl ⟨rfl, fun w _ => by go_simp; rfl⟩) (by exact H.stP (by (repeat (first | exact List.Sublist.refl _ | apply List.Sublist.cons_cons | apply List.Sublist.cons)))) ?_; (conv => arg 6; simp only [Act.put, List.setIfInBounds_toArray, List.set_cons_succ, List.set_cons_zero]))
  (refine wpT_free rfl rfl (.inl ⟨rfl, fun w hw => run_ld1 Try.underlying9 rfl rfl rfl (st_cell hw (i := 2) (by (repeat (first | exact List.mem_cons_self | refine List.mem_cons_of_mem _ ?_))) rfl)⟩) (by exact H.stP (by (repeat (first | exact List.Sublist.refl _ | apply List.Sublist.cons_cons | apply List.Sublist.cons)))) ?_; (conv => arg 6; simp only [Act.put, List.setIfInBounds_toArray, List.set_cons_succ, List.set_cons_zero]))
  (refine wpT_free rfl rfl (.inl ⟨rfl, fun w _ => by go_simp; rfl⟩) (by exact H.stP (by (repeat (first | exact List.Sublist.refl _ | apply List.Sublist.cons_cons | apply List.Sublist.cons)))) ?_; (conv => arg 6; simp only [Act.put, List.setIfInBounds_toArray, List.set_cons_succ, List.set_cons_zero]))
  (refine wpT_free rfl rfl (.inl ⟨rfl, fun w _ => by go_simp; rfl⟩) (by exact H.stP (by (repeat (first | exact List.Sublist.refl _ | apply List.Sublist.cons_cons | apply List.Sublist.cons)))) ?_; (conv => arg 6; simp only [Act.put, List.setIfInBounds_toArray, List.set_cons_succ, List.set_cons_zero]))
  (refine wpT_free rfl rfl (.inl ⟨rfl, fun w _ => by go_simp; rfl⟩) (by exact H.stP (by (repeat (first | exact List.Sublist.refl _ | apply List.Sublist.cons_cons | apply List.Sublist.cons)))) ?_; (conv => arg 6; simp only [Act.put, List.setIfInBounds_toArray, List.set_cons_succ, List.set_cons_zero]))
  (refine wpT_free rfl rfl (.inl ⟨rfl, fun w hw => run_ld1 Try.underlying44 rfl rfl rfl hw.2.2⟩) (by exact H.stP (by (repeat (first | exact List.Sublist.refl _ | apply List.Sublist.cons_cons | apply List.Sublist.cons)))) ?_; (conv => arg 6; simp only [Act.put, List.setIfInBounds_toArray, List.set_cons_succ, List.set_cons_zero]))
  (refine wpT_free rfl rfl (.inl ⟨rfl, fun w _ => by go_simp; rfl⟩) (by exact H.stP (by (repeat (first | exact List.Sublist.refl _ | apply List.Sublist.cons_cons | apply List.Sublist.cons)))) ?_; (conv => arg 6; simp only [Act.put, List.setIfInBounds_toArray, List.set_cons_succ, List.set_cons_zero]))
  (refine wpT_free rfl rfl (.inl ⟨rfl, fun w hw => run_ld1 Try.underlying9 rfl rfl rfl (st_cell hw (i := 2) (by (repeat (first | exact List.mem_cons_self | refine List.mem_cons_of_mem _ ?_))) rfl)⟩) (by exact H.stP (by (repeat (first | exact List.Sublist.refl _ | apply List.Sublist.cons_cons | apply List.Sublist.cons)))) ?_; (conv => arg 6; simp only [Act.put, List.setIfInBounds_toArray, List.set_cons_succ, List.set_cons_zero]))
  refine wpT_op rfl ?_
  go_wp2_with (first | (apply wpList_want; (· rfl)) | (go_at_call 46; refine (MarkP (ok2 _ _ _ _ _) H (by omega) htl).mono ?_; clear H; rintro e wn ⟨rfl, H⟩; rw [HT1.out] at H))
  refine PlanTQ.mk (by exact H.stP (by (repeat (first | exact List.Sublist.refl _ | apply List.Sublist.cons_cons | apply List.Sublist.cons)))) ?_
  refine wpT_op rfl ?_
  go_wp2_with (first | (apply wpList_want; (· rfl)) | (go_at_call 52; refine (MarkM (tabR_ok _ _) (playR_ok _ _ _ _) H (by omega) htl).mono ?_; clear H; rintro e wn ⟨rfl, H⟩; rw [HT1.out] at H))
  refine PlanTQ.mk (by exact H.stP (by (repeat (first | exact List.Sublist.refl _ | apply List.Sublist.cons_cons | apply List.Sublist.cons)))) ?_
  (refine wpT_free rfl rfl (.inl ⟨rfl, fun w _ => run_neq26b false rfl rfl rfl HMK.out.1 HMK.out.1 (by simp) w⟩) (by exact H.stP (by (repeat (first | exact List.Sublist.refl _ | apply List.Sublist.cons_cons | apply List.Sublist.cons)))) ?_; (conv => arg 6; simp only [Act.put, List.setIfInBounds_toArray, List.set_cons_succ, List.set_cons_zero]))
  (refine wpT_free rfl rfl (.inl ⟨rfl, fun w _ => by go_simp; rfl⟩) (by exact H.stP (by (repeat (first | exact List.Sublist.refl _ | apply List.Sublist.cons_cons | apply List.Sublist.cons)))) ?_; (conv => arg 6; simp only [Act.put, List.setIfInBounds_toArray, List.set_cons_succ, List.set_cons_zero]))
  refine wpT_done ?_
  rw [HQ.out]
  have c0 := H.reb.cell (i := 0) (g := b3) (v := .int .i64 c.kind) (by (repeat (first | exact List.mem_cons_self | refine List.mem_cons_of_mem _ ?_))) rfl
  go_wp2_with (first | (refine wpF_al 7 H (ok3 _ _ _ _ _ _) z26 rfl rfl rfl (fun b7 wn Hn => ?_); clear H; rename TF _ _ _ _ _ => H; clear c0; have c0 := H.reb.cell (i := 0) (g := b3) (v := .int .i64 c.kind) (by (repeat (first | exact List.mem_cons_self | refine List.mem_cons_of_mem _ ?_))) rfl; (conv => arg 5; simp only [Act.put, List.setIfInBounds_toArray, List.set_cons_succ, List.set_cons_zero])) | (refine wpF_al 8 H (ok3 _ _ _ _ _ _) z26 rfl rfl rfl (fun b8 wn Hn => ?_); clear H; rename TF _ _ _ _ _ => H; clear c0; have c0 := H.reb.cell (i := 0) (g := b3) (v := .int .i64 c.kind) (by (repeat (first | exact List.mem_cons_self | refine List.mem_cons_of_mem _ ?_))) rfl; (conv => arg 5; simp only [Act.put, List.setIfInBounds_toArray, List.set_cons_succ, List.set_cons_zero])))
  clear c0
  refine wp_region_planTP [.blk b5 (rowO .u8 26 ka)] (PlayC p g m) (.free 0 (.free 1 (.free 2 (.free 3 (.free 4 (.one 5 (.one 6 (.done)))))))) (by kernel_rfl) (by kernel_rfl) (fun _ _ _ _ _ h => h) H (ok3 _ _ _ _ _ _) ?_
  clear H
  intro ops Q HO HQ wr H _
  have hops := HO.out
  subst hops
  (refine wpT_free rfl rfl (.inl ⟨rfl, fun w _ => by go_simp; rfl⟩) (by exact H.stP (by (repeat (first | exact List.Sublist.refl _ | apply List.Sublist.cons_cons | apply List.Sublist.cons)))) ?_; (conv => arg 6; simp only [Act.put, List.setIfInBounds_toArray, List.set_cons_succ, List.set_cons_zero]))
  (refine wpT_free rfl rfl (.inl ⟨rfl, fun w _ => by go_simp; rfl⟩) (by exact H.stP (by (repeat (first | exact List.Sublist.refl _ | apply List.Sublist.cons_cons | apply List.Sublist.cons)))) ?_; (conv => arg 6; simp only [Act.put, List.setIfInBounds_toArray, List.set_cons_succ, List.set_cons_zero]))
  (refine wpT_free rfl rfl (.inl ⟨rfl, fun w _ => by go_simp; rfl⟩) (by exact H.stP (by (repeat (first | exact List.Sublist.refl _ | apply List.Sublist.cons_cons | apply List.Sublist.cons)))) ?_; (conv => arg 6; simp only [Act.put, List.setIfInBounds_toArray, List.set_cons_succ, List.set_cons_zero]))
  (refine wpT_free rfl rfl (.inl ⟨rfl, fun w hw => run_ld1 Try.underlying23 rfl rfl rfl hw.2.1⟩) (by exact H.stP (by (repeat (first | exact List.Sublist.refl _ | apply List.Sublist.cons_cons | apply List.Sublist.cons)))) ?_; (conv => arg 6; simp only [Act.put, List.setIfInBounds_toArray, List.set_cons_succ, List.set_cons_zero]))
  (refine wpT_free rfl rfl (.inl ⟨rfl, fun w hw => by obtain ⟨⟨_, _, M⟩, _⟩ := hw; exact run_ldrowN (xs := ka) Try.underlying26 s26 rfl rfl rfl M (by (repeat (first | exact List.mem_cons_self | refine List.mem_cons_of_mem _ ?_))) HA.out.1⟩) (by exact H.stP (by (repeat (first | exact List.Sublist.refl _ | apply List.Sublist.cons_cons | apply List.Sublist.cons)))) ?_; (conv => arg 6; simp only [Act.put, List.setIfInBounds_toArray, List.set_cons_succ, List.set_cons_zero]))
  refine wpT_op rfl ?_
  go_wp2_with (go_at_call 27; refine (PubT (ok2 _ _ _ _ _) H HA.out htl1).mono ?_; clear H; rintro e wn ⟨rfl, H⟩)
  refine PlanTQ.mk (by exact H.stP (by (repeat (first | exact List.Sublist.refl _ | apply List.Sublist.cons_cons | apply List.Sublist.cons)))) ?_
  refine wpT_op rfl ?_
  go_wp2_with ((refine wpF_st0 (ys := nm ts1 ⟨3, ⟨#[]⟩, [ka]⟩) rfl H (ok3 _ _ _ _ _ _) s26 rfl rfl rfl rfl (by (repeat (first | exact Swap.head | apply Swap.tail))) (by simp) (nm_ok _ _).1 (fun wn Hn => ?_); clear H; rename TF _ _ _ _ _ => H; (try (conv => arg 5; simp only [Act.put, List.setIfInBounds_toArray, List.set_cons_succ, List.set_cons_zero]))))
  refine PlanTQ.mk (by exact H.stP (by (repeat (first | exact List.Sublist.refl _ | apply List.Sublist.cons_cons | apply List.Sublist.cons)))) ?_
  refine wpT_done ?_
  rw [HQ.out]
  go_wp2_with fail
  refine wp_region_planTP [.blk b5 (rowO .u8 26 ka)] (PlayC p g m) (.free 0 (.free 1 (.free 2 (.free 3 (.free 4 (.one 5 (.one 6 (.one 7 (.done))))))))) (by kernel_rfl) (by kernel_rfl) (fun _ _ _ _ _ h => h) H (ok3 _ _ _ _ _ _) ?_
  clear H
  intro ops Q HO HQ wr H _
  have hops := HO.out
  subst hops
  (refine wpT_free rfl rfl (.inl ⟨rfl, fun w _ => by go_simp; rfl⟩) (by exact H.stP (by (repeat (first | exact List.Sublist.refl _ | apply List.Sublist.cons_cons | apply List.Sublist.cons)))) ?_; (conv => arg 6; simp only [Act.put, List.setIfInBounds_toArray, List.set_cons_succ, List.set_cons_zero]))
  (refine wpT_free rfl rfl (.inl ⟨rfl, fun w _ => by go_simp; rfl⟩) (by exact H.stP (by (repeat (first | exact List.Sublist.refl _ | apply List.Sublist.cons_cons | apply List.Sublist.cons)))) ?_; (conv => arg 6; simp only [Act.put, List.setIfInBounds_toArray, List.set_cons_succ, List.set_cons_zero]))
  (refine wpT_free rfl rfl (.inl ⟨rfl, fun w _ => by go_simp; rfl⟩) (by exact H.stP (by (repeat (first | exact List.Sublist.refl _ | apply List.Sublist.cons_cons | apply List.Sublist.cons)))) ?_; (conv => arg 6; simp only [Act.put, List.setIfInBounds_toArray, List.set_cons_succ, List.set_cons_zero]))
  (refine wpT_free rfl rfl (.inl ⟨rfl, fun w hw => run_ld1 Try.underlying44 rfl rfl rfl hw.2.2⟩) (by exact H.stP (by (repeat (first | exact List.Sublist.refl _ | apply List.Sublist.cons_cons | apply List.Sublist.cons)))) ?_; (conv => arg 6; simp only [Act.put, List.setIfInBounds_toArray, List.set_cons_succ, List.set_cons_zero]))
  (refine wpT_free rfl rfl (.inl ⟨rfl, fun w hw => by obtain ⟨⟨_, _, M⟩, _⟩ := hw; exact run_ldrowN (xs := ka) Try.underlying26 s26 rfl rfl rfl M (by (repeat (first | exact List.mem_cons_self | refine List.mem_cons_of_mem _ ?_))) HA.out.1⟩) (by exact H.stP (by (repeat (first | exact List.Sublist.refl _ | apply List.Sublist.cons_cons | apply List.Sublist.cons)))) ?_; (conv => arg 6; simp only [Act.put, List.setIfInBounds_toArray, List.set_cons_succ, List.set_cons_zero]))
  refine wpT_op rfl ?_
  go_wp2_with (refine wpF_bsK1 109 H (ok3 _ _ _ _ _ _) rfl rfl rfl rfl HA.out (fun b109 wn Hn => ?_); clear H; rename TF _ _ _ _ _ => H; (conv => arg 5; simp only [Act.put, List.setIfInBounds_toArray, List.set_cons_succ, List.set_cons_zero]))
  refine PlanTQ.mk (by exact H.stP (by (repeat (first | exact List.Sublist.refl _ | apply List.Sublist.cons_cons | apply List.Sublist.cons)))) ?_
  refine wpT_op rfl ?_
  go_wp2_with (go_at_call 45; refine (MakeM (ks := [ka]) (tabR_ok _ _) (playR_ok _ _ _ _) H rfl (tmOk (by decide) (by decide) (by decide) (by simp) (one_ok HA.out)) (H.reb.blkT List.mem_cons_self) htl1).mono ?_; clear H; rintro e wn ⟨rfl, H⟩)
  refine PlanTQ.mk (by exact H.stP (by (repeat (first | exact List.Sublist.refl _ | apply List.Sublist.cons_cons | apply List.Sublist.cons)))) ?_
  refine wpT_op rfl ?_
  go_wp2_with ((refine wpF_st0 (ys := nm ts1 ⟨3, ⟨#[]⟩, [ka]⟩) rfl H (ok3 _ _ _ _ _ _) s26 rfl rfl rfl rfl (by (repeat (first | exact Swap.head | apply Swap.tail))) (by simp) (nm_ok _ _).1 (fun wn Hn => ?_); clear H; rename TF _ _ _ _ _ => H; (try (conv => arg 5; simp only [Act.put, List.setIfInBounds_toArray, List.set_cons_succ, List.set_cons_zero]))))
  refine PlanTQ.mk (by exact H.stP (by (repeat (first | exact List.Sublist.refl _ | apply List.Sublist.cons_cons | apply List.Sublist.cons)))) ?_
  refine wpT_done ?_
  rw [HQ.out]
  go_wp2_with fail
  have hpi : PI (n + 1) (putL ts1 ⟨3, ⟨#[]⟩, [ka]⟩) (keys ++ [(nm ts1 ⟨3, ⟨#[]⟩, [ka]⟩)]) := hs.out.pi.next (PI.put HP1.out ⟨fun _ => by simp, fun h => by simp at h⟩ (by simp))
  have hxk : KeyOk (nm ts1 ⟨3, ⟨#[]⟩, [ka]⟩) := nm_ok _ _
  obtain ⟨x, hx⟩ : ∃ k, k = nm ts1 ⟨3, ⟨#[]⟩, [ka]⟩ := ⟨_, rfl⟩
  obtain ⟨ts2, hts⟩ : ∃ t, t = putL ts1 ⟨3, ⟨#[]⟩, [ka]⟩ := ⟨_, rfl⟩
  rw [← hx, ← hts] at H
  rw [← hx, ← hts] at hpi
  rw [← hx] at hxk
  have HPI := hid hpi
  have HX := hid hxk
  have hkl := HPI.out.kn
  have hnn := hs.out.nn
  clear hpi hxk hx hts
  rw [List.length_append, List.length_singleton] at hkl
  have HLK := hid (H.lookOk HX.out)
  replace H := H.sub (L' := [.blk b8 (rowO .u8 26 x), .blk b7 (rowO .u8 26 x)]) (by (repeat (first | exact List.Sublist.refl _ | apply List.Sublist.cons_cons | apply List.Sublist.cons)))
  go_cut [193] from 57 (fun _ wx => TF K (playS p g m ts2 (keys ++ [x])) w wx [.blk b8 (rowO .u8 26 x), .blk b7 (rowO .u8 26 x)])
  case first =>
    obtain ⟨A9, c9, cp2, M, hclose, hkeep⟩ := H.playOut2 (tabR_ok _ _) (refR_ok _ _)
    have HKE := hid (fun wz L2 M => hkeep b7 _ (by (repeat (first | exact List.mem_cons_self | refine List.mem_cons_of_mem _ ?_))) wz L2 M)
    have HCL := hid hclose
    clear hkeep hclose
    refine wp_region_planS (fun w' => w'.heap[b7]? = some (rowO .u8 26 x)) (.free 0 (.free 1 (.free 2 (.free 3 (.free 5 (.two 4 (.one 6 (.one 7 (.free 8 (.free 9 (.one 10 (.done)))))) 6 (.one 4 (.one 7 (.free 8 (.free 9 (.one 10 (.done)))))))))))) (by kernel_rfl) (by kernel_rfl) (fun _ _ _ _ _ h => h) ?_
    intro w8 hb
    have M0 := M.call hb
    clear M cp2
    have M := M0
    clear M0
    (refine wpT_free rfl rfl (.inl ⟨rfl, fun w _ => by go_simp; rfl⟩) (by exact HKE.out _ _ M) ?_; (conv => arg 6; simp only [Act.put, List.setIfInBounds_toArray, List.set_cons_succ, List.set_cons_zero]))
    (refine wpT_free rfl rfl (.inl ⟨rfl, fun w _ => by go_simp; rfl⟩) (by exact HKE.out _ _ M) ?_; (conv => arg 6; simp only [Act.put, List.setIfInBounds_toArray, List.set_cons_succ, List.set_cons_zero]))
    (refine wpT_free rfl rfl (.inl ⟨rfl, fun w _ => by go_simp; rfl⟩) (by exact HKE.out _ _ M) ?_; (conv => arg 6; simp only [Act.put, List.setIfInBounds_toArray, List.set_cons_succ, List.set_cons_zero]))
    (refine wpT_free rfl rfl (.inl ⟨rfl, fun w _ => by go_simp; rfl⟩) (by exact HKE.out _ _ M) ?_; (conv => arg 6; simp only [Act.put, List.setIfInBounds_toArray, List.set_cons_succ, List.set_cons_zero]))
    (refine wpT_free rfl rfl (.inl ⟨rfl, fun w hw => run_ldrowH Try.underlying26 s26 rfl rfl rfl hw HX.out.1⟩) (by exact HKE.out _ _ M) ?_; (conv => arg 6; simp only [Act.put, List.setIfInBounds_toArray, List.set_cons_succ, List.set_cons_zero]))
    refine wpT_two rfl rfl ?_ ?_
    · have cp2 := M.cell (i := 2) (g := p) (v := .slice A9 keys.length c9) (by (repeat (first | exact List.mem_cons_self | refine List.mem_cons_of_mem _ ?_))) rfl
      go_wp2_with fail
      clear cp2
      refine PlanTQ.mk (by exact HKE.out _ _ M) ?_
      refine wpT_op rfl ?_
      go_wp2_with (refine wpList_bsK1 199 rfl rfl rfl rfl HX.out M (fun b199 wn Mn => ?_); clear M; rename Mem _ _ _ _ => M; (conv => arg 5; simp only [Act.put, List.setIfInBounds_toArray, List.set_cons_succ, List.set_cons_zero]))
      refine PlanTQ.mk (by exact HKE.out _ _ M) ?_
      refine wpT_op rfl ?_
      go_wp2_with (refine wpList_appSm 200 rfl Try.underlying34 i26' rfl (by decide) rfl rfl rfl rfl M (fun A' cap' => Swap.tail (Swap.tail Swap.head)) (M.blkT List.mem_cons_self) (by rw [nums_length, List.flatten_cons, List.flatten_nil, List.append_nil, HX.out.1]) (nums_one .u8 _) (by omega) (by omega) (fun A2 c2 wn Mn => ?_); clear M; rename Mem _ _ _ _ => M; (conv => arg 5; simp only [Act.put, List.setIfInBounds_toArray, List.set_cons_succ, List.set_cons_zero]))
      refine PlanTQ.mk (by exact HKE.out _ _ M) ?_
      (refine wpT_free rfl rfl (.inl ⟨rfl, fun w _ => by go_simp; rfl⟩) (by exact HKE.out _ _ M) ?_; (conv => arg 6; simp only [Act.put, List.setIfInBounds_toArray, List.set_cons_succ, List.set_cons_zero]))
      (refine wpT_free rfl rfl (.inl ⟨rfl, fun w _ => by go_simp; rfl⟩) (by exact HKE.out _ _ M) ?_; (conv => arg 6; simp only [Act.put, List.setIfInBounds_toArray, List.set_cons_succ, List.set_cons_zero]))
      refine wpT_op rfl ?_
      go_wp2_with (refine wpList_stM (v := .slice A2 (keys.length + 1) c2) rfl rfl s34 rfl rfl rfl M (Swap.tail Swap.head) (by simp) ?_; clear M; intro wz M; (try (conv => arg 5; simp only [Act.put, List.setIfInBounds_toArray, List.set_cons_succ, List.set_cons_zero])))
      refine PlanTQ.mk (by exact HKE.out _ _ M) ?_
      refine wpT_done ?_
      go_wp2_with fail
      go_meet
      exact HCL.out A2 c2 [x] _ (one_ok HX.out) (M.sub (by (repeat (first | exact List.Sublist.refl _ | apply List.Sublist.cons_cons | apply List.Sublist.cons))))
    · go_wp2_with (refine wpList_bsK1 199 rfl rfl rfl rfl HX.out M (fun b199 wn Mn => ?_); clear M; rename Mem _ _ _ _ => M; (conv => arg 5; simp only [Act.put, List.setIfInBounds_toArray, List.set_cons_succ, List.set_cons_zero]))
      refine PlanTQ.mk (by exact HKE.out _ _ M) ?_
      refine wpT_op rfl ?_
      have cp2 := M.cell (i := 2) (g := p) (v := .slice A9 keys.length c9) (by (repeat (first | exact List.mem_cons_self | refine List.mem_cons_of_mem _ ?_))) rfl
      go_wp2_with fail
      clear cp2
      refine PlanTQ.mk (by exact HKE.out _ _ M) ?_
      refine wpT_op rfl ?_
      go_wp2_with (refine wpList_appSm 200 rfl Try.underlying34 i26' rfl (by decide) rfl rfl rfl rfl M (fun A' cap' => Swap.tail (Swap.tail Swap.head)) (M.blkT List.mem_cons_self) (by rw [nums_length, List.flatten_cons, List.flatten_nil, List.append_nil, HX.out.1]) (nums_one .u8 _) (by omega) (by omega) (fun A2 c2 wn Mn => ?_); clear M; rename Mem _ _ _ _ => M; (conv => arg 5; simp only [Act.put, List.setIfInBounds_toArray, List.set_cons_succ, List.set_cons_zero]))
      refine PlanTQ.mk (by exact HKE.out _ _ M) ?_
      (refine wpT_free rfl rfl (.inl ⟨rfl, fun w _ => by go_simp; rfl⟩) (by exact HKE.out _ _ M) ?_; (conv => arg 6; simp only [Act.put, List.setIfInBounds_toArray, List.set_cons_succ, List.set_cons_zero]))
      (refine wpT_free rfl rfl (.inl ⟨rfl, fun w _ => by go_simp; rfl⟩) (by exact HKE.out _ _ M) ?_; (conv => arg 6; simp only [Act.put, List.setIfInBounds_toArray, List.set_cons_succ, List.set_cons_zero]))
      refine wpT_op rfl ?_
      go_wp2_with (refine wpList_stM (v := .slice A2 (keys.length + 1) c2) rfl rfl s34 rfl rfl rfl M (Swap.tail Swap.head) (by simp) ?_; clear M; intro wz M; (try (conv => arg 5; simp only [Act.put, List.setIfInBounds_toArray, List.set_cons_succ, List.set_cons_zero])))
      refine PlanTQ.mk (by exact HKE.out _ _ M) ?_
      refine wpT_done ?_
      go_wp2_with fail
      go_meet
      exact HCL.out A2 c2 [x] _ (one_ok HX.out) (M.sub (by (repeat (first | exact List.Sublist.refl _ | apply List.Sublist.cons_cons | apply List.Sublist.cons))))
  case rest =>
    clear H
    have H := hcut
    clear hcut
    obtain ⟨Am, cm, cmm⟩ := H.refCell2
    go_wp2_with fail
    refine wp_region_planTP [.blk b8 (rowO .u8 26 x), .blk b7 (rowO .u8 26 x)] (fun w' => PlayC p g m w' ∧ w'.cell? ⟨m, 0, none⟩ = some (.slice Am ts2.length cm)) (.free 0 (.free 1 (.free 2 (.free 3 (.free 4 (.free 5 (.free 6 (.free 7 (.free 9 (.free 10 (.free 11 (.free 12 (.free 13 (.free 14 (.free 15 (.free 16 (.one 8 (.free 17 (.free 18 (.free 19 (.free 20 (.free 21 (.free 22 (.free 23 (.free 24 (.free 26 (.free 27 (.free 28 (.free 29 (.free 30 (.one 25 (.one 31 (.one 32 (.free 33 (.free 34 (.done)))))))))))))))))))))))))))))))))))) (by kernel_rfl) (by kernel_rfl) (fun _ _ _ _ _ h => h) H (ok3 _ _ _ _ _ _) ?_
    clear H
    intro ops Q HO HQ wr H MR
    have cm2 := MR.cell0 cmm
    clear MR cmm
    have hops := HO.out
    subst hops
    (refine wpT_free rfl rfl (.inl ⟨rfl, fun w hw => by obtain ⟨⟨_, _, M⟩, _⟩ := hw; exact run_ldrowN (xs := x) Try.underlying26 s26 rfl rfl rfl M (by (repeat (first | exact List.mem_cons_self | refine List.mem_cons_of_mem _ ?_))) HX.out.1⟩) (by exact ⟨(H.stP (by (repeat (first | exact List.Sublist.refl _ | apply List.Sublist.cons_cons | apply List.Sublist.cons)))).1, H.playC, cm2⟩) ?_; (conv => arg 6; simp only [Act.put, List.setIfInBounds_toArray, List.set_cons_succ, List.set_cons_zero]))
    (refine wpT_free rfl rfl (.inl ⟨rfl, fun w hw => by obtain ⟨⟨_, _, M⟩, _⟩ := hw; exact run_ldrowN (xs := x) Try.underlying26 s26 rfl rfl rfl M (by (repeat (first | exact List.mem_cons_self | refine List.mem_cons_of_mem _ ?_))) HX.out.1⟩) (by exact ⟨(H.stP (by (repeat (first | exact List.Sublist.refl _ | apply List.Sublist.cons_cons | apply List.Sublist.cons)))).1, H.playC, cm2⟩) ?_; (conv => arg 6; simp only [Act.put, List.setIfInBounds_toArray, List.set_cons_succ, List.set_cons_zero]))
    (refine wpT_free rfl rfl (.inl ⟨rfl, fun w _ => run_eq26b true rfl rfl rfl HX.out.1 HX.out.1 (by simp) w⟩) (by exact ⟨(H.stP (by (repeat (first | exact List.Sublist.refl _ | apply List.Sublist.cons_cons | apply List.Sublist.cons)))).1, H.playC, cm2⟩) ?_; (conv => arg 6; simp only [Act.put, List.setIfInBounds_toArray, List.set_cons_succ, List.set_cons_zero]))
    (refine wpT_free rfl rfl (.inl ⟨rfl, fun w _ => by go_simp; rfl⟩) (by exact ⟨(H.stP (by (repeat (first | exact List.Sublist.refl _ | apply List.Sublist.cons_cons | apply List.Sublist.cons)))).1, H.playC, cm2⟩) ?_; (conv => arg 6; simp only [Act.put, List.setIfInBounds_toArray, List.set_cons_succ, List.set_cons_zero]))
    (refine wpT_free rfl rfl (.inl ⟨rfl, fun w _ => by go_simp; rfl⟩) (by exact ⟨(H.stP (by (repeat (first | exact List.Sublist.refl _ | apply List.Sublist.cons_cons | apply List.Sublist.cons)))).1, H.playC, cm2⟩) ?_; (conv => arg 6; simp only [Act.put, List.setIfInBounds_toArray, List.set_cons_succ, List.set_cons_zero]))
    (refine wpT_free rfl rfl (.inl ⟨rfl, fun w _ => by go_simp; rfl⟩) (by exact ⟨(H.stP (by (repeat (first | exact List.Sublist.refl _ | apply List.Sublist.cons_cons | apply List.Sublist.cons)))).1, H.playC, cm2⟩) ?_; (conv => arg 6; simp only [Act.put, List.setIfInBounds_toArray, List.set_cons_succ, List.set_cons_zero]))
    (refine wpT_free rfl rfl (.inl ⟨rfl, fun w _ => by go_simp; rfl⟩) (by exact ⟨(H.stP (by (repeat (first | exact List.Sublist.refl _ | apply List.Sublist.cons_cons | apply List.Sublist.cons)))).1, H.playC, cm2⟩) ?_; (conv => arg 6; simp only [Act.put, List.setIfInBounds_toArray, List.set_cons_succ, List.set_cons_zero]))
    (refine wpT_free rfl rfl (.inl ⟨rfl, fun w hw => run_ld1 Try.underlying23 rfl rfl rfl hw.2.1.1⟩) (by exact ⟨(H.stP (by (repeat (first | exact List.Sublist.refl _ | apply List.Sublist.cons_cons | apply List.Sublist.cons)))).1, H.playC, cm2⟩) ?_; (conv => arg 6; simp only [Act.put, List.setIfInBounds_toArray, List.set_cons_succ, List.set_cons_zero]))
    (refine wpT_free rfl rfl (.inl ⟨rfl, fun w _ => by go_simp; rfl⟩) (by exact ⟨(H.stP (by (repeat (first | exact List.Sublist.refl _ | apply List.Sublist.cons_cons | apply List.Sublist.cons)))).1, H.playC, cm2⟩) ?_; (conv => arg 6; simp only [Act.put, List.setIfInBounds_toArray, List.set_cons_succ, List.set_cons_zero]))
    (refine wpT_free rfl rfl (.inl ⟨rfl, fun w _ => by go_simp; rfl⟩) (by exact ⟨(H.stP (by (repeat (first | exact List.Sublist.refl _ | apply List.Sublist.cons_cons | apply List.Sublist.cons)))).1, H.playC, cm2⟩) ?_; (conv => arg 6; simp only [Act.put, List.setIfInBounds_toArray, List.set_cons_succ, List.set_cons_zero]))
    (refine wpT_free rfl rfl (.inl ⟨rfl, fun w _ => by go_simp; rfl⟩) (by exact ⟨(H.stP (by (repeat (first | exact List.Sublist.refl _ | apply List.Sublist.cons_cons | apply List.Sublist.cons)))).1, H.playC, cm2⟩) ?_; (conv => arg 6; simp only [Act.put, List.setIfInBounds_toArray, List.set_cons_succ, List.set_cons_zero]))
    (refine wpT_free rfl rfl (.inl ⟨rfl, fun w hw => run_ld1 Try.underlying44 rfl rfl rfl hw.2.1.2⟩) (by exact ⟨(H.stP (by (repeat (first | exact List.Sublist.refl _ | apply List.Sublist.cons_cons | apply List.Sublist.cons)))).1, H.playC, cm2⟩) ?_; (conv => arg 6; simp only [Act.put, List.setIfInBounds_toArray, List.set_cons_succ, List.set_cons_zero]))
    (refine wpT_free rfl rfl (.inl ⟨rfl, fun w _ => by go_simp; rfl⟩) (by exact ⟨(H.stP (by (repeat (first | exact List.Sublist.refl _ | apply List.Sublist.cons_cons | apply List.Sublist.cons)))).1, H.playC, cm2⟩) ?_; (conv => arg 6; simp only [Act.put, List.setIfInBounds_toArray, List.set_cons_succ, List.set_cons_zero]))
    (refine wpT_free rfl rfl (.inl ⟨rfl, fun w _ => by go_simp; rfl⟩) (by exact ⟨(H.stP (by (repeat (first | exact List.Sublist.refl _ | apply List.Sublist.cons_cons | apply List.Sublist.cons)))).1, H.playC, cm2⟩) ?_; (conv => arg 6; simp only [Act.put, List.setIfInBounds_toArray, List.set_cons_succ, List.set_cons_zero]))
    (refine wpT_free rfl rfl (.inl ⟨rfl, fun w hw => run_ld1 Try.underlying45 rfl rfl rfl hw.2.2⟩) (by exact ⟨(H.stP (by (repeat (first | exact List.Sublist.refl _ | apply List.Sublist.cons_cons | apply List.Sublist.cons)))).1, H.playC, cm2⟩) ?_; (conv => arg 6; simp only [Act.put, List.setIfInBounds_toArray, List.set_cons_succ, List.set_cons_zero]))
    (refine wpT_free rfl rfl (.inl ⟨rfl, fun w _ => by go_simp; rfl⟩) (by exact ⟨(H.stP (by (repeat (first | exact List.Sublist.refl _ | apply List.Sublist.cons_cons | apply List.Sublist.cons)))).1, H.playC, cm2⟩) ?_; (conv => arg 6; simp only [Act.put, List.setIfInBounds_toArray, List.set_cons_succ, List.set_cons_zero]))
    refine wpT_op rfl ?_
    go_wp2_with (first | (apply wpList_want; (· rfl)) | (go_at_call 26; refine (Len26P H).mono ?_; rintro e wn ⟨rfl, M⟩; replace H := H.call0 (ok3 _ _ _ _ _ _) M; replace cm2 := M.cell0 cm2; clear M))
    refine PlanTQ.mk (by exact ⟨(H.stP (by (repeat (first | exact List.Sublist.refl _ | apply List.Sublist.cons_cons | apply List.Sublist.cons)))).1, H.playC, cm2⟩) ?_
    (refine wpT_free (v := .bool true) rfl rfl (.inl ⟨rfl, fun w _ => by go_simp⟩) (by exact ⟨(H.stP (by (repeat (first | exact List.Sublist.refl _ | apply List.Sublist.cons_cons | apply List.Sublist.cons)))).1, H.playC, cm2⟩) ?_; (conv => arg 6; simp only [Act.put, List.setIfInBounds_toArray, List.set_cons_succ, List.set_cons_zero]))
    (refine wpT_free (v := .bool true) rfl rfl (.inl ⟨rfl, fun w _ => by go_simp; (try rfl)⟩) (by exact ⟨(H.stP (by (repeat (first | exact List.Sublist.refl _ | apply List.Sublist.cons_cons | apply List.Sublist.cons)))).1, H.playC, cm2⟩) ?_; (conv => arg 6; simp only [Act.put, List.setIfInBounds_toArray, List.set_cons_succ, List.set_cons_zero]))
    (refine wpT_free rfl rfl (.inl ⟨rfl, fun w _ => by go_simp; rfl⟩) (by exact ⟨(H.stP (by (repeat (first | exact List.Sublist.refl _ | apply List.Sublist.cons_cons | apply List.Sublist.cons)))).1, H.playC, cm2⟩) ?_; (conv => arg 6; simp only [Act.put, List.setIfInBounds_toArray, List.set_cons_succ, List.set_cons_zero]))
    (refine wpT_free rfl rfl (.inl ⟨rfl, fun w _ => by go_simp; rfl⟩) (by exact ⟨(H.stP (by (repeat (first | exact List.Sublist.refl _ | apply List.Sublist.cons_cons | apply List.Sublist.cons)))).1, H.playC, cm2⟩) ?_; (conv => arg 6; simp only [Act.put, List.setIfInBounds_toArray, List.set_cons_succ, List.set_cons_zero]))
    (refine wpT_free rfl rfl (.inl ⟨rfl, fun w _ => by go_simp; rfl⟩) (by exact ⟨(H.stP (by (repeat (first | exact List.Sublist.refl _ | apply List.Sublist.cons_cons | apply List.Sublist.cons)))).1, H.playC, cm2⟩) ?_; (conv => arg 6; simp only [Act.put, List.setIfInBounds_toArray, List.set_cons_succ, List.set_cons_zero]))
    (refine wpT_free rfl rfl (.inl ⟨rfl, fun w _ => by go_simp; rfl⟩) (by exact ⟨(H.stP (by (repeat (first | exact List.Sublist.refl _ | apply List.Sublist.cons_cons | apply List.Sublist.cons)))).1, H.playC, cm2⟩) ?_; (conv => arg 6; simp only [Act.put, List.setIfInBounds_toArray, List.set_cons_succ, List.set_cons_zero]))
    (refine wpT_free rfl rfl (.inl ⟨rfl, fun w hw => run_ld1 Try.underlying23 rfl rfl rfl hw.2.1.1⟩) (by exact ⟨(H.stP (by (repeat (first | exact List.Sublist.refl _ | apply List.Sublist.cons_cons | apply List.Sublist.cons)))).1, H.playC, cm2⟩) ?_; (conv => arg 6; simp only [Act.put, List.setIfInBounds_toArray, List.set_cons_succ, List.set_cons_zero]))
    (refine wpT_free rfl rfl (.inl ⟨rfl, fun w hw => by obtain ⟨⟨_, _, M⟩, _⟩ := hw; exact run_ldrowN (xs := x) Try.underlying26 s26 rfl rfl rfl M (by (repeat (first | exact List.mem_cons_self | refine List.mem_cons_of_mem _ ?_))) HX.out.1⟩) (by exact ⟨(H.stP (by (repeat (first | exact List.Sublist.refl _ | apply List.Sublist.cons_cons | apply List.Sublist.cons)))).1, H.playC, cm2⟩) ?_; (conv => arg 6; simp only [Act.put, List.setIfInBounds_toArray, List.set_cons_succ, List.set_cons_zero]))
    (refine wpT_free rfl rfl (.inl ⟨rfl, fun w _ => by go_simp; rfl⟩) (by exact ⟨(H.stP (by (repeat (first | exact List.Sublist.refl _ | apply List.Sublist.cons_cons | apply List.Sublist.cons)))).1, H.playC, cm2⟩) ?_; (conv => arg 6; simp only [Act.put, List.setIfInBounds_toArray, List.set_cons_succ, List.set_cons_zero]))
    (refine wpT_free rfl rfl (.inl ⟨rfl, fun w _ => by go_simp; rfl⟩) (by exact ⟨(H.stP (by (repeat (first | exact List.Sublist.refl _ | apply List.Sublist.cons_cons | apply List.Sublist.cons)))).1, H.playC, cm2⟩) ?_; (conv => arg 6; simp only [Act.put, List.setIfInBounds_toArray, List.set_cons_succ, List.set_cons_zero]))
    (refine wpT_free rfl rfl (.inl ⟨rfl, fun w _ => by go_simp; rfl⟩) (by exact ⟨(H.stP (by (repeat (first | exact List.Sublist.refl _ | apply List.Sublist.cons_cons | apply List.Sublist.cons)))).1, H.playC, cm2⟩) ?_; (conv => arg 6; simp only [Act.put, List.setIfInBounds_toArray, List.set_cons_succ, List.set_cons_zero]))
    (refine wpT_free rfl rfl (.inl ⟨rfl, fun w hw => run_ld1 Try.underlying44 rfl rfl rfl hw.2.1.2⟩) (by exact ⟨(H.stP (by (repeat (first | exact List.Sublist.refl _ | apply List.Sublist.cons_cons | apply List.Sublist.cons)))).1, H.playC, cm2⟩) ?_; (conv => arg 6; simp only [Act.put, List.setIfInBounds_toArray, List.set_cons_succ, List.set_cons_zero]))
    (refine wpT_free rfl rfl (.inl ⟨rfl, fun w hw => by obtain ⟨⟨_, _, M⟩, _⟩ := hw; exact run_ldrowN (xs := x) Try.underlying26 s26 rfl rfl rfl M (by (repeat (first | exact List.mem_cons_self | refine List.mem_cons_of_mem _ ?_))) HX.out.1⟩) (by exact ⟨(H.stP (by (repeat (first | exact List.Sublist.refl _ | apply List.Sublist.cons_cons | apply List.Sublist.cons)))).1, H.playC, cm2⟩) ?_; (conv => arg 6; simp only [Act.put, List.setIfInBounds_toArray, List.set_cons_succ, List.set_cons_zero]))
    refine wpT_op rfl ?_
    go_wp2_with (first | (apply wpList_want; (· rfl)) | (go_at_call 57; refine (LookPT H HX.out).mono ?_; rintro e wn ⟨B1, d1, rfl, r1, M⟩; replace H := H.call0 (ok3 _ _ _ _ _ _) M; replace cm2 := M.cell0 cm2; have HR1 := hid r1; clear M r1))
    refine PlanTQ.mk (by exact ⟨(H.stP (by (repeat (first | exact List.Sublist.refl _ | apply List.Sublist.cons_cons | apply List.Sublist.cons)))).1, H.playC, cm2⟩) ?_
    refine wpT_op rfl ?_
    go_wp2_with (first | (apply wpList_want; (· rfl)) | (go_at_call 58; refine (LookM H HX.out).mono ?_; rintro e wn ⟨B2, d2, rfl, r2, M⟩; replace H := H.call0 (ok3 _ _ _ _ _ _) M; replace cm2 := M.cell0 cm2; have HR3 := hid (HR1.out.mem M); have HR2 := hid r2; clear M r2 HR1))
    refine PlanTQ.mk (by exact ⟨(H.stP (by (repeat (first | exact List.Sublist.refl _ | apply List.Sublist.cons_cons | apply List.Sublist.cons)))).1, H.playC, cm2⟩) ?_
    refine wpT_op rfl ?_
    go_wp2_with (first | (apply wpList_want; (· rfl)) | (go_at_call 56; refine (SameTerm56 (t := lookT ts2 x) _ HLK.out.1 HLK.out.2 HR3.out HR2.out).mono ?_; rintro e wn ⟨rfl, M⟩; replace H := H.call0 (ok3 _ _ _ _ _ _) M; replace cm2 := M.cell0 cm2; clear M))
    refine PlanTQ.mk (by exact ⟨(H.stP (by (repeat (first | exact List.Sublist.refl _ | apply List.Sublist.cons_cons | apply List.Sublist.cons)))).1, H.playC, cm2⟩) ?_
    (refine wpT_free (v := .bool true) rfl rfl (.inl ⟨rfl, fun w _ => by go_simp; (try rfl)⟩) (by exact ⟨(H.stP (by (repeat (first | exact List.Sublist.refl _ | apply List.Sublist.cons_cons | apply List.Sublist.cons)))).1, H.playC, cm2⟩) ?_; (conv => arg 6; simp only [Act.put, List.setIfInBounds_toArray, List.set_cons_succ, List.set_cons_zero]))
    (refine wpT_free (v := .bool true) rfl rfl (.inl ⟨rfl, fun w _ => by go_simp; (try rfl)⟩) (by exact ⟨(H.stP (by (repeat (first | exact List.Sublist.refl _ | apply List.Sublist.cons_cons | apply List.Sublist.cons)))).1, H.playC, cm2⟩) ?_; (conv => arg 6; simp only [Act.put, List.setIfInBounds_toArray, List.set_cons_succ, List.set_cons_zero]))
    refine wpT_done ?_
    rw [HQ.out]
    go_wp2_with fail
    go_ret
    exact ⟨ts2, keys ++ [x], rfl, HPI.out, H.sub (List.nil_sublist _)⟩
end Go.Proofs.Ytcapfnbmmdbcoaa
