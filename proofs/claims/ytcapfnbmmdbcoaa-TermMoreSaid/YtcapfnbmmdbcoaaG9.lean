/- A play: a step whole; a play begins; the law TermPlays. -/
import Derived.Test.YtcapfnbmmdbcoaaG6
import Derived.Test.YtcapfnbmmdbcoaaG7
import Derived.Test.YtcapfnbmmdbcoaaG8
set_option linter.unusedVariables false
set_option linter.unusedSimpArgs false
namespace Go.Proofs.Ytcapfnbmmdbcoaa
open Go.RowKit
set_option maxRecDepth 100000 in
set_option maxHeartbeats 8000000 in
theorem do30_6 {K : Nat → Prop} {w : World} {p g m n : Nat} {ts : List Tm} {keys : List (List Int)} {c : Sp} {I : Option Addr} {ic : Nat} (h : DoP K w p g m n ts keys c I ic) (ht : c.text.size ≤ 300) (hq : c.kind.tmod 8 = 6) (hn60 : n ≤ 60) :
    Calls Try.prog 30 #[.pointer (some ⟨p, 0, none⟩), .agg (spCells c I ic).toArray] w (DoR K p g m n w) := by
  have H := TF.start h.res h.lt
  have hs := hid h
  obtain ⟨ka, hka⟩ : ∃ k, k = atK keys c.at_ := ⟨_, rfl⟩
  obtain ⟨kb, hkb⟩ : ∃ k, k = atK keys (c.keys.getD 0 0) := ⟨_, rfl⟩
  obtain ⟨l, hl⟩ : ∃ l, l = namedP keys c.keys := ⟨_, rfl⟩
  obtain ⟨ts1, ht1⟩ : ∃ t, t = markL ts c.text := ⟨_, rfl⟩
  have EA := hid hka.symm
  have EB := hid hkb.symm
  have EL := hid hl.symm
  have HT1 := hid ht1.symm
  have HA := hid (show KeyOk ka from by rw [hka]; exact h.at _)
  have HB := hid (show KeyOk kb from by rw [hkb]; exact h.at _)
  have HL := hid (show l.length ≤ 5 ∧ ∀ k ∈ l, KeyOk k from by rw [hl]; exact ⟨namedP_len _ _, namedP_ok h.pi.k1 h.ok _⟩)
  have HP1 := hid (show (∀ u ∈ ts1, TmW u) ∧ (∀ u ∈ ts1, u.keys.length ≤ 10) ∧ ts1.length ≤ 2 * n + 1 from by rw [ht1]; exact h.pi.mark _)
  have HRAW := hid h.raw
  have HMK := hid (markN_ok ts c.text)
  have htl : ts.length ≤ 900000 := by have := h.tl; omega
  have htl1 : ts1.length ≤ 900000 := by have := HP1.out.2.2; have := h.nn; omega
  have htI : ¬ (300 : Int) < (c.text.size : Int) := by omega
  have hl5 : l.length ≤ 5 := HL.out.1
  clear h hka hkb hl ht1
  go_enter Try.func30, Try.ntmps30
  go_wp2_with (first | (refine wpF_bxC (cs := spCells c I ic) 3 H (ok3 _ _ _ _ _ _) rfl rfl rfl rfl (fun b3 w1 H1 => ?_); clear H; rename TF _ _ _ _ _ => H; have c2 := H.reb.cell (i := 2) (g := b3) (v := .string c.text) (by (repeat (first | exact List.mem_cons_self | refine List.mem_cons_of_mem _ ?_))) rfl; have c0 := H.reb.cell (i := 0) (g := b3) (v := .int .i64 c.kind) (by (repeat (first | exact List.mem_cons_self | refine List.mem_cons_of_mem _ ?_))) rfl; (conv => arg 5; simp only [Act.put, List.setIfInBounds_toArray, List.set_cons_succ, List.set_cons_zero])) | (refine wpF_al 5 H (ok3 _ _ _ _ _ _) z26 rfl rfl rfl (fun b5 wn Hn => ?_); clear H; rename TF _ _ _ _ _ => H; clear c2 c0; have c2 := H.reb.cell (i := 2) (g := b3) (v := .string c.text) (by (repeat (first | exact List.mem_cons_self | refine List.mem_cons_of_mem _ ?_))) rfl; have c0 := H.reb.cell (i := 0) (g := b3) (v := .int .i64 c.kind) (by (repeat (first | exact List.mem_cons_self | refine List.mem_cons_of_mem _ ?_))) rfl; (conv => arg 5; simp only [Act.put, List.setIfInBounds_toArray, List.set_cons_succ, List.set_cons_zero])) | (refine wpF_al 6 H (ok3 _ _ _ _ _ _) z26 rfl rfl rfl (fun b6 wn Hn => ?_); clear H; rename TF _ _ _ _ _ => H; clear c2 c0; have c2 := H.reb.cell (i := 2) (g := b3) (v := .string c.text) (by (repeat (first | exact List.mem_cons_self | refine List.mem_cons_of_mem _ ?_))) rfl; have c0 := H.reb.cell (i := 0) (g := b3) (v := .int .i64 c.kind) (by (repeat (first | exact List.mem_cons_self | refine List.mem_cons_of_mem _ ?_))) rfl; (conv => arg 5; simp only [Act.put, List.setIfInBounds_toArray, List.set_cons_succ, List.set_cons_zero])) | (refine wpList_ldagg 25 rfl Try.underlying66 rfl rfl rfl rfl (H.cellC (by (repeat (first | exact List.mem_cons_self | refine List.mem_cons_of_mem _ ?_)))) (sz66 HRAW.out) ?_; (conv => arg 5; simp only [Act.put, List.setIfInBounds_toArray, List.set_cons_succ, List.set_cons_zero])) | (go_at_call 51; refine (two51N hs.out H EA.out EB.out).mono ?_; rintro e wn ⟨rfl, M⟩; replace H := H.call0 (ok3 _ _ _ _ _ _) M; clear M; clear c2 c0; have c2 := H.reb.cell (i := 2) (g := b3) (v := .string c.text) (by (repeat (first | exact List.mem_cons_self | refine List.mem_cons_of_mem _ ?_))) rfl; have c0 := H.reb.cell (i := 0) (g := b3) (v := .int .i64 c.kind) (by (repeat (first | exact List.mem_cons_self | refine List.mem_cons_of_mem _ ?_))) rfl) | (refine wpF_st0 (ys := ka) rfl H (ok3 _ _ _ _ _ _) s26 rfl rfl rfl rfl (by (repeat (first | exact Swap.head | apply Swap.tail))) (by first | simp | exact zK_ok.1) (by exact HA.out.1) (fun wn Hn => ?_); clear H; rename TF _ _ _ _ _ => H; clear c2 c0; have c2 := H.reb.cell (i := 2) (g := b3) (v := .string c.text) (by (repeat (first | exact List.mem_cons_self | refine List.mem_cons_of_mem _ ?_))) rfl; have c0 := H.reb.cell (i := 0) (g := b3) (v := .int .i64 c.kind) (by (repeat (first | exact List.mem_cons_self | refine List.mem_cons_of_mem _ ?_))) rfl; (try (conv => arg 5; simp only [Act.put, List.setIfInBounds_toArray, List.set_cons_succ, List.set_cons_zero]))) | (refine wpF_st0 (ys := kb) rfl H (ok3 _ _ _ _ _ _) s26 rfl rfl rfl rfl (by (repeat (first | exact Swap.head | apply Swap.tail))) (by first | simp | exact zK_ok.1) (by exact HB.out.1) (fun wn Hn => ?_); clear H; rename TF _ _ _ _ _ => H; clear c2 c0; have c2 := H.reb.cell (i := 2) (g := b3) (v := .string c.text) (by (repeat (first | exact List.mem_cons_self | refine List.mem_cons_of_mem _ ?_))) rfl; have c0 := H.reb.cell (i := 0) (g := b3) (v := .int .i64 c.kind) (by (repeat (first | exact List.mem_cons_self | refine List.mem_cons_of_mem _ ?_))) rfl; (try (conv => arg 5; simp only [Act.put, List.setIfInBounds_toArray, List.set_cons_succ, List.set_cons_zero]))))
  clear c0 c2
  refine wp_region_planTP [.blk b6 (rowO .u8 26 kb), .blk b5 (rowO .u8 26 ka), .blk b3 (cellsO 66 (spCells c I ic))] (PlayC p g m) (.free 0 (.free 1 (.free 2 (.free 3 (.free 4 (.free 5 (.free 7 (.one 6 (.free 8 (.free 9 (.free 10 (.free 11 (.free 12 (.free 13 (.free 14 (.free 15 (.free 17 (.free 18 (.free 19 (.free 20 (.free 21 (.free 22 (.one 16 (.one 23 (.free 24 (.free 25 (.done))))))))))))))))))))))))))) (by kernel_rfl) (by kernel_rfl) (fun _ _ _ _ _ h => h) H (ok3 _ _ _ _ _ _) ?_
  clear H
  intro ops Q HO HQ wr H _
  have hops := HO.out
  subst hops
  (refine wpT_free rfl rfl (.inl ⟨rfl, fun w _ => by go_simp; rfl⟩) (by exact H.stP (by (repeat (first | exact List.Sublist.refl _ | apply List.Sublist.cons_cons | apply List.Sublist.cons)))) ?_; (conv => arg 6; simp only [Act.put, List.setIfInBounds_toArray, List.set_cons_succ, List.set_cons_zero]))
  (refine wpT_free rfl rfl (.inl ⟨rfl, fun w _ => by go_simp; rfl⟩) (by exact H.stP (by (repeat (first | exact List.Sublist.refl _ | apply List.Sublist.cons_cons | apply List.Sublist.cons)))) ?_; (conv => arg 6; simp only [Act.put, List.setIfInBounds_toArray, List.set_cons_succ, List.set_cons_zero]))
  (refine wpT_free rfl rfl (.inl ⟨rfl, fun w _ => by go_simp; rfl⟩) (by exact H.stP (by (repeat (first | exact List.Sublist.refl _ | apply List.Sublist.cons_cons | apply List.Sublist.cons)))) ?_; (conv => arg 6; simp only [Act.put, List.setIfInBounds_toArray, List.set_cons_succ, List.set_cons_zero]))
  (refine wpT_free rfl rfl (.inl ⟨rfl, fun w hw => run_ld1 Try.underlying23 rfl rfl rfl hw.2.1⟩) (by exact H.stP (by (repeat (first | exact List.Sublist.refl _ | apply List.Sublist.cons_cons | apply List.Sublist.cons)))) ?_; (conv => arg 6; simp only [Act.put, List.setIfInBounds_toArray, List.set_cons_succ, List.set_cons_zero]))
  (refine wpT_free rfl rfl (.inl ⟨rfl, fun w _ => run_slW Try.underlying26 s5 (by decide) rfl rfl w⟩) (by exact H.stP (by (repeat (first | exact List.Sublist.refl _ | apply List.Sublist.cons_cons | apply List.Sublist.cons)))) ?_; (conv => arg 6; simp only [Act.put, List.setIfInBounds_toArray, List.set_cons_succ, List.set_cons_zero]))
  (refine wpT_free rfl rfl (.inl ⟨rfl, fun w hw => by obtain ⟨⟨_, _, M⟩, _⟩ := hw; exact run_cvKeyP Try.underlying37 Try.underlying5 Try.underlying9 rfl rfl M (by (repeat (first | exact List.mem_cons_self | refine List.mem_cons_of_mem _ ?_))) HA.out.1⟩) (by exact H.stP (by (repeat (first | exact List.Sublist.refl _ | apply List.Sublist.cons_cons | apply List.Sublist.cons)))) ?_; (conv => arg 6; simp only [Act.put, List.setIfInBounds_toArray, List.set_cons_succ, List.set_cons_zero]))
  (refine wpT_free rfl rfl (.inl ⟨rfl, fun w hw => by obtain ⟨⟨_, _, M⟩, _⟩ := hw; exact run_ldrowN (xs := ka) Try.underlying26 s26 rfl rfl rfl M (by (repeat (first | exact List.mem_cons_self | refine List.mem_cons_of_mem _ ?_))) HA.out.1⟩) (by exact H.stP (by (repeat (first | exact List.Sublist.refl _ | apply List.Sublist.cons_cons | apply List.Sublist.cons)))) ?_; (conv => arg 6; simp only [Act.put, List.setIfInBounds_toArray, List.set_cons_succ, List.set_cons_zero]))
  refine wpT_op rfl ?_
  go_wp2_with (go_at_call 46; refine (MarkN g HA.out _).mono ?_; rintro e wn ⟨rfl, M⟩; replace H := H.call0 (ok3 _ _ _ _ _ _) M; clear M)
  refine PlanTQ.mk (by exact H.stP (by (repeat (first | exact List.Sublist.refl _ | apply List.Sublist.cons_cons | apply List.Sublist.cons)))) ?_
  (refine wpT_free rfl rfl (.inl ⟨rfl, fun w _ => run_neq26b false rfl rfl rfl HA.out.1 HA.out.1 (by simp) w⟩) (by exact H.stP (by (repeat (first | exact List.Sublist.refl _ | apply List.Sublist.cons_cons | apply List.Sublist.cons)))) ?_; (conv => arg 6; simp only [Act.put, List.setIfInBounds_toArray, List.set_cons_succ, List.set_cons_zero]))
  (refine wpT_free rfl rfl (.inl ⟨rfl, fun w _ => by go_simp; rfl⟩) (by exact H.stP (by (repeat (first | exact List.Sublist.refl _ | apply List.Sublist.cons_cons | apply List.Sublist.cons)))) ?_; (conv => arg 6; simp only [Act.put, List.setIfInBounds_toArray, List.set_cons_succ, List.set_cons_zero]))
  (refine wpT_free rfl rfl (.inl ⟨rfl, fun w _ => by go_simp; rfl⟩) (by exact H.stP (by (repeat (first | exact List.Sublist.refl _ | apply List.Sublist.cons_cons | apply List.Sublist.cons)))) ?_; (conv => arg 6; simp only [Act.put, List.setIfInBounds_toArray, List.set_cons_succ, List.set_cons_zero]))
  (refine wpT_free rfl rfl (.inl ⟨rfl, fun w _ => by go_simp; rfl⟩) (by exact H.stP (by (repeat (first | exact List.Sublist.refl _ | apply List.Sublist.cons_cons | apply List.Sublist.cons)))) ?_; (conv => arg 6; simp only [Act.put, List.setIfInBounds_toArray, List.set_cons_succ, List.set_cons_zero]))
  (refine wpT_free rfl rfl (.inl ⟨rfl, fun w _ => by go_simp; rfl⟩) (by exact H.stP (by (repeat (first | exact List.Sublist.refl _ | apply List.Sublist.cons_cons | apply List.Sublist.cons)))) ?_; (conv => arg 6; simp only [Act.put, List.setIfInBounds_toArray, List.set_cons_succ, List.set_cons_zero]))
  (refine wpT_free rfl rfl (.inl ⟨rfl, fun w hw => run_ld1 Try.underlying23 rfl rfl rfl hw.2.1⟩) (by exact H.stP (by (repeat (first | exact List.Sublist.refl _ | apply List.Sublist.cons_cons | apply List.Sublist.cons)))) ?_; (conv => arg 6; simp only [Act.put, List.setIfInBounds_toArray, List.set_cons_succ, List.set_cons_zero]))
  (refine wpT_free rfl rfl (.inl ⟨rfl, fun w _ => by go_simp; rfl⟩) (by exact H.stP (by (repeat (first | exact List.Sublist.refl _ | apply List.Sublist.cons_cons | apply List.Sublist.cons)))) ?_; (conv => arg 6; simp only [Act.put, List.setIfInBounds_toArray, List.set_cons_succ, List.set_cons_zero]))
  (refine wpT_free rfl rfl (.inl ⟨rfl, fun w hw => run_ld1 Try.underlying9 rfl rfl rfl (st_cell hw (i := 2) (by (repeat (first | exact List.mem_cons_self | refine List.mem_cons_of_mem _ ?_))) rfl)⟩) (by exact H.stP (by (repeat (first | exact List.Sublist.refl _ | apply List.Sublist.cons_cons | apply List.Sublist.cons)))) ?_; (conv => arg 6; simp only [Act.put, List.setIfInBounds_toArray, List.set_cons_succ, List.set_cons_zero]))
  (refine wpT_free rfl rfl (.inl ⟨rfl, fun w _ => by go_simp; rfl⟩) (by exact H.stP (by (repeat (first | exact List.Sublist.refl _ | apply List.Sublist.cons_cons | apply List.Sublist.cons)))) ?_; (conv => arg 6; simp only [Act.put, List.setIfInBounds_toArray, List.set_cons_succ, List.set_cons_zero]))
  (refine wpT_free rfl rfl (.inl ⟨rfl, fun w _ => by go_simp; rfl⟩) (by exact H.stP (by (repeat (first | exact List.Sublist.refl _ | apply List.Sublist.cons_cons | apply List.Sublist.cons)))) ?_; (conv => arg 6; simp only [Act.put, List.setIfInBounds_toArray, List.set_cons_succ, List.set_cons_zero]))
  (refine wpT_free rfl rfl (.inl ⟨rfl, fun w _ => by go_simp; rfl⟩) (by exact H.stP (by (repeat (first | exact List.Sublist.refl _ | apply List.Sublist.cons_cons | apply List.Sublist.cons)))) ?_; (conv => arg 6; simp only [Act.put, List.setIfInBounds_toArray, List.set_cons_succ, List.set_cons_zero]))
  (refine wpT_free rfl rfl (.inl ⟨rfl, fun w hw => run_ld1 Try.underlying44 rfl rfl rfl hw.2.2⟩) (by exact H.stP (by (repeat (first | exact List.Sublist.refl _ | apply List.Sublist.cons_cons | apply List.Sublist.cons)))) ?_; (conv => arg 6; simp only [Act.put, List.setIfInBounds_toArray, List.set_cons_succ, List.set_cons_zero]))
  (refine wpT_free rfl rfl (.inl ⟨rfl, fun w _ => by go_simp; rfl⟩) (by exact H.stP (by (repeat (first | exact List.Sublist.refl _ | apply List.Sublist.cons_cons | apply List.Sublist.cons)))) ?_; (conv => arg 6; simp only [Act.put, List.setIfInBounds_toArray, List.set_cons_succ, List.set_cons_zero]))
  (refine wpT_free rfl rfl (.inl ⟨rfl, fun w hw => run_ld1 Try.underlying9 rfl rfl rfl (st_cell hw (i := 2) (by (repeat (first | exact List.mem_cons_self | refine List.mem_cons_of_mem _ ?_))) rfl)⟩) (by exact H.stP (by (repeat (first | exact List.Sublist.refl _ | apply List.Sublist.cons_cons | apply List.Sublist.cons)))) ?_; (conv => arg 6; simp only [Act.put, List.setIfInBounds_toArray, List.set_cons_succ, List.set_cons_zero]))
  refine wpT_op rfl ?_
  go_wp2_with (first | (apply wpList_want; (· rfl)) | (go_at_call 46; refine (MarkP (ok2 _ _ _ _ _) H (by omega) htl).mono ?_; clear H; rintro e wn ⟨rfl, H⟩; rw [HT1.out] at H))
  refine PlanTQ.mk (by exact H.stP (by (repeat (first | exact List.Sublist.refl _ | apply List.Sublist.cons_cons | apply List.Sublist.cons)))) ?_
  refine wpT_op rfl ?_
  go_wp2_with (first | (apply wpList_want; (· rfl)) | (go_at_call 52; refine (MarkM (tabR_ok _ _) (playR_ok _ _ _ _) H (by omega) htl).mono ?_; clear H; rintro e wn ⟨rfl, H⟩; rw [HT1.out] at H))
  refine PlanTQ.mk (by exact H.stP (by (repeat (first | exact List.Sublist.refl _ | apply List.Sublist.cons_cons | apply List.Sublist.cons)))) ?_
  (refine wpT_free rfl rfl (.inl ⟨rfl, fun w _ => run_neq26b false rfl rfl rfl HMK.out.1 HMK.out.1 (by simp) w⟩) (by exact H.stP (by (repeat (first | exact List.Sublist.refl _ | apply List.Sublist.cons_cons | apply List.Sublist.cons)))) ?_; (conv => arg 6; simp only [Act.put, List.setIfInBounds_toArray, List.set_cons_succ, List.set_cons_zero]))
  (refine wpT_free rfl rfl (.inl ⟨rfl, fun w _ => by go_simp; rfl⟩) (by exact H.stP (by (repeat (first | exact List.Sublist.refl _ | apply List.Sublist.cons_cons | apply List.Sublist.cons)))) ?_; (conv => arg 6; simp only [Act.put, List.setIfInBounds_toArray, List.set_cons_succ, List.set_cons_zero]))
  refine wpT_done ?_
  rw [HQ.out]
  have c0 := H.reb.cell (i := 0) (g := b3) (v := .int .i64 c.kind) (by (repeat (first | exact List.mem_cons_self | refine List.mem_cons_of_mem _ ?_))) rfl
  go_wp2_with (first | (refine wpF_al 7 H (ok3 _ _ _ _ _ _) z26 rfl rfl rfl (fun b7 wn Hn => ?_); clear H; rename TF _ _ _ _ _ => H; clear c0; have c0 := H.reb.cell (i := 0) (g := b3) (v := .int .i64 c.kind) (by (repeat (first | exact List.mem_cons_self | refine List.mem_cons_of_mem _ ?_))) rfl; (conv => arg 5; simp only [Act.put, List.setIfInBounds_toArray, List.set_cons_succ, List.set_cons_zero])) | (refine wpF_al 8 H (ok3 _ _ _ _ _ _) z26 rfl rfl rfl (fun b8 wn Hn => ?_); clear H; rename TF _ _ _ _ _ => H; clear c0; have c0 := H.reb.cell (i := 0) (g := b3) (v := .int .i64 c.kind) (by (repeat (first | exact List.mem_cons_self | refine List.mem_cons_of_mem _ ?_))) rfl; (conv => arg 5; simp only [Act.put, List.setIfInBounds_toArray, List.set_cons_succ, List.set_cons_zero])) | (refine wpList_ldagg 185 rfl Try.underlying66 rfl rfl rfl rfl (H.cellC (by (repeat (first | exact List.mem_cons_self | refine List.mem_cons_of_mem _ ?_)))) (sz66 HRAW.out) ?_; (conv => arg 5; simp only [Act.put, List.setIfInBounds_toArray, List.set_cons_succ, List.set_cons_zero])) | (go_at_call 55; refine (open55T hs.out H (hs.out.pi.mid HP1.out) hn60).mono ?_; clear H c0; rintro e wn ⟨ks, rfl, hk10, H⟩))
  go_ret
  exact ⟨ts1, keys ++ ks, rfl, hs.out.pi.nextN HP1.out hk10, H.sub (List.nil_sublist _)⟩
theorem do30 {K : Nat → Prop} {w : World} {p g m n : Nat} {ts : List Tm} {keys : List (List Int)} {c : Sp} {I : Option Addr} {ic : Nat} (h : DoP K w p g m n ts keys c I ic) (hn : n ≤ 60) :
    Calls Try.prog 30 #[.pointer (some ⟨p, 0, none⟩), .agg (spCells c I ic).toArray] w (DoR K p g m n w) := by
  by_cases ht : c.text.size ≤ 300
  · by_cases h1 : c.kind.tmod 8 = 1
    · exact do30_1 h ht h1
    · by_cases h2 : c.kind.tmod 8 = 2
      · exact do30_2 h ht h2
      · by_cases h3 : c.kind.tmod 8 = 3
        · exact do30_3 h ht h3
        · by_cases h4 : c.kind.tmod 8 = 4
          · exact do30_4 h ht h4
          · by_cases h5 : c.kind.tmod 8 = 5
            · exact do30_5 h ht h5
            · by_cases h6 : c.kind.tmod 8 = 6
              · exact do30_6 h ht h6 hn
              · by_cases h7 : c.kind.tmod 8 = 7
                · exact do30_7 h ht h7
                · exact do30_0 h ht h1 h2 h3 h4 h5 h6 h7
  · exact do30_t h (by omega)
end Go.Proofs.Ytcapfnbmmdbcoaa
namespace Go.Proofs.Ytcapfnbmmdbcoaa
open Go.RowKit Go.ChangeShapes Go.WideShapes Go.Deep
/-! ### Steps among the arguments -/
def SpsR (w : World) (A : Option Addr) (cs : List Sp) : Prop :=
  ∀ (i : Nat) (c : Sp), cs[i]? = some c → ∃ b off I ic, A = some ⟨b, off, none⟩ ∧ (∀ (j : Nat) (v : Value), (spCells c I ic)[j]? = some v → w.cell? ⟨b, off + i * 36 + j, none⟩ = some v) ∧ RowC w I (nums .i64 c.keys) ∧ KeyOk c.raw
set_option maxRecDepth 100000 in
theorem f66 : ∃ fs : Array Field, Try.prog.underlying 66 = some (.struct fs) ∧ fs.toList.map (fun f => (f.offset, f.type)) = [(0, 3), (1, 3), (2, 9), (3, 26), (35, 53)] := ⟨_, Try.underlying66, by kernel_rfl⟩
set_option maxRecDepth 100000 in
theorem cells_of66 : Try.prog.cellsOf 66 = 36 ∧ Try.prog.cellsOf 3 = 1 ∧ Try.prog.cellsOf 9 = 1 ∧ Try.prog.cellsOf 53 = 1 ∧ Try.prog.cellsOf 26 = 32 ∧ Try.prog.cellsOf 5 = 1 := ⟨by kernel_rfl, by kernel_rfl, by kernel_rfl, by kernel_rfl, by kernel_rfl, by kernel_rfl⟩
set_option maxRecDepth 100000 in
theorem open_sp {H : Type} {enc : TypeId × Value → H} {W : World} {base fuel : Nat} {spare : Nat → Bool} {held : Bool} {cs : List Value} {x : DataW H × List MemPlace} (h : DataW.trod enc Try.prog W base spare held fuel 66 cs = some x) :
    ∃ (c : Sp) (I : Option Addr) (ic : Nat), cs = spCells c I ic ∧ RowC W I (nums .i64 c.keys) ∧ KeyOk c.raw ∧ c.text.size ≤ maxLen ∧ c.keys.length ≤ maxLen := by
  obtain ⟨fs, hu, hfs⟩ := f66
  obtain ⟨c66, c3, c9, c53, c26, c5⟩ := cells_of66
  obtain ⟨ys, n', hn', hy, hlen, hyl, hf⟩ := DataW.trod_struct hu h
  rw [c66] at hlen
  have hfl : fs.size = 5 := by
    have := congrArg List.length hfs
    simpa using this
  have hat : ∀ j : Nat, (fs.toList.map (fun f => (f.offset, f.type)))[j]? = (fs[j]?).map (fun f => (f.offset, f.type)) := fun j => by simp
  rw [hfs] at hat
  have key : ∀ (j o t : Nat), ([(0, 3), (1, 3), (2, 9), (3, 26), (35, 53)] : List (Nat × Nat))[j]? = some (o, t) → ∃ y, DataW.trod enc Try.prog W base spare held n' t ((cs.drop o).take (Try.prog.cellsOf t)) = some y := fun j o t hj => by
    have h0 := hat j
    rw [hj] at h0
    obtain ⟨f, hfj, he⟩ := Option.map_eq_some_iff.1 h0.symm
    injection he with he1 he2
    have h1 := hf j f hfj
    have hjl : j < fs.size := (Array.getElem?_eq_some_iff.1 hfj).1
    rw [he1, he2, List.getElem?_eq_getElem (by omega)] at h1
    exact ⟨_, h1⟩
  obtain ⟨y0, t0⟩ := key 0 0 3 rfl
  obtain ⟨y1, t1⟩ := key 1 1 3 rfl
  obtain ⟨y2, t2⟩ := key 2 2 9 rfl
  obtain ⟨y3, t3⟩ := key 3 3 26 rfl
  obtain ⟨y4, t4⟩ := key 4 35 53 rfl
  rw [c3] at t0 t1
  rw [c9] at t2
  rw [c53] at t4
  rw [c26] at t3
  obtain ⟨kind, e0, _, _⟩ := DataW.trod_int Try.underlying3 t0
  obtain ⟨n, e1, _, _⟩ := DataW.trod_int Try.underlying3 t1
  obtain ⟨s, e2, _, hs⟩ := DataW.trod_string Try.underlying9 t2
  obtain ⟨I, ic, keys, e4, hr, hkl, _⟩ := open_rowC Try.underlying53 Try.underlying3 c3 t4
  obtain ⟨raw, e3, hrl, hrw⟩ := open_arr Try.underlying26 Try.underlying5 c26 c5 t3
  refine ⟨⟨kind, n, s, raw, keys⟩, I, ic, ?_, hr, ⟨hrl, fun z hz => wf_u8 (hrw z hz)⟩, hs, hkl⟩
  have e5 : cs = (cs.drop 0).take 1 ++ ((cs.drop 1).take 1 ++ ((cs.drop 2).take 1 ++ ((cs.drop 3).take 32 ++ (cs.drop 35).take 1))) := by
    have h4 : (cs.drop 35).take 1 = cs.drop 35 := List.take_of_length_le (by rw [List.length_drop]; omega)
    have st : ∀ j k, (cs.drop j).take k ++ cs.drop (j + k) = cs.drop j := fun j k => by
      have := List.take_append_drop k (cs.drop j)
      rwa [List.drop_drop] at this
    rw [h4, st 3 32, st 2 1, st 1 1, st 0 1, List.drop_zero]
  rw [e5, e0, e1, e2, e3, e4]
  simp [spCells, nums]
set_option maxRecDepth 100000 in
/-- A slice of steps among the arguments. -/
theorem opened_sps {H : Type} {enc : TypeId × Value → H} {W : World} {base : Nat} {v : Value} {d : DataW H} {p : List MemPlace} (hv : Value.okWide Try.prog W Reach.any base 61 v) (h : DataW.Trod enc Try.prog W 0 (fun _ => true) true 61 v d p) :
    ∃ (A : Option Addr) (cap : Nat) (cs : List Sp), v = .slice A cs.length cap ∧ SpsR W A cs ∧ cs.length ≤ maxLen := by
  obtain ⟨a0, len0, cap0, rfl⟩ := Go.WideShapes.okWide_slice Try.underlying61 hv
  obtain ⟨fuel, hf⟩ := h
  rcases open_slice Try.underlying61 hf with ⟨hcs, hx⟩ | ⟨ad, len, cap, m, n, D, Pl, hcs, hb, hl, hm, hmm, hx, hi⟩
  · have hcs' : Value.slice a0 len0 cap0 = .slice none 0 0 := by simpa [Value.cells] using hcs
    injection hcs' with h1 h2 h3
    subst h1 h2 h3
    exact ⟨none, 0, [], rfl, fun i s h => by simp at h, by decide⟩
  · have hcs' : Value.slice a0 len0 cap0 = .slice (some ad) len cap := by simpa [Value.cells] using hcs
    injection hcs' with h1 h2 h3
    subst h1 h2 h3
    rw [if_pos rfl] at hmm
    have key : ∀ i, i < len0 → ∃ c : Sp, ∃ b off I ic, ad = ⟨b, off, none⟩ ∧ (∀ (j : Nat) (v : Value), (spCells c I ic)[j]? = some v → W.cell? ⟨b, off + i * 36 + j, none⟩ = some v) ∧ RowC W I (nums .i64 c.keys) ∧ KeyOk c.raw := by
      intro i hil
      obtain ⟨cs', hc, ht⟩ := hi i (by omega)
      obtain ⟨c, I, ic, rfl, hr, hk, hts, hkl⟩ := open_sp ht
      rw [cells_of66.1] at hc
      obtain ⟨_, hcl, hat⟩ := World.cells?_some hc
      obtain ⟨b, off, spot⟩ := ad
      have hspot : spot = none := by
        obtain ⟨cs0, hc0, ht0⟩ := hi 0 (by omega)
        obtain ⟨c0, I0, ic0, rfl, _⟩ := open_sp ht0
        rw [cells_of66.1] at hc0
        obtain ⟨_, _, hat0⟩ := World.cells?_some hc0
        have h0 := hat0 0 (by decide)
        have : (spCells c0 I0 ic0)[0]? = some (.int .i64 c0.kind) := rfl
        rw [this] at h0
        simpa [Addr.add] using World.cell?_spot h0
      subst hspot
      refine ⟨c, b, off, I, ic, rfl, fun j v hv => ?_, hr, hk⟩
      have hj := (List.getElem?_eq_some_iff.1 hv).1
      have h1 := hat j (by omega)
      rw [Go.Deep.add_add, Addr.add_lit, ← Nat.add_assoc, hv] at h1
      exact h1
    obtain ⟨cs, hal, hap⟩ := list_of len0 key
    refine ⟨some ad, cap0, cs, by rw [hal], fun j c hj => ?_, by rw [hal]; omega⟩
    obtain ⟨b, off, I, ic, rfl, h1, h2, h3⟩ := hap j c hj
    exact ⟨b, off, I, ic, rfl, h1, h2, h3⟩
end Go.Proofs.Ytcapfnbmmdbcoaa
namespace Go.Proofs.Ytcapfnbmmdbcoaa
open Go.RowKit
/-! ### A play begins -/
def k1K : List Int := 1 :: List.replicate 31 0
theorem k1_ok : KeyOk k1K := ⟨by decide, fun x hx => by simp only [k1K, List.mem_cons, List.mem_replicate] at hx; rcases hx with rfl | ⟨_, rfl⟩ <;> exact ⟨by decide, by decide⟩⟩
theorem b26k1 : ∀ w : World, (Instr.build 26 #[(0, .int .u8 1)]).run Try.prog w = .ok (.agg (nums .u8 k1K).toArray) w := fun w => by kernel_rfl
theorem b70 (g m b : Nat) : ∀ w : World, (Instr.build 70 #[(0, .pointer (some ⟨g, 0, none⟩)), (1, .pointer (some ⟨m, 0, none⟩)), (2, .slice (some ⟨b, 0, none⟩) 2 2)]).run Try.prog w = .ok (.agg #[.pointer (some ⟨g, 0, none⟩), .pointer (some ⟨m, 0, none⟩), .slice (some ⟨b, 0, none⟩) 2 2]) w := fun w => by kernel_rfl
theorem TF.playNew {K0 : Nat → Prop} {P : Res} {w0 w : World} {L : List Item} {p g m b : Nat} {k l : List Int} (hP : Ok P) (h : TF K0 P w0 w (.blk p (cellsO 70 [.pointer (some ⟨g, 0, none⟩), .pointer (some ⟨m, 0, none⟩), .slice (some ⟨b, 0, none⟩) 2 2]) :: .blk b (rowO .u8 26 [k, l].flatten) :: L)) (hk : KeyOk k) (hl : KeyOk l) : TF K0 (starR P (playR p g m [k, l])) w0 w L := by
  have hfl : (nums .u8 [k, l].flatten).length = 2 * 32 := by rw [nums_length]; simp [hk.1, hl.1]
  have h2 : w.heap[b]? = some (rowO .u8 26 [k, l].flatten) := h.holds _ (List.mem_cons_of_mem _ List.mem_cons_self)
  refine TF.absorb (L2 := [.blk p (cellsO 70 [.pointer (some ⟨g, 0, none⟩), .pointer (some ⟨m, 0, none⟩), .slice (some ⟨b, 0, none⟩) 2 2]), .blk b (rowO .u8 26 [k, l].flatten)]) h ⟨some ⟨b, 0, none⟩, 2, ?_, ?_, ?_, ?_, fun b' hb => ?_⟩ hP
  · exact h.holds _ List.mem_cons_self
  · refine ⟨hfl, .inr ⟨b, 2, (nums .u8 [k, l].flatten).toArray, rfl, Nat.zero_le _, h2, Nat.le_refl _, by decide, by rw [List.size_toArray, hfl], ?_⟩⟩
    exact List.take_of_length_le (by rw [hfl]; exact Nat.le_refl _)
  · intro q hq
    simp only [List.mem_cons, List.not_mem_nil, or_false] at hq
    rcases hq with rfl | rfl
    · exact hk
    · exact hl
  · simp [blks, Item.block]
  · simp only [blkA, Option.mem_toList, Option.map_eq_some_iff] at hb
    obtain ⟨ad, h1, rfl⟩ := hb
    injection h1 with h1
    subst h1
    simp [blks, Item.block]
def BeginR (w : World) (e : Ending) (w' : World) : Prop := ∃ p g m, e = .returned (.pointer (some ⟨p, 0, none⟩)) ∧ TF (fun _ => False) (playS p g m [] [zK, k1K]) w w' []
theorem starR_assocF {K0 : Nat → Prop} {P Q R : Res} {w0 w : World} {L : List Item} (h : TF K0 (starR (starR P Q) R) w0 w L) : TF K0 (starR P (starR Q R)) w0 w L := h.assoc
set_option maxRecDepth 100000 in
set_option maxHeartbeats 2000000 in
theorem begin29 (w : World) : Calls Try.prog 29 #[] w (BeginR w) := by
  go_enter Try.func29, Try.ntmps29
  go_wp2_with (first
    | (go_at_call 11; refine (New11T w).mono ?_; rintro e w1 ⟨g, rfl, H⟩)
    | (refine wpList_bld (vs := #[]) b48 rfl rfl rfl ?_; (conv => arg 5; simp only [Act.put, List.setIfInBounds_toArray, List.set_cons_succ, List.set_cons_zero]))
    | (refine wpF_bxC (cs := [.slice none 0 0, .slice none 0 0]) 3 H (tabR_ok _ _) rfl rfl rfl rfl (fun m wn Hn => ?_); clear H; have H := TF.refNew (tabR_ok _ _) Hn; clear Hn; (conv => arg 5; simp only [Act.put, List.setIfInBounds_toArray, List.set_cons_succ, List.set_cons_zero]))
    | (refine wpList_bld (vs := #[]) b26z rfl rfl rfl ?_; (conv => arg 5; simp only [Act.put, List.setIfInBounds_toArray, List.set_cons_succ, List.set_cons_zero]))
    | (refine wpList_bld (vs := #[(0, .int .u8 1)]) b26k1 rfl rfl rfl ?_; (conv => arg 5; simp only [Act.put, List.setIfInBounds_toArray, List.set_cons_succ, List.set_cons_zero]))
    | (refine wpF_bsK2 6 H (sec_ok g m _ _) rfl rfl rfl rfl rfl zK_ok k1_ok (fun b6 wn Hn => ?_); clear H; rename TF _ _ _ _ _ => H; (conv => arg 5; simp only [Act.put, List.setIfInBounds_toArray, List.set_cons_succ, List.set_cons_zero]))
    | (refine wpList_bld (vs := #[(0, .pointer (some ⟨g, 0, none⟩)), (1, .pointer (some ⟨m, 0, none⟩)), (2, .slice (some ⟨b6, 0, none⟩) 2 2)]) (b70 g m b6) rfl rfl rfl ?_; (conv => arg 5; simp only [Act.put, List.setIfInBounds_toArray, List.set_cons_succ, List.set_cons_zero]))
    | (refine wpF_bxC (cs := [.pointer (some ⟨g, 0, none⟩), .pointer (some ⟨m, 0, none⟩), .slice (some ⟨b6, 0, none⟩) 2 2]) 8 H (sec_ok g m _ _) rfl rfl rfl rfl (fun p wn Hn => ?_); clear H; rename TF _ _ _ _ _ => H; (conv => arg 5; simp only [Act.put, List.setIfInBounds_toArray, List.set_cons_succ, List.set_cons_zero])))
  go_ret
  exact ⟨p, g, m, rfl, (TF.playNew (sec_ok g m _ _) H zK_ok k1_ok).assoc⟩
theorem begin29T {w0 w : World} (M : Mem w0 [] w []) : Calls Try.prog 29 #[] w (BeginR w0) :=
  (begin29 w).mono fun e w' ⟨p, g, m, he, F⟩ => ⟨p, g, m, he, TF.pre M F⟩
theorem PI.begin : PI 0 [] [zK, k1K] := ⟨by simp, by simp, by simp, by simp, by simp⟩
theorem do30T {w w1 : World} {L : List Item} {p g m n : Nat} {ts : List Tm} {keys : List (List Int)} {c : Sp} {I : Option Addr} {ic : Nat} (H : TF (fun _ => False) (playS p g m ts keys) w w1 L) (pi : PI n ts keys) (hn : n ≤ 60) (hraw : KeyOk c.raw) (hr : RowC w I (nums .i64 c.keys)) :
    Calls Try.prog 30 #[.pointer (some ⟨p, 0, none⟩), .agg (spCells c I ic).toArray] w1 fun e w' => ∃ ts' keys', e = .returned (.bool true) ∧ PI (n + 1) ts' keys' ∧ TF (fun _ => False) (playS p g m ts' keys') w w' L := by
  refine (H.go (Post := fun K => DoR K p g m n w1) fun K hK hlt hnew _ => do30 ⟨hK, hlt, pi, by omega, hraw, H.rowC hr (fun _ _ _ h => h), fun hne ad hI hk => ?_⟩ hn).mono fun e w' ⟨K, ⟨ts', keys', he, hp, F⟩, hf⟩ => ⟨ts', keys', he, hp, hf _ _ F⟩
  have h1 := row_lt hr hne hI
  rcases hnew _ hk with h | h
  · exact h
  · omega
set_option maxRecDepth 100000 in
set_option maxHeartbeats 4000000 in
theorem plays6 (A : Option Addr) (d : Nat) (cs : List Sp) (w : World) (h : SpsR w A cs) : Calls Try.prog 6 #[.slice A cs.length d] w (BoolR true w) := by
  have M0 := Mem.start w
  have HCS := hid h
  clear h
  go_enter Try.func6, Try.ntmps6
  go_wp2_with (first
    | (go_at_call 10; refine (alive10 _).mono ?_; rintro e w1 ⟨rfl, M1⟩; have M := M0.call M1.below; clear M0 M1)
    | (go_at_call 29; refine (begin29T M).mono ?_; rintro e w2 ⟨p, g, m, rfl, H⟩; clear M))
  go_loopw [4] (fun x wr => ∃ (i : Nat) (ts : List Tm) (keys : List (List Int)), i ≤ cs.length ∧ i ≤ 60 ∧ x = .int .i64 i ∧ PI i ts keys ∧ TF (fun _ => False) (playS p g m ts keys) w wr []) (fun x _ => 60 - (intOf x).toNat)
  case atStart => exact ⟨0, _, _, by omega, by omega, rfl, PI.begin, H⟩
  case round =>
    clear H
    obtain ⟨i, ts, keys, hi, hi60, rfl, hpi, H⟩ := hrel
    have HPI := hid hpi
    clear hpi
    by_cases hlt : i < cs.length
    · have hltI : (i : Int) < (cs.length : Int) := by omega
      by_cases h6 : i < 60
      · have h6I : (i : Int) < 60 := by omega
        obtain ⟨c, hce⟩ : ∃ c, cs[i]? = some c := ⟨cs[i], List.getElem?_eq_getElem hlt⟩
        obtain ⟨b, off, I, ic, hA, hc, hr, hraw⟩ := HCS.out i c hce
        subst hA
        have HCC := hid (fun j v hv => H.cellO (hc j v hv) id)
        have HR := hid hr
        have HRAW := hid hraw
        clear hce hc hr hraw
        go_wp2_with (first
          | (refine wpList_ldagg 22 rfl Try.underlying66 rfl rfl rfl rfl HCC.out (sz66 HRAW.out) ?_; (conv => arg 5; simp only [Act.put, List.setIfInBounds_toArray, List.set_cons_succ, List.set_cons_zero]))
          | (go_at_call 30; refine (do30T H HPI.out hi60 HRAW.out HR.out).mono ?_; clear H HCC; rintro e wn ⟨ts', keys', rfl, hp, H⟩))
        go_round
        case rel => exact ⟨i + 1, ts', keys', by omega, by omega, by go_num, hp, H⟩
        case measure => simp [intOf]; omega
      · obtain rfl : i = 60 := by omega
        have h6I : (60 : Int) < (cs.length : Int) := by omega
        go_wp2_with (go_at_call 10; refine (alive10 _).mono ?_; rintro e wn ⟨rfl, M1⟩)
        go_ret
        exact ⟨rfl, (H.toMem.call M1.below).sub (List.nil_sublist _)⟩
    · obtain rfl : i = cs.length := by omega
      go_wp2_with (go_at_call 10; refine (alive10 _).mono ?_; rintro e wn ⟨rfl, M1⟩)
      go_ret
      exact ⟨rfl, (H.toMem.call M1.below).sub (List.nil_sublist _)⟩
theorem TermPlays6 (A : Option Addr) (d : Nat) (cs : List Sp) (w : World) (h : SpsR w A cs) : Calls Try.prog 6 #[.slice A cs.length d] w fun e w' => e = .returned (.bool true) ∧ Below w.heap.size w w' :=
  (plays6 A d cs w h).mono fun e w' ⟨he, M⟩ => ⟨he, M.below⟩
end Go.Proofs.Ytcapfnbmmdbcoaa
