/- The keys that a frame shows, by the reference. -/
import Derived.Test.YtcapfnbmmdbcoaaJ2
set_option linter.unusedVariables false
set_option linter.unusedSimpArgs false
namespace Go.Proofs.Ytcapfnbmmdbcoaa
open Go.RowKit
theorem fr_of {f : Fr} {a : Fx} (h : FrOk f) {j : Nat} {v : Value} (hv : (nums .u8 f.of_)[j]? = some v) : (frCells f a)[7 + j]? = some v := by
  have := fr_op (a := a) h (op_of h hv)
  rwa [show 2 + (5 + j) = 7 + j from by omega] at this
theorem fr_check {f : Fr} {a : Fx} (h : FrOk f) {j : Nat} {v : Value} (hv : (nums .u8 f.check)[j]? = some v) : (frCells f a)[39 + j]? = some v := by
  have := fr_op (a := a) h (op_check h hv)
  rwa [show 2 + (37 + j) = 39 + j from by omega] at this
theorem fr_par {f : Fr} {a : Fx} (h : FrOk f) : (frCells f a)[4]? = some (.slice a.ip f.parents.length a.cp) := fr_op h (j := 2) rfl
theorem fr_okind {f : Fr} {a : Fx} (h : FrOk f) : (frCells f a)[5]? = some (.int .i64 f.okind) := fr_op h (j := 3) rfl
theorem fr_text {f : Fr} {a : Fx} (h : FrOk f) : (frCells f a)[71]? = some (.string f.text) := fr_op h (j := 69) (op_text h)
theorem fr_box {f : Fr} {a : Fx} (h : FrOk f) : (frCells f a)[72]? = some (.slice a.ib f.boxes.length a.cb) := fr_op h (j := 70) (op_box h)
theorem len_two (l : List (List Int)) (k q : List Int) : l.length + [k, q].length = (l ++ [k, q]).length := List.length_append.symm
set_option maxRecDepth 100000 in
set_option maxHeartbeats 8000000 in
theorem Keys35 {K : Nat → Prop} {w : World} {m : Nat} {ts : List Tm} {f : Fr} {a : Fx} (res : refR m ts K w) (lt : ∀ b, K b → b < w.heap.size) (hok : FrOk f) (hr : FrR w f a) (hout : FrO K f a) (hw : ∀ t ∈ ts, TmW t) (hsz : FrS f) (htl : ts.length ≤ 800000) :
    Calls Try.prog 35 #[.pointer (some ⟨m, 0, none⟩), .agg (frCells f a).toArray] w (KysR K (refR m (frT ts f)) w (frK ts f)) := by
  have H := TF.start res lt
  have HO := hid hok
  have HR := hid hr
  have HU := hid hout
  have HS := hid hsz
  have HF := fun i hi => hid (FI.frB (ts := ts) hok hw i hi)
  have hpl := hsz.par
  have hbl := hsz.box
  have hil := hsz.ids
  have htx := hsz.text
  clear res lt hok hr hout hsz hw
  go_enter Try.func35, Try.ntmps35
  go_upto_if 24 with (first | (refine wpF_bxC (cs := frCells f a) 3 H (refR_ok _ _) rfl rfl rfl rfl (fun b3 wn Hn => ?_); clear H; have H := Hn.step (refR_ok _ _) (Hn.reb.nil 26 32); clear Hn; have c4 := H.reb.cell (i := 4) (g := b3) (v := .slice a.ip f.parents.length a.cp) (by (repeat (first | exact List.mem_cons_self | refine List.mem_cons_of_mem _ ?_))) (fr_par HO.out); (conv => arg 5; simp only [Act.put, List.setIfInBounds_toArray, List.set_cons_succ, List.set_cons_zero])) | (obtain ⟨t2, ht2⟩ := (H.rowC HR.out.par HU.out.par).toT; refine wpF_appK (ks := []) (qs := f.parents) 11 H (refR_ok _ _) rfl rfl rfl rfl rfl (fun A' cap' => Swap.head) ht2 HO.out.par (by omega) (fun A5 c5 wn Hn => ?_); clear ht2 c4; clear H; rename TF _ _ _ _ _ => H; simp only [Nat.zero_add, List.nil_append] at H ⊢; (conv => arg 5; simp only [Act.put, List.setIfInBounds_toArray, List.set_cons_succ, List.set_cons_zero])) | (refine wpList_ldagg (off := 7) 15 rfl Try.underlying26 rfl rfl rfl rfl (cs := nums .u8 f.of_) (fun j v hv => H.reb.cell (by (repeat (first | exact List.mem_cons_self | refine List.mem_cons_of_mem _ ?_))) (fr_of HO.out hv)) (s26k HO.out.of_) ?_; (conv => arg 5; simp only [Act.put, List.setIfInBounds_toArray, List.set_cons_succ, List.set_cons_zero])) | (refine wpList_ldagg (off := 39) 18 rfl Try.underlying26 rfl rfl rfl rfl (cs := nums .u8 f.check) (fun j v hv => H.reb.cell (by (repeat (first | exact List.mem_cons_self | refine List.mem_cons_of_mem _ ?_))) (fr_check HO.out hv)) (s26k HO.out.check) ?_; (conv => arg 5; simp only [Act.put, List.setIfInBounds_toArray, List.set_cons_succ, List.set_cons_zero])) | (refine wpF_bsK2 19 H (refR_ok _ _) rfl rfl rfl rfl rfl HO.out.of_ HO.out.check (fun b19 wn Hn => ?_); clear H; rename TF _ _ _ _ _ => H; (conv => arg 5; simp only [Act.put, List.setIfInBounds_toArray, List.set_cons_succ, List.set_cons_zero])) | (refine wpF_appK (ks := f.parents) (qs := [f.of_, f.check]) 20 H (refR_ok _ _) rfl rfl rfl rfl rfl (fun A' cap' => by (repeat (first | exact Swap.head | apply Swap.tail))) (H.reb.blkT (by (repeat (first | exact List.mem_cons_self | refine List.mem_cons_of_mem _ ?_)))) (two_keys HO.out.of_ HO.out.check) (by simp only [List.length_cons, List.length_nil]; omega) (fun A c wn Hn => ?_); clear H; rename TF _ _ _ _ _ => H; rw [len_two] at H ⊢; obtain ⟨l0, hl0⟩ : ∃ l, l = f.parents ++ [f.of_, f.check] := ⟨_, rfl⟩; have hll : l0.length ≤ 32 := (by rw [hl0, List.length_append]; simp only [List.length_cons, List.length_nil]; omega); rw [← hl0] at H ⊢; have HL0 := hid hl0; clear hl0; have c5o := H.reb.cell (i := 5) (g := b3) (v := .int .i64 f.okind) (by (repeat (first | exact List.mem_cons_self | refine List.mem_cons_of_mem _ ?_))) (fr_okind HO.out); (conv => arg 5; simp only [Act.put, List.setIfInBounds_toArray, List.set_cons_succ, List.set_cons_zero])))
  clear c5o
  go_cut [5] from 21 (fun s5 wx => ∃ A c, s5 = .slice A (frS0 ts f).2.length c ∧ TF K (refR m (frS0 ts f).1) w wx [.vec A (frS0 ts f).2.length c 26 32 (nums .u8 (frS0 ts f).2.flatten), .blk b3 (cellsO 77 (frCells f a))])
  case first =>
    have c71 := H.reb.cell (i := 71) (g := b3) (v := .string f.text) (by (repeat (first | exact List.mem_cons_self | refine List.mem_cons_of_mem _ ?_))) (fr_text HO.out)
    by_cases h7 : f.okind = 7
    · have H7 := hid (show frS0 ts f = (markL ts f.text, l0 ++ [markN ts f.text]) from by rw [HL0.out]; exact frS0_7 h7)
      have h7I : f.okind = 7 := h7
      go_wp2_with (first | (go_at_call 52; refine (MarkQ H (by omega) (by omega)).mono ?_; clear H c71; rintro e wn ⟨rfl, H⟩) | (refine wpF_bsK1 31 H (refR_ok _ _) rfl rfl rfl rfl (markN_ok _ _) (fun b31 wn Hn => ?_); clear H; rename TF _ _ _ _ _ => H; (conv => arg 5; simp only [Act.put, List.setIfInBounds_toArray, List.set_cons_succ, List.set_cons_zero])) | (refine wpF_appK (ks := l0) (qs := [markN ts f.text]) 32 H (refR_ok _ _) rfl rfl rfl rfl rfl (fun A' cap' => by (repeat (first | exact Swap.head | apply Swap.tail))) (H.reb.blkT (by (repeat (first | exact List.mem_cons_self | refine List.mem_cons_of_mem _ ?_)))) (one_ok (markN_ok _ _)) (by simp only [List.length_singleton]; omega) (fun A6 c6 wn Hn => ?_); clear H; rename TF _ _ _ _ _ => H; (conv => arg 5; simp only [Act.put, List.setIfInBounds_toArray, List.set_cons_succ, List.set_cons_zero])))
      go_meet
      rw [H7.out]
      rw [len_one] at H ⊢
      exact ⟨A6, c6, rfl, H.sub (by (repeat (first | exact List.Sublist.refl _ | apply List.Sublist.cons_cons | apply List.Sublist.cons)))⟩
    · have H7 := hid (show frS0 ts f = (ts, l0) from by rw [HL0.out]; exact frS0_o h7)
      go_wp2_with fail
      go_meet
      rw [H7.out]
      exact ⟨A, c, rfl, H.sub (by (repeat (first | exact List.Sublist.refl _ | apply List.Sublist.cons_cons | apply List.Sublist.cons)))⟩
  case rest =>
    clear H
    obtain ⟨A, c, rfl, H⟩ := hcut
    go_wp2_with fail
    rw [← frB_0 ts f] at H ⊢
    go_loopw [5, 6] (fun o x wr => ∃ (i : Nat) (A : Option Addr) (c : Nat), i ≤ f.boxes.length ∧ x = .int .i64 i ∧ o = .slice A (frB ts f i).2.length c ∧ TF K (refR m (frB ts f i).1) w wr [.vec A (frB ts f i).2.length c 26 32 (nums .u8 (frB ts f i).2.flatten), .blk b3 (cellsO 77 (frCells f a))]) (fun _ x _ => f.boxes.length - (intOf x).toNat)
    case atStart => exact ⟨0, A, c, by omega, rfl, rfl, H⟩
    case round =>
      clear H
      obtain ⟨i, A, c, hi, rfl, rfl, H⟩ := hrel
      have hF := HF i hi
      have hFt := hF.out.tl
      have hFk := hF.out.kl
      have c72 := H.reb.cell (i := 72) (g := b3) (v := .slice a.ib f.boxes.length a.cb) (by (repeat (first | exact List.mem_cons_self | refine List.mem_cons_of_mem _ ?_))) (fr_box HO.out)
      by_cases hlt : i < f.boxes.length
      · have hltI : (i : Int) < (f.boxes.length : Int) := by omega
        obtain ⟨b, hbe⟩ : ∃ b, f.boxes[i]? = some b := ⟨_, List.getElem?_eq_getElem hlt⟩
        have hbm := List.mem_of_getElem? hbe
        have HBP := hid (HO.out.pub b hbm)
        have hbb := HS.out.body b hbm
        obtain ⟨bb, off, hB, hcc⟩ := HR.out.box i b hbe
        have HBT := hid (fun (w' : World) (P : Res) (L : List Item) (H : TF K P w w' L) (j : Nat) (v : Value) (hv : (bxCells b)[j]? = some v) => H.cellO (hcc j v hv) (show ¬ K bb from HU.out.box (List.ne_nil_of_mem hbm) ⟨bb, off, none⟩ hB))
        have HBE := hid (frB_succ (ts := ts) hbe)
        obtain ⟨s, hs⟩ : ∃ s, s = frB ts f i := ⟨_, rfl⟩
        rw [← hs] at H HBE hFt hFk
        rw [← hs]
        have hst : s.1.length ≤ 900000 := by omega
        have HBI := hid hB
        clear hbe hbm hcc hs hF
        clear hB
        go_wp2_with fail
        clear c72
        refine wp_region_planTP [.blk b3 (cellsO 77 (frCells f a))] (fun w' => ∀ (j : Nat) (v : Value), (bxCells b)[j]? = some v → w'.cell? ⟨bb, off + i * 36 + j, none⟩ = some v) (.free 0 (.free 1 (.free 2 (.free 3 (.free 4 (.free 5 (.free 6 (.free 7 (.free 8 (.free 9 (.free 10 (.free 11 (.free 12 (.free 13 (.free 14 (.free 15 (.free 16 (.one 17 (.one 18 (.one 19 (.free 20 (.done)))))))))))))))))))))) (by kernel_rfl) (by kernel_rfl) (fun _ _ _ _ _ h => h) H (refR_ok _ _) ?_
        clear H
        intro ops Q HO2 HQ wr H _
        have hops := HO2.out
        subst hops
        (refine wpT_free rfl rfl (.inl ⟨rfl, fun w _ => by go_simp; rfl⟩) (by exact ⟨⟨_, _, H.reb.sub (by (repeat (first | exact List.Sublist.refl _ | apply List.Sublist.cons_cons | apply List.Sublist.cons)))⟩, HBT.out _ _ _ H⟩) ?_; (conv => arg 6; simp only [Act.put, List.setIfInBounds_toArray, List.set_cons_succ, List.set_cons_zero]))
        (refine wpT_free rfl rfl (.inl ⟨rfl, fun w _ => by go_simp; rfl⟩) (by exact ⟨⟨_, _, H.reb.sub (by (repeat (first | exact List.Sublist.refl _ | apply List.Sublist.cons_cons | apply List.Sublist.cons)))⟩, HBT.out _ _ _ H⟩) ?_; (conv => arg 6; simp only [Act.put, List.setIfInBounds_toArray, List.set_cons_succ, List.set_cons_zero]))
        (refine wpT_free rfl rfl (.inl ⟨rfl, fun w _ => by go_simp; rfl⟩) (by exact ⟨⟨_, _, H.reb.sub (by (repeat (first | exact List.Sublist.refl _ | apply List.Sublist.cons_cons | apply List.Sublist.cons)))⟩, HBT.out _ _ _ H⟩) ?_; (conv => arg 6; simp only [Act.put, List.setIfInBounds_toArray, List.set_cons_succ, List.set_cons_zero]))
        (refine wpT_free (v := .slice (some ⟨bb, off, none⟩) f.boxes.length a.cb) rfl rfl (.inl ⟨rfl, fun w hw => run_ld1 Try.underlying73 rfl rfl rfl (by rw [← HBI.out]; exact st_cell (i := 72) (T := fun w' => ∀ (j : Nat) (v : Value), (bxCells b)[j]? = some v → w'.cell? ⟨bb, off + i * 36 + j, none⟩ = some v) hw (by (repeat (first | exact List.mem_cons_self | refine List.mem_cons_of_mem _ ?_))) (fr_box HO.out))⟩) (by exact ⟨⟨_, _, H.reb.sub (by (repeat (first | exact List.Sublist.refl _ | apply List.Sublist.cons_cons | apply List.Sublist.cons)))⟩, HBT.out _ _ _ H⟩) ?_; (conv => arg 6; simp only [Act.put, List.setIfInBounds_toArray, List.set_cons_succ, List.set_cons_zero]))
        (refine wpT_free rfl rfl (.inl ⟨rfl, fun w _ => by go_simp; rfl⟩) (by exact ⟨⟨_, _, H.reb.sub (by (repeat (first | exact List.Sublist.refl _ | apply List.Sublist.cons_cons | apply List.Sublist.cons)))⟩, HBT.out _ _ _ H⟩) ?_; (conv => arg 6; simp only [Act.put, List.setIfInBounds_toArray, List.set_cons_succ, List.set_cons_zero]))
        (refine wpT_free (v := .pointer (some ⟨bb, off + i * 36, none⟩)) rfl rfl (.inl ⟨rfl, fun w _ => by go_simp⟩) (by exact ⟨⟨_, _, H.reb.sub (by (repeat (first | exact List.Sublist.refl _ | apply List.Sublist.cons_cons | apply List.Sublist.cons)))⟩, HBT.out _ _ _ H⟩) ?_; (conv => arg 6; simp only [Act.put, List.setIfInBounds_toArray, List.set_cons_succ, List.set_cons_zero]))
        (refine wpT_free (v := .pointer (some ⟨bb, off + i * 36 + 1, none⟩)) rfl rfl (.inl ⟨rfl, fun w _ => by go_simp; (try rfl)⟩) (by exact ⟨⟨_, _, H.reb.sub (by (repeat (first | exact List.Sublist.refl _ | apply List.Sublist.cons_cons | apply List.Sublist.cons)))⟩, HBT.out _ _ _ H⟩) ?_; (conv => arg 6; simp only [Act.put, List.setIfInBounds_toArray, List.set_cons_succ, List.set_cons_zero]))
        (refine wpT_free (v := .pointer (some ⟨bb, off + i * 36 + 1, none⟩)) rfl rfl (.inl ⟨rfl, fun w _ => by go_simp; (try rfl)⟩) (by exact ⟨⟨_, _, H.reb.sub (by (repeat (first | exact List.Sublist.refl _ | apply List.Sublist.cons_cons | apply List.Sublist.cons)))⟩, HBT.out _ _ _ H⟩) ?_; (conv => arg 6; simp only [Act.put, List.setIfInBounds_toArray, List.set_cons_succ, List.set_cons_zero]))
        (refine wpT_free (v := .agg (nums .u8 b.pub).toArray) rfl rfl (.inl ⟨rfl, fun w hw => run_ldK Try.underlying26 rfl rfl rfl (off := off + i * 36 + 1) (fun j v hv => by have := hw.2 (1 + j) v (bx_pub HBP.out hv); rwa [← Nat.add_assoc] at this) (s26k HBP.out)⟩) (by exact ⟨⟨_, _, H.reb.sub (by (repeat (first | exact List.Sublist.refl _ | apply List.Sublist.cons_cons | apply List.Sublist.cons)))⟩, HBT.out _ _ _ H⟩) ?_; (conv => arg 6; simp only [Act.put, List.setIfInBounds_toArray, List.set_cons_succ, List.set_cons_zero]))
        (refine wpT_free rfl rfl (.inl ⟨rfl, fun w _ => by go_simp; rfl⟩) (by exact ⟨⟨_, _, H.reb.sub (by (repeat (first | exact List.Sublist.refl _ | apply List.Sublist.cons_cons | apply List.Sublist.cons)))⟩, HBT.out _ _ _ H⟩) ?_; (conv => arg 6; simp only [Act.put, List.setIfInBounds_toArray, List.set_cons_succ, List.set_cons_zero]))
        (refine wpT_free rfl rfl (.inl ⟨rfl, fun w _ => by go_simp; rfl⟩) (by exact ⟨⟨_, _, H.reb.sub (by (repeat (first | exact List.Sublist.refl _ | apply List.Sublist.cons_cons | apply List.Sublist.cons)))⟩, HBT.out _ _ _ H⟩) ?_; (conv => arg 6; simp only [Act.put, List.setIfInBounds_toArray, List.set_cons_succ, List.set_cons_zero]))
        (refine wpT_free rfl rfl (.inl ⟨rfl, fun w _ => by go_simp; rfl⟩) (by exact ⟨⟨_, _, H.reb.sub (by (repeat (first | exact List.Sublist.refl _ | apply List.Sublist.cons_cons | apply List.Sublist.cons)))⟩, HBT.out _ _ _ H⟩) ?_; (conv => arg 6; simp only [Act.put, List.setIfInBounds_toArray, List.set_cons_succ, List.set_cons_zero]))
        (refine wpT_free (v := .slice (some ⟨bb, off, none⟩) f.boxes.length a.cb) rfl rfl (.inl ⟨rfl, fun w hw => run_ld1 Try.underlying73 rfl rfl rfl (by rw [← HBI.out]; exact st_cell (i := 72) (T := fun w' => ∀ (j : Nat) (v : Value), (bxCells b)[j]? = some v → w'.cell? ⟨bb, off + i * 36 + j, none⟩ = some v) hw (by (repeat (first | exact List.mem_cons_self | refine List.mem_cons_of_mem _ ?_))) (fr_box HO.out))⟩) (by exact ⟨⟨_, _, H.reb.sub (by (repeat (first | exact List.Sublist.refl _ | apply List.Sublist.cons_cons | apply List.Sublist.cons)))⟩, HBT.out _ _ _ H⟩) ?_; (conv => arg 6; simp only [Act.put, List.setIfInBounds_toArray, List.set_cons_succ, List.set_cons_zero]))
        (refine wpT_free rfl rfl (.inl ⟨rfl, fun w _ => by go_simp; rfl⟩) (by exact ⟨⟨_, _, H.reb.sub (by (repeat (first | exact List.Sublist.refl _ | apply List.Sublist.cons_cons | apply List.Sublist.cons)))⟩, HBT.out _ _ _ H⟩) ?_; (conv => arg 6; simp only [Act.put, List.setIfInBounds_toArray, List.set_cons_succ, List.set_cons_zero]))
        (refine wpT_free (v := .pointer (some ⟨bb, off + i * 36, none⟩)) rfl rfl (.inl ⟨rfl, fun w _ => by go_simp⟩) (by exact ⟨⟨_, _, H.reb.sub (by (repeat (first | exact List.Sublist.refl _ | apply List.Sublist.cons_cons | apply List.Sublist.cons)))⟩, HBT.out _ _ _ H⟩) ?_; (conv => arg 6; simp only [Act.put, List.setIfInBounds_toArray, List.set_cons_succ, List.set_cons_zero]))
        (refine wpT_free (v := .pointer (some ⟨bb, off + i * 36 + 35, none⟩)) rfl rfl (.inl ⟨rfl, fun w _ => by go_simp; (try rfl)⟩) (by exact ⟨⟨_, _, H.reb.sub (by (repeat (first | exact List.Sublist.refl _ | apply List.Sublist.cons_cons | apply List.Sublist.cons)))⟩, HBT.out _ _ _ H⟩) ?_; (conv => arg 6; simp only [Act.put, List.setIfInBounds_toArray, List.set_cons_succ, List.set_cons_zero]))
        (refine wpT_free (v := .string b.body) rfl rfl (.inl ⟨rfl, fun w hw => run_ld1 Try.underlying9 rfl rfl rfl (hw.2 35 _ (bx_body HBP.out))⟩) (by exact ⟨⟨_, _, H.reb.sub (by (repeat (first | exact List.Sublist.refl _ | apply List.Sublist.cons_cons | apply List.Sublist.cons)))⟩, HBT.out _ _ _ H⟩) ?_; (conv => arg 6; simp only [Act.put, List.setIfInBounds_toArray, List.set_cons_succ, List.set_cons_zero]))
        refine wpT_op rfl ?_
        go_wp2_with (go_at_call 52; refine (MarkQ H (by omega) hst).mono ?_; clear H; rintro e wn ⟨rfl, H⟩)
        refine PlanTQ.mk (by exact ⟨⟨_, _, H.reb.sub (by (repeat (first | exact List.Sublist.refl _ | apply List.Sublist.cons_cons | apply List.Sublist.cons)))⟩, HBT.out _ _ _ H⟩) ?_
        refine wpT_op rfl ?_
        go_wp2_with (refine wpF_bsK2 59 H (refR_ok _ _) rfl rfl rfl rfl rfl HBP.out (markN_ok _ _) (fun b59 wn Hn => ?_); clear H; rename TF _ _ _ _ _ => H; (conv => arg 5; simp only [Act.put, List.setIfInBounds_toArray, List.set_cons_succ, List.set_cons_zero]))
        refine PlanTQ.mk (by exact ⟨⟨_, _, H.reb.sub (by (repeat (first | exact List.Sublist.refl _ | apply List.Sublist.cons_cons | apply List.Sublist.cons)))⟩, HBT.out _ _ _ H⟩) ?_
        refine wpT_op rfl ?_
        go_wp2_with (refine wpF_appK (ks := s.2) (qs := [b.pub, markN s.1 b.body]) 60 H (refR_ok _ _) rfl rfl rfl rfl rfl (fun A' cap' => by (repeat (first | exact Swap.head | apply Swap.tail))) (H.reb.blkT (by (repeat (first | exact List.mem_cons_self | refine List.mem_cons_of_mem _ ?_)))) (two_keys HBP.out (markN_ok _ _)) (by simp only [List.length_cons, List.length_nil]; omega) (fun A6 c6 wn Hn => ?_); clear H; rename TF _ _ _ _ _ => H; (conv => arg 5; simp only [Act.put, List.setIfInBounds_toArray, List.set_cons_succ, List.set_cons_zero]))
        refine PlanTQ.mk (by exact ⟨⟨_, _, H.reb.sub (by (repeat (first | exact List.Sublist.refl _ | apply List.Sublist.cons_cons | apply List.Sublist.cons)))⟩, HBT.out _ _ _ H⟩) ?_
        (refine wpT_free rfl rfl (.inl ⟨rfl, fun w _ => by go_simp; rfl⟩) (by exact ⟨⟨_, _, H.reb.sub (by (repeat (first | exact List.Sublist.refl _ | apply List.Sublist.cons_cons | apply List.Sublist.cons)))⟩, HBT.out _ _ _ H⟩) ?_; (conv => arg 6; simp only [Act.put, List.setIfInBounds_toArray, List.set_cons_succ, List.set_cons_zero]))
        refine wpT_done ?_
        rw [HQ.out]
        go_wp2_with fail
        go_round
        case rel =>
          refine ⟨i + 1, A6, c6, by omega, by go_num, ?_, ?_⟩
          · rw [HBE.out, boxK, List.length_append]; rfl
          · rw [HBE.out, boxK, List.length_append]
            exact H.sub (by (repeat (first | exact List.Sublist.refl _ | apply List.Sublist.cons_cons | apply List.Sublist.cons)))
        case measure => simp [intOf]; omega
      · obtain rfl : i = f.boxes.length := by omega
        have c73 := H.reb.cell (i := 73) (g := b3) (v := .slice a.ii f.ids.length a.ci) (by (repeat (first | exact List.mem_cons_self | refine List.mem_cons_of_mem _ ?_))) (fr_ids HO.out)
        go_wp2_with (first | (obtain ⟨t2, ht2⟩ := (H.rowC HR.out.ids HU.out.ids).toT; refine wpF_appK (ks := (frB ts f f.boxes.length).2) (qs := f.ids) 64 H (refR_ok _ _) rfl rfl rfl rfl rfl (fun A' cap' => by (repeat (first | exact Swap.head | apply Swap.tail))) ht2 HO.out.ids (by omega) (fun A6 c6 wn Hn => ?_); clear ht2 c73 c72; clear H; rename TF _ _ _ _ _ => H; (conv => arg 5; simp only [Act.put, List.setIfInBounds_toArray, List.set_cons_succ, List.set_cons_zero])))
        go_ret
        exact ⟨A6, c6, by rw [frK, List.length_append]; rfl, by rw [frK, List.length_append]; exact H.sub (by (repeat (first | exact List.Sublist.refl _ | apply List.Sublist.cons_cons | apply List.Sublist.cons)))⟩
end Go.Proofs.Ytcapfnbmmdbcoaa
