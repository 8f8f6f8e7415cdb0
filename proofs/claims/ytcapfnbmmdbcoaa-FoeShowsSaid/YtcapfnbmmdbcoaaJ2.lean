/- The keys that a frame shows, by the program and by the reference. -/
import Derived.Test.YtcapfnbmmdbcoaaJ1
set_option linter.unusedVariables false
set_option linter.unusedSimpArgs false
namespace Go.Proofs.Ytcapfnbmmdbcoaa
open Go.RowKit
/-- A region that draws its order; S holds of some of the items only. -/
theorem wp_region_planTP {P : Program} {a : Act} {w w0 : World} {Q : Exit → Act → World → Prop} {id : Nat} {ops : Array Oper} {R : Res} {K0 : Nat → Prop} {L : List Item} (L0 : List Item) (T : World → Prop) (s : PlanT) (hm : P.follows .mixedOrders = true) (hB : (Region.noSelect ops && planTB .any ops s (Array.replicate ops.size false) && decide (s.depth ≤ ops.size)) = true)
    (hQ : ∀ c a (d : Tmp) v w, Q (.panic c) (Act.put a (some d) v) w → Q (.panic c) a w) (H : TF K0 R w0 w L) (hR : Ok R)
    (h : ∀ (ops' : Array Oper) (Q' : Exit → Act → World → Prop), Hid (ops' = ops) → Hid (Q' = Q) → ∀ w1, TF K0 R w0 w1 L → Mem w [] w1 [] → wpPlanT P ops' (fun w' => (∃ v E, Mem v E w' L0) ∧ T w') Q' s a w1) : (Code.region id ops true).wp P Q a w :=
  wp_region_planS (fun w' => (∃ v E, Mem v E w' L0) ∧ T w') s hm hB hQ fun w1 hb =>
    have M : Mem w [] w1 [] := ⟨hb.os, hb.tape, hb.output, hb.size, fun i hi _ => hb.block i hi, by simp, by simp, List.Pairwise.nil⟩
    h ops Q (hid rfl) (hid rfl) w1 (H.call0 hR M) M
/-- A frame's rows lie outside the thing. -/
structure FrO (K : Nat → Prop) (f : Fr) (a : Fx) : Prop where
  par : nums .u8 f.parents.flatten ≠ [] → ∀ ad, a.ip = some ad → ¬ K ad.block
  box : f.boxes ≠ [] → ∀ ad, a.ib = some ad → ¬ K ad.block
  ids : nums .u8 f.ids.flatten ≠ [] → ∀ ad, a.ii = some ad → ¬ K ad.block
/-- A frame that is not great. -/
structure FrS (f : Fr) : Prop where
  par : f.parents.length ≤ 30
  box : f.boxes.length ≤ 30
  ids : f.ids.length ≤ 40
  text : f.text.size ≤ 600
  body : ∀ b ∈ f.boxes, b.body.size ≤ 600
def KysR (K : Nat → Prop) (P : Res) (w : World) (ks : List (List Int)) (e : Ending) (w' : World) : Prop :=
  ∃ B d, e = .returned (.slice B ks.length d) ∧ TF K P w w' [.vec B ks.length d 26 32 (nums .u8 ks.flatten)]
section
variable {K : Nat → Prop} {w w1 : World} {L : List Item} {g m : Nat} {ts : List Tm}
theorem MarkL (H : TF K (tabR g ts) w w1 L) {s : ByteArray} (ht : s.size ≤ 900) (hf : ts.length ≤ 900000) :
    Calls Try.prog 46 #[.pointer (some ⟨g, 0, none⟩), .string s] w1 fun e w' => e = .returned (.agg (nums .u8 (markN ts s)).toArray) ∧ TF K (tabR g (markL ts s)) w w' L := by
  by_cases hs : s.size = 32
  · rw [markN, markL, if_pos hs, if_pos hs]
    exact (Mark46k g s w1 hs).mono fun e w' ⟨he, M⟩ => ⟨he, H.call0 (tabR_ok g ts) M⟩
  · rw [markN, markL, if_neg hs, if_neg hs]
    exact (H.run (R := fun e L2 => IsKey (nm ts ⟨2, boxS s, []⟩) e ∧ L2 = []) fun K1 h1 hlt => (MarkK h1 hs ht hf).mono fun e w' ⟨he, F⟩ => ⟨[], ⟨he, rfl⟩, TF.of F hlt⟩).mono fun e w' ⟨L2, ⟨he, hL⟩, F⟩ => ⟨he, by rw [hL] at F; exact F⟩
theorem MarkQ (H : TF K (refR m ts) w w1 L) {s : ByteArray} (ht : s.size ≤ 900) (hf : ts.length ≤ 900000) :
    Calls Try.prog 52 #[.pointer (some ⟨m, 0, none⟩), .string s] w1 fun e w' => e = .returned (.agg (nums .u8 (markN ts s)).toArray) ∧ TF K (refR m (markL ts s)) w w' L := by
  by_cases hs : s.size = 32
  · rw [markN, markL, if_pos hs, if_pos hs]
    exact (Mark52k m s w1 hs).mono fun e w' ⟨he, M⟩ => ⟨he, H.call0 (refR_ok m ts) M⟩
  · rw [markN, markL, if_neg hs, if_neg hs]
    exact (H.run (R := fun e L2 => e = .returned (.agg (nums .u8 (nm ts ⟨2, boxS s, []⟩)).toArray) ∧ L2 = []) fun K1 h1 hlt => (Mark52h h1 hlt hs ht hf).mono fun e w' ⟨he, F⟩ => ⟨[], ⟨he, rfl⟩, TF.of F hlt⟩).mono fun e w' ⟨L2, ⟨he, hL⟩, F⟩ => ⟨he, by rw [hL] at F; exact F⟩
end
def TrueP (_ : World) : Prop := True
theorem tp (w : World) : TrueP w := trivial
def z75c : List Value := [.int .i64 0, .int .u32 0, .slice none 0 0, .int .i64 0, .slice none 0 0] ++ nums .u8 (List.replicate 32 0) ++ nums .u8 (List.replicate 32 0) ++ [.string ⟨#[]⟩, .slice none 0 0]
set_option maxRecDepth 100000 in
theorem z75 : (Try.prog.info? 75).map (·.zero) = some (some (.agg z75c.toArray)) := by kernel_rfl
def z114c : List Value := [.int .i64 0] ++ nums .u8 (List.replicate 32 0) ++ [.int .u32 0, .int .u32 0, .string ⟨#[]⟩]
set_option maxRecDepth 100000 in
theorem z114 : (Try.prog.info? 114).map (·.zero) = some (some (.agg z114c.toArray)) := by kernel_rfl
theorem op_one {f : Fr} {a : Fx} : ∀ v ∈ opCells f a, v.oneCell' = true := fun v hv => by
  simp only [opCells, List.mem_append, List.mem_cons, List.not_mem_nil, or_false] at hv
  rcases hv with ((hv | hv) | hv) | hv
  · rcases hv with rfl | rfl | rfl | rfl | rfl <;> rfl
  · exact nums_one .u8 _ v hv
  · exact nums_one .u8 _ v hv
  · rcases hv with rfl | rfl <;> rfl
theorem bx_one {b : Bx} : ∀ v ∈ bxCells b, v.oneCell' = true := fun v hv => by
  simp only [bxCells, List.mem_append, List.mem_cons, List.not_mem_nil, or_false] at hv
  rcases hv with (rfl | hv) | hv
  · rfl
  · exact nums_one .u8 _ v hv
  · rcases hv with rfl | rfl | rfl <;> rfl
theorem zop_len {f : Fr} {a : Fx} (h : FrOk f) : z75c.length = (opCells f a).length := by rw [op_len h]; kernel_rfl
theorem zbx_len {b : Bx} (h : KeyOk b.pub) : z114c.length = (bxCells b).length := by rw [bx_len h]; kernel_rfl
theorem two_keys {k l : List Int} (hk : KeyOk k) (hl : KeyOk l) : ∀ q ∈ [k, l], KeyOk q := fun q hq => by
  simp only [List.mem_cons, List.not_mem_nil, or_false] at hq
  rcases hq with rfl | rfl
  · exact hk
  · exact hl
theorem len_one (l : List (List Int)) (k : List Int) : l.length + [k].length = (l ++ [k]).length := List.length_append.symm
theorem frS0_7 {ts : List Tm} {f : Fr} (h : f.okind = 7) : frS0 ts f = (markL ts f.text, f.parents ++ [f.of_, f.check] ++ [markN ts f.text]) := by rw [frS0, if_pos h]
theorem frS0_o {ts : List Tm} {f : Fr} (h : ¬ f.okind = 7) : frS0 ts f = (ts, f.parents ++ [f.of_, f.check]) := by rw [frS0, if_neg h]
theorem frB_0 (ts : List Tm) (f : Fr) : frB ts f 0 = frS0 ts f := rfl
theorem st_off {w : World} {L : List Item} {T : World → Prop} (h : (∃ v E, Mem v E w L) ∧ T w) {t : TypeId} {cs ds : List Value} {b o : Nat} (hin : Item.blk b (cellsO t cs) ∈ L) (hd : ∀ (j : Nat) (v : Value), ds[j]? = some v → cs[o + j]? = some v) : ∀ (j : Nat) (v : Value), ds[j]? = some v → w.cell? ⟨b, o + j, none⟩ = some v := fun j v hv => by
  obtain ⟨⟨_, _, M⟩, _⟩ := h
  exact M.cell hin (hd j v hv)
set_option maxRecDepth 100000 in
set_option maxHeartbeats 8000000 in
theorem Keys34 {K : Nat → Prop} {w : World} {g : Nat} {ts : List Tm} {f : Fr} {a : Fx} (res : tabR g ts K w) (lt : ∀ b, K b → b < w.heap.size) (hok : FrOk f) (hr : FrR w f a) (hout : FrO K f a) (hw : ∀ t ∈ ts, TmW t) (hsz : FrS f) (htl : ts.length ≤ 800000) :
    Calls Try.prog 34 #[.agg #[.pointer (some ⟨g, 0, none⟩)], .agg (frCells f a).toArray] w (KysR K (tabR g (frT ts f)) w (frK ts f)) := by
  have H := TF.start res lt
  have HO := hid hok
  have HR := hid hr
  have HU := hid hout
  have HS := hid hsz
  have HF := fun i hi => hid (FI.frB (ts := ts) hok hw i hi)
  have hpl := hsz.par
  have hbl := hsz.box
  have hil := hsz.ids
  have htx := hsz.text
  clear res lt hok hr hout hsz hw
  go_enter Try.func34, Try.ntmps34
  go_upto_region 2 with (first | (refine wpF_bxC (cs := [.pointer (some ⟨g, 0, none⟩)]) 2 H (tabR_ok _ _) rfl rfl rfl rfl (fun b2 wn Hn => ?_); clear H; rename TF _ _ _ _ _ => H; (conv => arg 5; simp only [Act.put, List.setIfInBounds_toArray, List.set_cons_succ, List.set_cons_zero])) | (refine wpF_bxC (cs := frCells f a) 3 H (tabR_ok _ _) rfl rfl rfl rfl (fun b3 wn Hn => ?_); clear H; rename TF _ _ _ _ _ => H; (conv => arg 5; simp only [Act.put, List.setIfInBounds_toArray, List.set_cons_succ, List.set_cons_zero])) | (refine wpList_ldagg (off := 2) 10 rfl Try.underlying75 rfl rfl rfl rfl (cs := opCells f a) (fun j v hv => H.reb.cell (by (repeat (first | exact List.mem_cons_self | refine List.mem_cons_of_mem _ ?_))) (fr_op HO.out hv)) (sz75 HO.out) ?_; (conv => arg 5; simp only [Act.put, List.setIfInBounds_toArray, List.set_cons_succ, List.set_cons_zero])) | (refine wpF_alC 5 H (tabR_ok _ _) z75 rfl rfl rfl rfl (fun b5 wn Hn => ?_); clear H; rename TF _ _ _ _ _ => H; (conv => arg 5; simp only [Act.put, List.setIfInBounds_toArray, List.set_cons_succ, List.set_cons_zero])) | (refine wpF_stC0 (vs := opCells f a) rfl H (tabR_ok _ _) (sz75 HO.out) rfl rfl rfl rfl Swap.head (zop_len HO.out) op_one (fun wn Hn => ?_); clear H; rename TF _ _ _ _ _ => H; (try (conv => arg 5; simp only [Act.put, List.setIfInBounds_toArray, List.set_cons_succ, List.set_cons_zero]))))
  go_cut [6] from 9 (fun s6 wx => ∃ A c, s6 = .slice A (f.parents ++ [f.of_, f.check]).length c ∧ TF K (tabR g ts) w wx [.vec A (f.parents ++ [f.of_, f.check]).length c 26 32 (nums .u8 (f.parents ++ [f.of_, f.check]).flatten), .blk b5 (cellsO 75 (opCells f a)), .blk b3 (cellsO 77 (frCells f a)), .blk b2 (cellsO 42 [.pointer (some ⟨g, 0, none⟩)])])
  case first =>
    refine wp_region_planTP [.blk b5 (cellsO 75 (opCells f a))] (TrueP) (.free 0 (.free 1 (.free 3 (.free 4 (.free 5 (.free 6 (.two 2 (.one 7 (.one 8 (.free 9 (.done)))) 7 (.one 2 (.one 8 (.free 9 (.done))))))))))) (by kernel_rfl) (by kernel_rfl) (fun _ _ _ _ _ h => h) H (tabR_ok _ _) ?_
    clear H
    intro ops Q HO2 HQ wr H _
    have hops := HO2.out
    subst hops
    (refine wpT_free rfl rfl (.inl ⟨rfl, fun w _ => by go_simp; rfl⟩) (by exact ⟨⟨_, _, H.reb.sub (by (repeat (first | exact List.Sublist.refl _ | apply List.Sublist.cons_cons | apply List.Sublist.cons)))⟩, tp _⟩) ?_; (conv => arg 6; simp only [Act.put, List.setIfInBounds_toArray, List.set_cons_succ, List.set_cons_zero]))
    (refine wpT_free rfl rfl (.inl ⟨rfl, fun w hw => run_ld1 Try.underlying34 rfl rfl rfl (st_cell (i := 2) (T := TrueP) hw (by (repeat (first | exact List.mem_cons_self | refine List.mem_cons_of_mem _ ?_))) rfl)⟩) (by exact ⟨⟨_, _, H.reb.sub (by (repeat (first | exact List.Sublist.refl _ | apply List.Sublist.cons_cons | apply List.Sublist.cons)))⟩, tp _⟩) ?_; (conv => arg 6; simp only [Act.put, List.setIfInBounds_toArray, List.set_cons_succ, List.set_cons_zero]))
    (refine wpT_free rfl rfl (.inl ⟨rfl, fun w _ => by go_simp; rfl⟩) (by exact ⟨⟨_, _, H.reb.sub (by (repeat (first | exact List.Sublist.refl _ | apply List.Sublist.cons_cons | apply List.Sublist.cons)))⟩, tp _⟩) ?_; (conv => arg 6; simp only [Act.put, List.setIfInBounds_toArray, List.set_cons_succ, List.set_cons_zero]))
    (refine wpT_free rfl rfl (.inl ⟨rfl, fun w hw => run_ldK Try.underlying26 rfl rfl rfl (st_off (o := 5) (T := TrueP) hw (by (repeat (first | exact List.mem_cons_self | refine List.mem_cons_of_mem _ ?_))) (fun j v hv => op_of HO.out hv)) (s26k HO.out.of_)⟩) (by exact ⟨⟨_, _, H.reb.sub (by (repeat (first | exact List.Sublist.refl _ | apply List.Sublist.cons_cons | apply List.Sublist.cons)))⟩, tp _⟩) ?_; (conv => arg 6; simp only [Act.put, List.setIfInBounds_toArray, List.set_cons_succ, List.set_cons_zero]))
    (refine wpT_free rfl rfl (.inl ⟨rfl, fun w _ => by go_simp; rfl⟩) (by exact ⟨⟨_, _, H.reb.sub (by (repeat (first | exact List.Sublist.refl _ | apply List.Sublist.cons_cons | apply List.Sublist.cons)))⟩, tp _⟩) ?_; (conv => arg 6; simp only [Act.put, List.setIfInBounds_toArray, List.set_cons_succ, List.set_cons_zero]))
    (refine wpT_free rfl rfl (.inl ⟨rfl, fun w hw => run_ldK Try.underlying26 rfl rfl rfl (st_off (o := 37) (T := TrueP) hw (by (repeat (first | exact List.mem_cons_self | refine List.mem_cons_of_mem _ ?_))) (fun j v hv => op_check HO.out hv)) (s26k HO.out.check)⟩) (by exact ⟨⟨_, _, H.reb.sub (by (repeat (first | exact List.Sublist.refl _ | apply List.Sublist.cons_cons | apply List.Sublist.cons)))⟩, tp _⟩) ?_; (conv => arg 6; simp only [Act.put, List.setIfInBounds_toArray, List.set_cons_succ, List.set_cons_zero]))
    refine wpT_two rfl rfl ?_ ?_
    · go_wp2_with (go_at_call 44; obtain ⟨t2, ht2⟩ := (H.rowC HR.out.par HU.out.par).toT; refine (Clone44C a.ip a.cp f.parents _ HO.out.par ht2 HR.out.pn (by omega)).mono ?_; clear ht2; rintro e wn ⟨A, c, rfl, _, _, _, M⟩; replace H := H.call (tabR_ok _ _) M; clear M)
      refine PlanTQ.mk (by exact ⟨⟨_, _, H.reb.sub (by (repeat (first | exact List.Sublist.refl _ | apply List.Sublist.cons_cons | apply List.Sublist.cons)))⟩, tp _⟩) ?_
      refine wpT_op rfl ?_
      go_wp2_with (refine wpF_bsK2 18 H (tabR_ok _ _) rfl rfl rfl rfl rfl HO.out.of_ HO.out.check (fun b18 wn Hn => ?_); clear H; rename TF _ _ _ _ _ => H; (conv => arg 5; simp only [Act.put, List.setIfInBounds_toArray, List.set_cons_succ, List.set_cons_zero]))
      refine PlanTQ.mk (by exact ⟨⟨_, _, H.reb.sub (by (repeat (first | exact List.Sublist.refl _ | apply List.Sublist.cons_cons | apply List.Sublist.cons)))⟩, tp _⟩) ?_
      refine wpT_op rfl ?_
      go_wp2_with (refine wpF_appK (ks := f.parents) (qs := [f.of_, f.check]) 19 H (tabR_ok _ _) rfl rfl rfl rfl rfl (fun A' cap' => by (repeat (first | exact Swap.head | apply Swap.tail))) (H.reb.blkT (by (repeat (first | exact List.mem_cons_self | refine List.mem_cons_of_mem _ ?_)))) (two_keys HO.out.of_ HO.out.check) (by simp only [List.length_cons, List.length_nil]; omega) (fun A6 c6 wn Hn => ?_); clear H; rename TF _ _ _ _ _ => H; (conv => arg 5; simp only [Act.put, List.setIfInBounds_toArray, List.set_cons_succ, List.set_cons_zero]))
      refine PlanTQ.mk (by exact ⟨⟨_, _, H.reb.sub (by (repeat (first | exact List.Sublist.refl _ | apply List.Sublist.cons_cons | apply List.Sublist.cons)))⟩, tp _⟩) ?_
      (refine wpT_free rfl rfl (.inl ⟨rfl, fun w _ => by go_simp; rfl⟩) (by exact ⟨⟨_, _, H.reb.sub (by (repeat (first | exact List.Sublist.refl _ | apply List.Sublist.cons_cons | apply List.Sublist.cons)))⟩, tp _⟩) ?_; (conv => arg 6; simp only [Act.put, List.setIfInBounds_toArray, List.set_cons_succ, List.set_cons_zero]))
      refine wpT_done ?_
      rw [HQ.out]
      go_wp2_with fail
      go_meet
      exact ⟨A6, c6, by rw [List.length_append]; rfl, by rw [List.length_append]; exact H.sub (by (repeat (first | exact List.Sublist.refl _ | apply List.Sublist.cons_cons | apply List.Sublist.cons)))⟩
    · go_wp2_with (refine wpF_bsK2 18 H (tabR_ok _ _) rfl rfl rfl rfl rfl HO.out.of_ HO.out.check (fun b18 wn Hn => ?_); clear H; rename TF _ _ _ _ _ => H; (conv => arg 5; simp only [Act.put, List.setIfInBounds_toArray, List.set_cons_succ, List.set_cons_zero]))
      refine PlanTQ.mk (by exact ⟨⟨_, _, H.reb.sub (by (repeat (first | exact List.Sublist.refl _ | apply List.Sublist.cons_cons | apply List.Sublist.cons)))⟩, tp _⟩) ?_
      refine wpT_op rfl ?_
      go_wp2_with (go_at_call 44; obtain ⟨t2, ht2⟩ := (H.rowC HR.out.par HU.out.par).toT; refine (Clone44C a.ip a.cp f.parents _ HO.out.par ht2 HR.out.pn (by omega)).mono ?_; clear ht2; rintro e wn ⟨A, c, rfl, _, _, _, M⟩; replace H := H.call (tabR_ok _ _) M; clear M)
      refine PlanTQ.mk (by exact ⟨⟨_, _, H.reb.sub (by (repeat (first | exact List.Sublist.refl _ | apply List.Sublist.cons_cons | apply List.Sublist.cons)))⟩, tp _⟩) ?_
      refine wpT_op rfl ?_
      go_wp2_with (refine wpF_appK (ks := f.parents) (qs := [f.of_, f.check]) 19 H (tabR_ok _ _) rfl rfl rfl rfl rfl (fun A' cap' => by (repeat (first | exact Swap.head | apply Swap.tail))) (H.reb.blkT (by (repeat (first | exact List.mem_cons_self | refine List.mem_cons_of_mem _ ?_)))) (two_keys HO.out.of_ HO.out.check) (by simp only [List.length_cons, List.length_nil]; omega) (fun A6 c6 wn Hn => ?_); clear H; rename TF _ _ _ _ _ => H; (conv => arg 5; simp only [Act.put, List.setIfInBounds_toArray, List.set_cons_succ, List.set_cons_zero]))
      refine PlanTQ.mk (by exact ⟨⟨_, _, H.reb.sub (by (repeat (first | exact List.Sublist.refl _ | apply List.Sublist.cons_cons | apply List.Sublist.cons)))⟩, tp _⟩) ?_
      (refine wpT_free rfl rfl (.inl ⟨rfl, fun w _ => by go_simp; rfl⟩) (by exact ⟨⟨_, _, H.reb.sub (by (repeat (first | exact List.Sublist.refl _ | apply List.Sublist.cons_cons | apply List.Sublist.cons)))⟩, tp _⟩) ?_; (conv => arg 6; simp only [Act.put, List.setIfInBounds_toArray, List.set_cons_succ, List.set_cons_zero]))
      refine wpT_done ?_
      rw [HQ.out]
      go_wp2_with fail
      go_meet
      exact ⟨A6, c6, by rw [List.length_append]; rfl, by rw [List.length_append]; exact H.sub (by (repeat (first | exact List.Sublist.refl _ | apply List.Sublist.cons_cons | apply List.Sublist.cons)))⟩
  case rest =>
    clear H
    obtain ⟨A, c, rfl, H⟩ := hcut
    obtain ⟨l0, hl0⟩ : ∃ l, l = f.parents ++ [f.of_, f.check] := ⟨_, rfl⟩
    have hll : l0.length ≤ 32 := by rw [hl0, List.length_append]; simp only [List.length_cons, List.length_nil]; omega
    rw [← hl0] at H ⊢
    have HL0 := hid hl0
    clear hl0
    have c3 := H.reb.cell (i := 3) (g := b5) (v := .int .i64 f.okind) (by (repeat (first | exact List.mem_cons_self | refine List.mem_cons_of_mem _ ?_))) rfl
    go_upto_if 22 with fail
    clear c3
    go_cut [6] from 20 (fun s6 wx => ∃ A c, s6 = .slice A (frS0 ts f).2.length c ∧ TF K (tabR g (frS0 ts f).1) w wx [.vec A (frS0 ts f).2.length c 26 32 (nums .u8 (frS0 ts f).2.flatten), .blk b5 (cellsO 75 (opCells f a)), .blk b3 (cellsO 77 (frCells f a)), .blk b2 (cellsO 42 [.pointer (some ⟨g, 0, none⟩)])])
    case first =>
      have c0 := H.reb.cell (i := 0) (g := b2) (v := .pointer (some ⟨g, 0, none⟩)) (by (repeat (first | exact List.mem_cons_self | refine List.mem_cons_of_mem _ ?_))) rfl
      have c69 := H.reb.cell (i := 69) (g := b5) (v := .string f.text) (by (repeat (first | exact List.mem_cons_self | refine List.mem_cons_of_mem _ ?_))) (op_text HO.out)
      by_cases h7 : f.okind = 7
      · have H7 := hid (show frS0 ts f = (markL ts f.text, l0 ++ [markN ts f.text]) from by rw [HL0.out]; exact frS0_7 h7)
        have h7I : f.okind = 7 := h7
        go_wp2_with (first | (go_at_call 46; refine (MarkL H (by omega) (by omega)).mono ?_; clear H c0 c69; rintro e wn ⟨rfl, H⟩) | (refine wpF_bsK1 29 H (tabR_ok _ _) rfl rfl rfl rfl (markN_ok _ _) (fun b29 wn Hn => ?_); clear H; rename TF _ _ _ _ _ => H; (conv => arg 5; simp only [Act.put, List.setIfInBounds_toArray, List.set_cons_succ, List.set_cons_zero])) | (refine wpF_appK (ks := l0) (qs := [markN ts f.text]) 30 H (tabR_ok _ _) rfl rfl rfl rfl rfl (fun A' cap' => by (repeat (first | exact Swap.head | apply Swap.tail))) (H.reb.blkT (by (repeat (first | exact List.mem_cons_self | refine List.mem_cons_of_mem _ ?_)))) (one_ok (markN_ok _ _)) (by simp only [List.length_singleton]; omega) (fun A6 c6 wn Hn => ?_); clear H; rename TF _ _ _ _ _ => H; (conv => arg 5; simp only [Act.put, List.setIfInBounds_toArray, List.set_cons_succ, List.set_cons_zero])))
        go_meet
        rw [H7.out]
        rw [len_one] at H ⊢
        exact ⟨A6, c6, rfl, H.sub (by (repeat (first | exact List.Sublist.refl _ | apply List.Sublist.cons_cons | apply List.Sublist.cons)))⟩
      · have H7 := hid (show frS0 ts f = (ts, l0) from by rw [HL0.out]; exact frS0_o h7)
        go_wp2_with fail
        go_meet
        rw [H7.out]
        exact ⟨A, c, rfl, H⟩
    case rest =>
      clear H
      obtain ⟨A, c, rfl, H⟩ := hcut
      have c70 := H.reb.cell (i := 70) (g := b5) (v := .slice a.ib f.boxes.length a.cb) (by (repeat (first | exact List.mem_cons_self | refine List.mem_cons_of_mem _ ?_))) (op_box HO.out)
      go_wp2_with fail
      clear c70
      rw [← frB_0 ts f] at H ⊢
      go_loopw [6, 34] (fun o x wr => ∃ (i : Nat) (A : Option Addr) (c : Nat), i ≤ f.boxes.length ∧ x = .int .i64 i ∧ o = .slice A (frB ts f i).2.length c ∧ TF K (tabR g (frB ts f i).1) w wr [.vec A (frB ts f i).2.length c 26 32 (nums .u8 (frB ts f i).2.flatten), .blk b3 (cellsO 77 (frCells f a)), .blk b2 (cellsO 42 [.pointer (some ⟨g, 0, none⟩)])]) (fun _ x _ => f.boxes.length - (intOf x).toNat)
      case atStart => exact ⟨0, A, c, by omega, rfl, rfl, H.sub (by (repeat (first | exact List.Sublist.refl _ | apply List.Sublist.cons_cons | apply List.Sublist.cons)))⟩
      case round =>
        clear H
        obtain ⟨i, A, c, hi, rfl, rfl, H⟩ := hrel
        have hF := HF i hi
        have hFt := hF.out.tl
        have hFk := hF.out.kl
        by_cases hlt : i < f.boxes.length
        · have hltI : (i : Int) < (f.boxes.length : Int) := by omega
          obtain ⟨b, hbe⟩ : ∃ b, f.boxes[i]? = some b := ⟨_, List.getElem?_eq_getElem hlt⟩
          have hbm := List.mem_of_getElem? hbe
          have HBP := hid (HO.out.pub b hbm)
          have hbb := HS.out.body b hbm
          obtain ⟨bb, off, hB, hcc⟩ := HR.out.box i b hbe
          have HBC := hid (fun j v hv => H.cellO (hcc j v hv) (show ¬ K bb from HU.out.box (List.ne_nil_of_mem hbm) ⟨bb, off, none⟩ hB))
          have HBE := hid (frB_succ (ts := ts) hbe)
          obtain ⟨s, hs⟩ : ∃ s, s = frB ts f i := ⟨_, rfl⟩
          rw [← hs] at H HBE hFt hFk
          rw [← hs]
          have hst : s.1.length ≤ 900000 := by omega
          have HBI := hid hB
          clear hbe hbm hcc hs hF
          rw [hB]
          clear hB
          go_wp2_with (first | (refine wpList_ldagg 37 rfl Try.underlying114 rfl rfl rfl rfl HBC.out (sz114 HBP.out) ?_; (conv => arg 5; simp only [Act.put, List.setIfInBounds_toArray, List.set_cons_succ, List.set_cons_zero])) | (refine wpF_alC 8 H (tabR_ok _ _) z114 rfl rfl rfl rfl (fun b8 wn Hn => ?_); clear HBC; clear H; rename TF _ _ _ _ _ => H; (conv => arg 5; simp only [Act.put, List.setIfInBounds_toArray, List.set_cons_succ, List.set_cons_zero])) | (refine wpF_stC0 (vs := bxCells b) rfl H (tabR_ok _ _) (sz114 HBP.out) rfl rfl rfl rfl Swap.head (zbx_len HBP.out) bx_one (fun wn Hn => ?_); clear H; rename TF _ _ _ _ _ => H; (try (conv => arg 5; simp only [Act.put, List.setIfInBounds_toArray, List.set_cons_succ, List.set_cons_zero]))))
          refine wp_region_planTP [.blk b8 (cellsO 114 (bxCells b)), .blk b2 (cellsO 42 [.pointer (some ⟨g, 0, none⟩)])] (TrueP) (.free 0 (.free 1 (.free 2 (.free 3 (.free 4 (.free 5 (.free 6 (.free 7 (.one 8 (.one 9 (.one 10 (.free 11 (.done))))))))))))) (by kernel_rfl) (by kernel_rfl) (fun _ _ _ _ _ h => h) H (tabR_ok _ _) ?_
          clear H
          intro ops Q HO2 HQ wr H _
          have hops := HO2.out
          subst hops
          (refine wpT_free rfl rfl (.inl ⟨rfl, fun w _ => by go_simp; rfl⟩) (by exact ⟨⟨_, _, H.reb.sub (by (repeat (first | exact List.Sublist.refl _ | apply List.Sublist.cons_cons | apply List.Sublist.cons)))⟩, tp _⟩) ?_; (conv => arg 6; simp only [Act.put, List.setIfInBounds_toArray, List.set_cons_succ, List.set_cons_zero]))
          (refine wpT_free rfl rfl (.inl ⟨rfl, fun w _ => by go_simp; rfl⟩) (by exact ⟨⟨_, _, H.reb.sub (by (repeat (first | exact List.Sublist.refl _ | apply List.Sublist.cons_cons | apply List.Sublist.cons)))⟩, tp _⟩) ?_; (conv => arg 6; simp only [Act.put, List.setIfInBounds_toArray, List.set_cons_succ, List.set_cons_zero]))
          (refine wpT_free rfl rfl (.inl ⟨rfl, fun w _ => by go_simp; rfl⟩) (by exact ⟨⟨_, _, H.reb.sub (by (repeat (first | exact List.Sublist.refl _ | apply List.Sublist.cons_cons | apply List.Sublist.cons)))⟩, tp _⟩) ?_; (conv => arg 6; simp only [Act.put, List.setIfInBounds_toArray, List.set_cons_succ, List.set_cons_zero]))
          (refine wpT_free rfl rfl (.inl ⟨rfl, fun w hw => run_ldK Try.underlying26 rfl rfl rfl (st_off (o := 1) (T := TrueP) hw (by (repeat (first | exact List.mem_cons_self | refine List.mem_cons_of_mem _ ?_))) (fun j v hv => bx_pub HBP.out hv)) (s26k HBP.out)⟩) (by exact ⟨⟨_, _, H.reb.sub (by (repeat (first | exact List.Sublist.refl _ | apply List.Sublist.cons_cons | apply List.Sublist.cons)))⟩, tp _⟩) ?_; (conv => arg 6; simp only [Act.put, List.setIfInBounds_toArray, List.set_cons_succ, List.set_cons_zero]))
          (refine wpT_free rfl rfl (.inl ⟨rfl, fun w _ => by go_simp; rfl⟩) (by exact ⟨⟨_, _, H.reb.sub (by (repeat (first | exact List.Sublist.refl _ | apply List.Sublist.cons_cons | apply List.Sublist.cons)))⟩, tp _⟩) ?_; (conv => arg 6; simp only [Act.put, List.setIfInBounds_toArray, List.set_cons_succ, List.set_cons_zero]))
          (refine wpT_free rfl rfl (.inl ⟨rfl, fun w hw => run_ld1 Try.underlying23 rfl rfl rfl (st_cell (i := 0) (T := TrueP) hw (by (repeat (first | exact List.mem_cons_self | refine List.mem_cons_of_mem _ ?_))) rfl)⟩) (by exact ⟨⟨_, _, H.reb.sub (by (repeat (first | exact List.Sublist.refl _ | apply List.Sublist.cons_cons | apply List.Sublist.cons)))⟩, tp _⟩) ?_; (conv => arg 6; simp only [Act.put, List.setIfInBounds_toArray, List.set_cons_succ, List.set_cons_zero]))
          (refine wpT_free rfl rfl (.inl ⟨rfl, fun w _ => by go_simp; rfl⟩) (by exact ⟨⟨_, _, H.reb.sub (by (repeat (first | exact List.Sublist.refl _ | apply List.Sublist.cons_cons | apply List.Sublist.cons)))⟩, tp _⟩) ?_; (conv => arg 6; simp only [Act.put, List.setIfInBounds_toArray, List.set_cons_succ, List.set_cons_zero]))
          (refine wpT_free rfl rfl (.inl ⟨rfl, fun w hw => run_ld1 Try.underlying9 rfl rfl rfl (st_cell (i := 35) (T := TrueP) hw (by (repeat (first | exact List.mem_cons_self | refine List.mem_cons_of_mem _ ?_))) (bx_body HBP.out))⟩) (by exact ⟨⟨_, _, H.reb.sub (by (repeat (first | exact List.Sublist.refl _ | apply List.Sublist.cons_cons | apply List.Sublist.cons)))⟩, tp _⟩) ?_; (conv => arg 6; simp only [Act.put, List.setIfInBounds_toArray, List.set_cons_succ, List.set_cons_zero]))
          refine wpT_op rfl ?_
          go_wp2_with (go_at_call 46; refine (MarkL H (by omega) hst).mono ?_; clear H; rintro e wn ⟨rfl, H⟩)
          refine PlanTQ.mk (by exact ⟨⟨_, _, H.reb.sub (by (repeat (first | exact List.Sublist.refl _ | apply List.Sublist.cons_cons | apply List.Sublist.cons)))⟩, tp _⟩) ?_
          refine wpT_op rfl ?_
          go_wp2_with (refine wpF_bsK2 47 H (tabR_ok _ _) rfl rfl rfl rfl rfl HBP.out (markN_ok _ _) (fun b47 wn Hn => ?_); clear H; rename TF _ _ _ _ _ => H; (conv => arg 5; simp only [Act.put, List.setIfInBounds_toArray, List.set_cons_succ, List.set_cons_zero]))
          refine PlanTQ.mk (by exact ⟨⟨_, _, H.reb.sub (by (repeat (first | exact List.Sublist.refl _ | apply List.Sublist.cons_cons | apply List.Sublist.cons)))⟩, tp _⟩) ?_
          refine wpT_op rfl ?_
          go_wp2_with (refine wpF_appK (ks := s.2) (qs := [b.pub, markN s.1 b.body]) 48 H (tabR_ok _ _) rfl rfl rfl rfl rfl (fun A' cap' => by (repeat (first | exact Swap.head | apply Swap.tail))) (H.reb.blkT (by (repeat (first | exact List.mem_cons_self | refine List.mem_cons_of_mem _ ?_)))) (two_keys HBP.out (markN_ok _ _)) (by simp only [List.length_cons, List.length_nil]; omega) (fun A6 c6 wn Hn => ?_); clear H; rename TF _ _ _ _ _ => H; (conv => arg 5; simp only [Act.put, List.setIfInBounds_toArray, List.set_cons_succ, List.set_cons_zero]))
          refine PlanTQ.mk (by exact ⟨⟨_, _, H.reb.sub (by (repeat (first | exact List.Sublist.refl _ | apply List.Sublist.cons_cons | apply List.Sublist.cons)))⟩, tp _⟩) ?_
          (refine wpT_free rfl rfl (.inl ⟨rfl, fun w _ => by go_simp; rfl⟩) (by exact ⟨⟨_, _, H.reb.sub (by (repeat (first | exact List.Sublist.refl _ | apply List.Sublist.cons_cons | apply List.Sublist.cons)))⟩, tp _⟩) ?_; (conv => arg 6; simp only [Act.put, List.setIfInBounds_toArray, List.set_cons_succ, List.set_cons_zero]))
          refine wpT_done ?_
          rw [HQ.out]
          go_wp2_with fail
          go_round
          case rel =>
            refine ⟨i + 1, A6, c6, by omega, by go_num, ?_, ?_⟩
            · rw [HBE.out, boxK, List.length_append]; rfl
            · rw [HBE.out, boxK, List.length_append]
              exact H.sub (by (repeat (first | exact List.Sublist.refl _ | apply List.Sublist.cons_cons | apply List.Sublist.cons)))
          case measure => simp [intOf]; omega
        · obtain rfl : i = f.boxes.length := by omega
          have c73 := H.reb.cell (i := 73) (g := b3) (v := .slice a.ii f.ids.length a.ci) (by (repeat (first | exact List.mem_cons_self | refine List.mem_cons_of_mem _ ?_))) (fr_ids HO.out)
          go_wp2_with (first | (obtain ⟨t2, ht2⟩ := (H.rowC HR.out.ids HU.out.ids).toT; refine wpF_appK (ks := (frB ts f f.boxes.length).2) (qs := f.ids) 53 H (tabR_ok _ _) rfl rfl rfl rfl rfl (fun A' cap' => by (repeat (first | exact Swap.head | apply Swap.tail))) ht2 HO.out.ids (by omega) (fun A6 c6 wn Hn => ?_); clear ht2 c73; clear H; rename TF _ _ _ _ _ => H; (conv => arg 5; simp only [Act.put, List.setIfInBounds_toArray, List.set_cons_succ, List.set_cons_zero])))
          go_ret
          exact ⟨A6, c6, by rw [frK, List.length_append]; rfl, by rw [frK, List.length_append]; exact H.sub (by (repeat (first | exact List.Sublist.refl _ | apply List.Sublist.cons_cons | apply List.Sublist.cons)))⟩
end Go.Proofs.Ytcapfnbmmdbcoaa
