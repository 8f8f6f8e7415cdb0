/- FoeFollows: the walk of the law. -/
import Derived.Test.YtcapfnbmmdbcoaaFQ
set_option linter.unusedVariables false
set_option linter.unusedSimpArgs false
namespace Go.Proofs.Ytcapfnbmmdbcoaa
open Go.RowKit
theorem Follow16F {K0 : Nat → Prop} {Q : Res} {w0 w : World} {L : List Item} {g : Nat} {ts : List Tm} (h : TF K0 (starR (tabR g ts) Q) w0 w L) (hw : ∀ t ∈ ts, TmW t) {B : Option Addr} {n d : Nat} {seen : List (List Int)} (hn : n = seen.length) (hk : ∀ k ∈ seen, KeyOk k) (hl : seen.length ≤ 1000) (hr : RowT w 26 B (nums .u8 seen.flatten)) :
    Calls Try.prog 16 #[.pointer (some ⟨g, 0, none⟩), .slice B n d] w (FollowR ts seen w) := by
  subst hn
  obtain ⟨K, ⟨K1, K2, ⟨mb, A, c, T⟩, _⟩, _⟩ := h.ex
  exact Follow16 K1 g mb c d A B ts seen w T (fun t ht => (hw t ht).k46) hk hl hr
theorem TF.nodup {K0 : Nat → Prop} {Q : Res} {w0 w : World} {L : List Item} {g : Nat} {ts : List Tm} (h : TF K0 (starR (tabR g ts) Q) w0 w L) : ts.Nodup := by
  obtain ⟨K, ⟨K1, K2, ⟨mb, A, c, T⟩, _⟩, _⟩ := h.ex
  exact T.nd
/-- A region that draws its order; S holds of some of the items only. -/
theorem wp_region_planTL {P : Program} {a : Act} {w w0 : World} {Q : Exit → Act → World → Prop} {id : Nat} {ops : Array Oper} {R : Res} {K0 : Nat → Prop} {L : List Item} (L0 : List Item) (T : World → Prop) (s : PlanT) (hm : P.follows .mixedOrders = true) (hB : (Region.noSelect ops && planTB .any ops s (Array.replicate ops.size false) && decide (s.depth ≤ ops.size)) = true)
    (hQ : ∀ c a (d : Tmp) v w, Q (.panic c) (Act.put a (some d) v) w → Q (.panic c) a w) (H : TF K0 R w0 w L) (hR : Ok R)
    (h : ∀ (ops' : Array Oper) (Q' : Exit → Act → World → Prop), Hid (ops' = ops) → Hid (Q' = Q) → ∀ w1, TF K0 R w0 w1 L → wpPlanT P ops' (fun w' => (∃ v E, Mem v E w' L0) ∧ T w') Q' s a w1) : (Code.region id ops true).wp P Q a w :=
  wp_region_planS (fun w' => (∃ v E, Mem v E w' L0) ∧ T w') s hm hB hQ fun w1 hb =>
    h ops Q (hid rfl) (hid rfl) w1 (H.call0 hR ⟨hb.os, hb.tape, hb.output, hb.size, fun i hi _ => hb.block i hi, by simp, by simp, List.Pairwise.nil⟩)
theorem fol_sub {f h kb mb : Nat} {A : Option Addr} {bs : List Bool} (x y z : Item) : (folL f h kb A mb bs ++ [z]).Sublist (folL f h kb A mb bs ++ [x, y, z]) :=
  List.Sublist.append (List.Sublist.refl _) (List.Sublist.cons _ (List.Sublist.cons _ (List.Sublist.refl _)))
theorem app_nil (n : Nat) : 0 + n = n := Nat.zero_add n
/-- All that is seen: the keys of others, and the stranger's own draws. -/
def foeD (cs : List Ck) : List Tm × List (List Int) := draws ((foeM cs).1, secK) cs
theorem foeD_ok {cs : List Ck} (hc : ∀ c ∈ cs, CkOk c) (hl : cs.length ≤ 60) : DI 3 (foeM cs).1 cs.length (foeD cs) ∧ SI (foeM cs) ∧ CI 5 cs.length (foeM cs) := by
  have h1 := SI.cooks hc (by omega) cs.length (Nat.le_refl _)
  have h2 := sec_CI.cooks secK_ok hc (by omega) cs.length (Nat.le_refl _)
  rw [List.take_of_length_le (Nat.le_refl _)] at h1 h2
  have h3 := DI.draws (T := (foeM cs).1) h1.pre (cs := cs) (by have := h2.tl; unfold foeM; omega) cs.length (Nat.le_refl _)
  rw [List.take_of_length_le (Nat.le_refl _)] at h3
  exact ⟨h3, h1, h2⟩
theorem foeD_tw {cs : List Ck} (hc : ∀ c ∈ cs, CkOk c) (hl : cs.length ≤ 60) : ∀ t ∈ (foeD cs).1, TmW t := fun t ht => by
  obtain ⟨h1, _, h3⟩ := foeD_ok hc hl
  rcases h1.tw t ht with h | ⟨x, rfl⟩
  · exact h3.tw t h
  · exact ⟨fun h => by simp at h, fun h => by simp at h⟩
theorem foeD_made {cs : List Ck} (hc : ∀ c ∈ cs, CkOk c) (hl : cs.length ≤ 60) {bs : List Bool} (F : Follows (foeD cs).1 (foeD cs).2 bs) (hnd : (foeD cs).1.Nodup) : ∀ k ∈ (foeM cs).2, hasM bs k = true := by
  obtain ⟨h1, h2, h3⟩ := foeD_ok hc hl
  have hm := draws_mem (T := (foeM cs).1) cs ((foeM cs).1, secK)
  have := made_fol hc (by omega) F h1.pre (by have := h1.tl; have := h3.tl; omega) hnd hm.1 (fun c hc hk => (hm.2 c hc hk).1) cs.length (Nat.le_refl _)
  rw [List.take_of_length_le (Nat.le_refl _)] at this
  exact this
theorem foeD_not {cs : List Ck} (hc : ∀ c ∈ cs, CkOk c) (hl : cs.length ≤ 60) {bs : List Bool} (F : Follows (foeD cs).1 (foeD cs).2 bs) (hnd : (foeD cs).1.Nodup) : hasM bs (kn 0) = false ∧ hasM bs (kn 1) = false := by
  obtain ⟨h1, h2, h3⟩ := foeD_ok hc hl
  have hT := h2.pre.trans h1.pre
  have hll : (foeD cs).1.length ≤ 900000 := by have := h1.tl; have := h3.tl; omega
  have h5 : 5 ≤ (foeD cs).1.length := by have := hT.length_le; rw [sec_len] at this; exact this
  have hbl := F.len
  have := secret_not F hT hll hnd h1.ns (fun t ht h6 => by
    rcases h1.tw t ht with h | ⟨x, rfl⟩
    · exact h2.bx t h h6
    · simp at h6)
  rw [hasM_kn (by omega) (by omega), hasM_kn (by omega) (by omega)]
  exact this
theorem foeD_sec {cs : List Ck} (hc : ∀ c ∈ cs, CkOk c) (hl : cs.length ≤ 60) (hnd : (foeD cs).1.Nodup) : (nm (foeD cs).1 sT0 = kn 0 ∧ putL (foeD cs).1 sT0 = (foeD cs).1) ∧ (nm (foeD cs).1 sT1 = kn 1 ∧ putL (foeD cs).1 sT1 = (foeD cs).1) := by
  obtain ⟨h1, h2, h3⟩ := foeD_ok hc hl
  obtain ⟨e0, e1⟩ := sec0_at (h2.pre.trans h1.pre)
  exact ⟨nm_old e0 hnd, nm_old e1 hnd⟩
set_option maxRecDepth 100000 in
set_option maxHeartbeats 4000000 in
theorem follows_great (A : Option Addr) (d : Nat) (cs : List Ck) (w : World) (h : CksR w A cs) (hg : greatL cs = true) : Calls Try.prog 8 #[.slice A cs.length d] w (BoolR true w) := by
  have M0 := Mem.start w
  have HCS := hid h
  have HG := hid hg
  clear h hg
  go_enter Try.func8, Try.ntmps8
  go_wp2_with (first
    | (go_at_call 18; refine (alive18 _).mono ?_; rintro e w1 ⟨rfl, M1⟩; have M := M0.call M1.below; clear M0 M1)
    | (go_at_call 19; refine (great19 A d cs _ (HCS.out.mem' M)).mono ?_; rw [HG.out]; rintro e w2 ⟨rfl, M2⟩; have N := M.call M2.below; clear M M2)
    | (go_at_call 18; refine (alive18 _).mono ?_; rintro e w3 ⟨rfl, M3⟩; have N2 := N.call M3.below; clear N M3))
  go_ret
  exact ⟨rfl, N2⟩
set_option maxRecDepth 100000 in
set_option maxHeartbeats 4000000 in
theorem follows_small (A : Option Addr) (d : Nat) (cs : List Ck) (w : World) (h : CksR w A cs) (hg : greatL cs = false) : Calls Try.prog 8 #[.slice A cs.length d] w (BoolR true w) := by
  have M0 := Mem.start w
  obtain ⟨hcl, hck⟩ := great_no hg (fun c hc => by obtain ⟨i, hi⟩ := List.getElem?_of_mem hc; obtain ⟨_, _, _, _, _, _, _, hk⟩ := h i c hi; exact hk)
  have HCS := hid h
  have HG := hid hg
  have HCK := hid hck
  have HDI := fun i (hi : i ≤ cs.length) => hid (DI.draws (T := (foeM cs).1) (foeD_ok hck hcl).2.1.pre (cs := cs) (by have := (foeD_ok hck hcl).2.2.tl; omega) i hi)
  have hmt : (foeM cs).1.length ≤ 65 := by have := (foeD_ok hck hcl).2.2.tl; omega
  have hmm : (foeM cs).2.length ≤ 600 := by have := (foeD_ok hck hcl).2.2.ml; omega
  have HMO := hid (foeD_ok hck hcl).2.2.mo
  have hfo : (ByteArray.mk #[102, 111, 101, 32]).size = 4 := rfl
  clear h hg hck
  go_enter Try.func8, Try.ntmps8
  go_wp2_with (first
    | (go_at_call 18; refine (alive18 _).mono ?_; rintro e w1 ⟨rfl, M1⟩; have M := M0.call M1.below; clear M0 M1)
    | (go_at_call 19; refine (great19 A d cs _ (HCS.out.mem' M)).mono ?_; rw [HG.out]; rintro e w2 ⟨rfl, M2⟩; have N := M.call M2.below; clear M M2)
    | (go_at_call 20; refine (NewFree20 _).mono ?_; rintro e w3 ⟨g, rfl, F⟩; have H := TF.pre N F; clear N F)
    | (refine wpF_alC 3 H (tabR_ok _ _) z42 rfl rfl rfl rfl (fun b3 wn Hn => ?_); clear H; rename TF _ _ _ _ _ => H; (conv => arg 5; simp only [Act.put, List.setIfInBounds_toArray, List.set_cons_succ, List.set_cons_zero]))
    | (refine wpF_stC0 (vs := [.pointer (some ⟨g, 0, none⟩)]) rfl H (tabR_ok _ _) sz42 rfl rfl rfl rfl Swap.head rfl (by simp [Value.oneCell']) (fun wn Hn => ?_); clear H; rename TF _ _ _ _ _ => H; (try (conv => arg 5; simp only [Act.put, List.setIfInBounds_toArray, List.set_cons_succ, List.set_cons_zero])))
    | (refine wpList_ldagg 16 rfl Try.underlying42 rfl rfl rfl rfl (H.cellC List.mem_cons_self) sz42 ?_; (conv => arg 5; simp only [Act.put, List.setIfInBounds_toArray, List.set_cons_succ, List.set_cons_zero]))
    | (refine wpList_bld (vs := #[]) b48 rfl rfl rfl ?_; (conv => arg 5; simp only [Act.put, List.setIfInBounds_toArray, List.set_cons_succ, List.set_cons_zero]))
    | (refine wpF_bxC (cs := [.slice none 0 0, .slice none 0 0]) 18 H (tabR_ok _ _) rfl rfl rfl rfl (fun m wn Hn => ?_); clear H; have H := TF.refNew (tabR_ok _ _) Hn; clear Hn; (conv => arg 5; simp only [Act.put, List.setIfInBounds_toArray, List.set_cons_succ, List.set_cons_zero]))
    | (go_at_call 21; refine (H.go (Post := fun K => SecR K g m _) fun K hK hlt _ _ => secret21 hK hlt).mono ?_; rintro e wn ⟨K, ⟨bS, rfl, F⟩, hf⟩; replace H := hf _ _ F; clear hf F)
    | (refine wpList_ldagg 20 rfl Try.underlying42 rfl rfl rfl rfl (H.cellC (List.mem_cons_of_mem _ List.mem_cons_self)) sz42 ?_; (conv => arg 5; simp only [Act.put, List.setIfInBounds_toArray, List.set_cons_succ, List.set_cons_zero]))
    | (go_at_call 22; refine (foe22 H List.mem_cons_self HCS.out hcl HCK.out).mono ?_; clear H; rintro e wn ⟨BA, dA, rfl, H1⟩; have H2 := H1.comm.dropR.comm; have H := H2.step ((tabR_ok _ _).star (rowR_ok _ _)) (H2.reb.nil 26 32); clear H1 H2)
    | (refine wpF_appK (ks := []) (qs := secK) 26 H ((tabR_ok _ _).star (rowR_ok _ _)) rfl rfl rfl rfl rfl (fun A' cap' => Swap.head) (H.reb.blkT (by (repeat (first | exact List.mem_cons_self | refine List.mem_cons_of_mem _ ?_)))) (fun k hk => (secK_ok k hk).1) (by decide) (fun A6 c6 wn Hn => ?_); clear H; rename TF _ _ _ _ _ => H; simp only [Nat.zero_add, List.nil_append] at H ⊢; (conv => arg 5; simp only [Act.put, List.setIfInBounds_toArray, List.set_cons_succ, List.set_cons_zero])))
  go_loopw [6, 7] (fun o x wr => ∃ (i : Nat) (A6 : Option Addr) (c6 : Nat), i ≤ cs.length ∧ x = .int .i64 i ∧ o = .slice A6 (draws ((foeM cs).1, secK) (cs.take i)).2.length c6 ∧ TF (fun _ => False) (starR (tabR g (draws ((foeM cs).1, secK) (cs.take i)).1) (rowR BA (foeM cs).2)) w wr [.vec A6 (draws ((foeM cs).1, secK) (cs.take i)).2.length c6 26 32 (nums .u8 (draws ((foeM cs).1, secK) (cs.take i)).2.flatten), .blk bS (rowO .u8 26 secK.flatten), .blk b3 (cellsO 42 [.pointer (some ⟨g, 0, none⟩)])]) (fun _ x _ => cs.length - (intOf x).toNat)
  case atStart => exact ⟨0, A6, c6, by omega, rfl, rfl, H⟩
  case round =>
    clear H
    obtain ⟨i, A6, c6, hi, rfl, rfl, H⟩ := hrel
    by_cases hlt : i < cs.length
    · have hltI : (i : Int) < (cs.length : Int) := by omega
      obtain ⟨c, hce⟩ : ∃ c, cs[i]? = some c := ⟨cs[i], List.getElem?_eq_getElem hlt⟩
      obtain ⟨b, off, I, ic, hA, hc, _, _⟩ := HCS.out i c hce
      subst hA
      have hD := (HDI i (by omega)).out
      have hD2 := (HDI (i + 1) (by omega)).out
      have hsucc := hid (draws_succ (s := ((foeM cs).1, secK)) hce)
      have hc0 : wr.cell? ⟨b, off + i * 36, none⟩ = some (.int .i64 c.kind) := H.cellO (hc 0 (.int .i64 c.kind) rfl) id
      have HC2 := hid (fun (w' : World) (P : Res) (L : List Item) (H : TF (fun _ => False) P w w' L) => H.cellO (hc 2 (.string c.text) rfl) id)
      have htx : c.text.size ≤ 200 := (HCK.out c (List.mem_of_getElem? hce)).tx
      have HF := hid (foe_size htx)
      obtain ⟨s, hs⟩ : ∃ s, s = draws ((foeM cs).1, secK) (cs.take i) := ⟨_, rfl⟩
      rw [← hs] at H hD hsucc
      rw [← hs]
      have hsl : s.1.length ≤ 800000 := by have := hD.tl; omega
      have hsm : s.2.length + 1 ≤ 1000000 := by have := hD.ml; omega
      have hf4 : ByteArray.size ⟨#[102, 111, 101, 32]⟩ + c.text.size ≤ 1000 := by omega
      clear hce hc hD hD2 hs
      by_cases hk : c.kind = 2
      · rw [hk] at hc0
        have HK := hid hk
        clear hk
        go_wp2_with fail
        refine wp_region_planTL [.blk b3 (cellsO 42 [.pointer (some ⟨g, 0, none⟩)])] (fun w' => w'.cell? ⟨b, off + i * 36 + 2, none⟩ = some (.string c.text)) (.free 0 (.free 1 (.free 2 (.free 3 (.free 4 (.free 5 (.free 6 (.free 7 (.free 8 (.one 9 (.one 10 (.one 11 (.free 12 (.done)))))))))))))) (by kernel_rfl) (by kernel_rfl) (fun _ _ _ _ _ h => h) H ((tabR_ok _ _).star (rowR_ok _ _)) ?_
        clear H hc0
        intro ops Q HO HQ w3 H
        have hops := HO.out
        subst hops
        (refine wpT_free rfl rfl (.inl ⟨rfl, fun w _ => by go_simp; rfl⟩) (by exact ⟨⟨_, _, H.reb.sub (by (repeat (first | exact List.Sublist.refl _ | apply List.Sublist.cons_cons | apply List.Sublist.cons)))⟩, HC2.out _ _ _ H⟩) ?_; (conv => arg 6; simp only [Act.put, List.setIfInBounds_toArray, List.set_cons_succ, List.set_cons_zero]))
        (refine wpT_free rfl rfl (.inl ⟨rfl, fun w _ => by go_simp; rfl⟩) (by exact ⟨⟨_, _, H.reb.sub (by (repeat (first | exact List.Sublist.refl _ | apply List.Sublist.cons_cons | apply List.Sublist.cons)))⟩, HC2.out _ _ _ H⟩) ?_; (conv => arg 6; simp only [Act.put, List.setIfInBounds_toArray, List.set_cons_succ, List.set_cons_zero]))
        (refine wpT_free (v := .pointer (some ⟨g, 0, none⟩)) rfl rfl (.inl ⟨rfl, fun w hw => run_ld1 Try.underlying23 rfl rfl rfl (by obtain ⟨⟨_, _, M⟩, _⟩ := hw; exact M.cell (i := 0) (by (repeat (first | exact List.mem_cons_self | refine List.mem_cons_of_mem _ ?_))) rfl)⟩) (by exact ⟨⟨_, _, H.reb.sub (by (repeat (first | exact List.Sublist.refl _ | apply List.Sublist.cons_cons | apply List.Sublist.cons)))⟩, HC2.out _ _ _ H⟩) ?_; (conv => arg 6; simp only [Act.put, List.setIfInBounds_toArray, List.set_cons_succ, List.set_cons_zero]))
        (refine wpT_free rfl rfl (.inl ⟨rfl, fun w _ => by go_simp; rfl⟩) (by exact ⟨⟨_, _, H.reb.sub (by (repeat (first | exact List.Sublist.refl _ | apply List.Sublist.cons_cons | apply List.Sublist.cons)))⟩, HC2.out _ _ _ H⟩) ?_; (conv => arg 6; simp only [Act.put, List.setIfInBounds_toArray, List.set_cons_succ, List.set_cons_zero]))
        (refine wpT_free rfl rfl (.inl ⟨rfl, fun w _ => by go_simp; rfl⟩) (by exact ⟨⟨_, _, H.reb.sub (by (repeat (first | exact List.Sublist.refl _ | apply List.Sublist.cons_cons | apply List.Sublist.cons)))⟩, HC2.out _ _ _ H⟩) ?_; (conv => arg 6; simp only [Act.put, List.setIfInBounds_toArray, List.set_cons_succ, List.set_cons_zero]))
        (refine wpT_free (v := .pointer (some ⟨b, off + i * 36, none⟩)) rfl rfl (.inl ⟨rfl, fun w _ => by go_simp⟩) (by exact ⟨⟨_, _, H.reb.sub (by (repeat (first | exact List.Sublist.refl _ | apply List.Sublist.cons_cons | apply List.Sublist.cons)))⟩, HC2.out _ _ _ H⟩) ?_; (conv => arg 6; simp only [Act.put, List.setIfInBounds_toArray, List.set_cons_succ, List.set_cons_zero]))
        (refine wpT_free rfl rfl (.inl ⟨rfl, fun w _ => by go_simp; rfl⟩) (by exact ⟨⟨_, _, H.reb.sub (by (repeat (first | exact List.Sublist.refl _ | apply List.Sublist.cons_cons | apply List.Sublist.cons)))⟩, HC2.out _ _ _ H⟩) ?_; (conv => arg 6; simp only [Act.put, List.setIfInBounds_toArray, List.set_cons_succ, List.set_cons_zero]))
        (refine wpT_free (v := .string c.text) rfl rfl (.inl ⟨rfl, fun w hw => run_ld1 Try.underlying9 rfl rfl rfl hw.2⟩) (by exact ⟨⟨_, _, H.reb.sub (by (repeat (first | exact List.Sublist.refl _ | apply List.Sublist.cons_cons | apply List.Sublist.cons)))⟩, HC2.out _ _ _ H⟩) ?_; (conv => arg 6; simp only [Act.put, List.setIfInBounds_toArray, List.set_cons_succ, List.set_cons_zero]))
        (refine wpT_free rfl rfl (.inl ⟨rfl, fun w _ => by go_simp; rw [if_neg (by (try simp only [ByteArray.size_append]); omega)]⟩) (by exact ⟨⟨_, _, H.reb.sub (by (repeat (first | exact List.Sublist.refl _ | apply List.Sublist.cons_cons | apply List.Sublist.cons)))⟩, HC2.out _ _ _ H⟩) ?_; (conv => arg 6; simp only [Act.put, List.setIfInBounds_toArray, List.set_cons_succ, List.set_cons_zero]))
        refine wpT_op rfl ?_
        go_wp2_with (go_at_call 12; refine (DrawT (text := foeS c.text) (rowR_ok _ _) H HF.out (by omega)).mono ?_; clear H; rintro e wn ⟨rfl, H⟩)
        refine PlanTQ.mk (by exact ⟨⟨_, _, H.reb.sub (by (repeat (first | exact List.Sublist.refl _ | apply List.Sublist.cons_cons | apply List.Sublist.cons)))⟩, HC2.out _ _ _ H⟩) ?_
        refine wpT_op rfl ?_
        go_wp2_with (refine wpF_bsK1 49 H ((tabR_ok _ _).star (rowR_ok _ _)) rfl rfl rfl rfl (nm_ok _ _) (fun b49 wn Hn => ?_); clear H; rename TF _ _ _ _ _ => H; (conv => arg 5; simp only [Act.put, List.setIfInBounds_toArray, List.set_cons_succ, List.set_cons_zero]))
        refine PlanTQ.mk (by exact ⟨⟨_, _, H.reb.sub (by (repeat (first | exact List.Sublist.refl _ | apply List.Sublist.cons_cons | apply List.Sublist.cons)))⟩, HC2.out _ _ _ H⟩) ?_
        refine wpT_op rfl ?_
        go_wp2_with (refine wpF_appK (ks := s.2) (qs := [nm s.1 ⟨1, foeS c.text, []⟩]) 50 H ((tabR_ok _ _).star (rowR_ok _ _)) rfl rfl rfl rfl rfl (fun A' cap' => Swap.tail Swap.head) (H.reb.blkT List.mem_cons_self) (one_ok (nm_ok _ _)) hsm (fun A7 c7 wn Hn => ?_); clear H; rename TF _ _ _ _ _ => H; (conv => arg 5; simp only [Act.put, List.setIfInBounds_toArray, List.set_cons_succ, List.set_cons_zero]))
        refine PlanTQ.mk (by exact ⟨⟨_, _, H.reb.sub (by (repeat (first | exact List.Sublist.refl _ | apply List.Sublist.cons_cons | apply List.Sublist.cons)))⟩, HC2.out _ _ _ H⟩) ?_
        (refine wpT_free rfl rfl (.inl ⟨rfl, fun w _ => by go_simp; rfl⟩) (by exact ⟨⟨_, _, H.reb.sub (by (repeat (first | exact List.Sublist.refl _ | apply List.Sublist.cons_cons | apply List.Sublist.cons)))⟩, HC2.out _ _ _ H⟩) ?_; (conv => arg 6; simp only [Act.put, List.setIfInBounds_toArray, List.set_cons_succ, List.set_cons_zero]))
        refine wpT_done ?_
        rw [HQ.out]
        go_wp2_with fail
        go_round
        case rel =>
          refine ⟨i + 1, A7, c7, by omega, by go_num, ?_, ?_⟩
          · rw [hsucc.out, drawS, if_pos HK.out, List.length_append]; rfl
          · rw [hsucc.out, drawS, if_pos HK.out, List.length_append]
            exact H.sub (by (repeat (first | exact List.Sublist.refl _ | apply List.Sublist.cons_cons | apply List.Sublist.cons)))
        case measure => simp [intOf]; omega
      · go_wp2_with fail
        go_round
        case rel =>
          refine ⟨i + 1, A6, c6, by omega, by go_num, ?_, ?_⟩
          · rw [hsucc.out, drawS, if_neg hk]
          · rw [hsucc.out, drawS, if_neg hk]
            exact H
        case measure => simp [intOf]; omega
    · obtain rfl : i = cs.length := by omega
      rw [List.take_of_length_le (Nat.le_refl _)] at H ⊢
      have hnd := H.nodup
      have HTW := hid (foeD_tw HCK.out hcl)
      have HDD := hid (foeD_ok HCK.out hcl).1
      have hsl : (foeD cs).2.length ≤ 1000 := by have := HDD.out.ml; omega
      have htl : (foeD cs).1.length ≤ 1000 := by have := HDD.out.tl; omega
      have HSEC := hid (foeD_sec HCK.out hcl hnd)
      have HND := hid hnd
      clear hnd
      change TF _ (starR (tabR g (foeD cs).1) (rowR BA (foeM cs).2)) w wr (.vec A6 (foeD cs).2.length c6 26 32 (nums .u8 (foeD cs).2.flatten) :: _) at H
      have cg := H.reb.cell (i := 0) (g := b3) (v := .pointer (some ⟨g, 0, none⟩)) (by (repeat (first | exact List.mem_cons_self | refine List.mem_cons_of_mem _ ?_))) rfl
      go_wp2_with (go_at_call 16; refine (Follow16F H HTW.out (seen := (foeD cs).2) rfl HDD.out.mo hsl (H.reb.vecT List.mem_cons_self)).mono ?_; rintro e wn ⟨f, hf, kf, mf, Af, bs, rfl, FF, M16⟩; replace H := (H.call ((tabR_ok _ _).star (rowR_ok _ _)) M16).sub (L' := folL f hf kf Af mf bs ++ [.blk b3 (cellsO 42 [.pointer (some ⟨g, 0, none⟩)])]) (fol_sub _ _ _); clear M16 cg)
      have HMF := hid (foeD_made HCK.out hcl FF HND.out)
      have HNF := hid (foeD_not HCK.out hcl FF HND.out)
      have hbl : bs.length ≤ 1000000 := by have := FF.len; omega
      clear FF
      go_loopw [9] (fun x wr => ∃ j : Nat, j ≤ (foeM cs).2.length ∧ x = .int .i64 j ∧ TF (fun _ => False) (starR (tabR g (foeD cs).1) (rowR BA (foeM cs).2)) w wr (folL f hf kf Af mf bs ++ [.blk b3 (cellsO 42 [.pointer (some ⟨g, 0, none⟩)])])) (fun x _ => (foeM cs).2.length - (intOf x).toNat)
      case atStart => exact ⟨0, by omega, rfl, H⟩
      case round =>
        clear H
        obtain ⟨j, hj, rfl, H⟩ := hrel
        by_cases hjl : j < (foeM cs).2.length
        · have hjI : (j : Int) < ((foeM cs).2.length : Int) := by omega
          obtain ⟨k, hke⟩ : ∃ k, (foeM cs).2[j]? = some k := ⟨(foeM cs).2[j], List.getElem?_eq_getElem hjl⟩
          have hkm := List.mem_of_getElem? hke
          have HKO := hid (HMO.out k hkm)
          have HKT := hid (HMF.out k hkm)
          obtain ⟨bk, ok, hB, hcc⟩ := keys_at HMO.out H.rowT hke
          subst hB
          have HCC := hid hcc
          clear hke hkm hcc
          go_wp2_with (first
            | (refine wpList_ldagg 65 rfl Try.underlying26 rfl rfl rfl rfl HCC.out (s26k HKO.out) ?_; (conv => arg 5; simp only [Act.put, List.setIfInBounds_toArray, List.set_cons_succ, List.set_cons_zero]))
            | (go_at_call 42; refine (has42 _ _ _ _ _ _ _ _ (H.reb.fp (fun x hx => List.mem_append_left _ hx)) HKO.out hbl).mono ?_; rw [HKT.out]; rintro e wn ⟨rfl, M17⟩; replace H := H.call0 ((tabR_ok _ _).star (rowR_ok _ _)) M17; clear M17))
          go_round
          case rel => exact ⟨j + 1, by omega, by go_num, H⟩
          case measure => simp [intOf]; omega
        · obtain rfl : j = (foeM cs).2.length := by omega
          have cg := H.reb.cell (i := 0) (g := b3) (v := .pointer (some ⟨g, 0, none⟩)) (List.mem_append_right _ List.mem_cons_self) rfl
          go_wp2_with (first
            | (go_at_call 18; refine (alive18 _).mono ?_; rintro e wn ⟨rfl, M1⟩; replace H := H.call0 ((tabR_ok _ _).star (rowR_ok _ _)) M1; replace cg := M1.cell0 cg; clear M1)
            | (go_at_call 12; refine (DrawTN (text := sT0.text) (rowR_ok _ _) H HSEC.out.1 (by decide) (by omega)).mono ?_; clear H cg; rintro e wn ⟨rfl, H⟩; have cg := H.reb.cell (i := 0) (g := b3) (v := .pointer (some ⟨g, 0, none⟩)) (List.mem_append_right _ List.mem_cons_self) rfl)
            | (go_at_call 12; refine (DrawTN (text := sT1.text) (rowR_ok _ _) H HSEC.out.2 (by decide) (by omega)).mono ?_; clear H cg; rintro e wn ⟨rfl, H⟩; have cg := H.reb.cell (i := 0) (g := b3) (v := .pointer (some ⟨g, 0, none⟩)) (List.mem_append_right _ List.mem_cons_self) rfl)
            | (go_at_call 42; refine (has42 _ _ _ _ _ _ _ _ (H.reb.fp (fun x hx => List.mem_append_left _ hx)) (by exact kn_ok _) hbl).mono ?_; (first | rw [HNF.out.1] | rw [HNF.out.2]); rintro e wn ⟨rfl, M17⟩; replace H := H.call0 ((tabR_ok _ _).star (rowR_ok _ _)) M17; replace cg := M17.cell0 cg; clear M17))
          go_ret
          exact ⟨rfl, H.toMem.sub (List.nil_sublist _)⟩
set_option maxRecDepth 100000 in
theorem FoeFollows8 (A : Option Addr) (d : Nat) (cs : List Ck) (w : World) (h : CksR w A cs) : Calls Try.prog 8 #[.slice A cs.length d] w fun e w' => e = .returned (.bool true) ∧ Below w.heap.size w w' := by
  refine Calls.mono (R := BoolR true w) ?_ fun e w' ⟨he, M⟩ => ⟨he, M.below⟩
  cases hg : greatL cs
  · exact follows_small A d cs w h hg
  · exact follows_great A d cs w h hg
end Go.Proofs.Ytcapfnbmmdbcoaa
