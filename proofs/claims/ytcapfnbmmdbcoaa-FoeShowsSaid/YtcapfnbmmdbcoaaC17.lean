/- Walks of the term layer: a box is opened. -/
import Derived.Test.YtcapfnbmmdbcoaaC16
set_option linter.unusedVariables false
set_option linter.unusedSimpArgs false
namespace Go.Proofs.Ytcapfnbmmdbcoaa
open Go.RowKit
theorem run_slLowM (m : Nat) {P : Program} {o : Oper} {a : Act} {t e : TypeId} {size : Nat} (hu : P.underlying t = some (.slice e)) (hsz : (P.info? e).map (·.size) = some size) {x lo : Operand} (ho : o.op = .slice t x (some lo) none none) {A : Option Addr} {n c : Nat} (hx : a.eval x = .slice A n c) {k : IntKind} {l : Int} (hl : a.eval lo = .int k l) (hlm : l = (m : Int)) (h1 : m ≤ n) (hnc : n ≤ c) (w : World) :
    (execOp a.eval o).run P w = .ok (.value (.slice (lowA A c m size) (n - m) (c - m))) w := by
  subst hlm
  exact run_slLow hu hsz ho hx hl (by omega) (by omega) hnc w
/-- What a box has that a key and a name open. -/
def openM (ts : List Tm) (k b : List Int) (s : ByteArray) : Option (ByteArray × List (List Int)) :=
  if s.size = 32 ∧ 0 ≤ numT ts.length (bytesOf s) then (match ts[(numT ts.length (bytesOf s)).toNat]? with | some t => if t.kind = 6 ∧ t.keys.getD 0 [] = k ∧ t.keys.getD 1 [] = b then some (t.text, t.keys.drop 2) else none | none => none) else none
def OpenR (w : World) : Option (ByteArray × List (List Int)) → Ending → World → Prop
  | none, e, w' => e = .returned (.tuple #[.string ⟨#[]⟩, .slice none 0 0, .bool false]) ∧ Mem w [] w' []
  | some (x, ks), e, w' => ∃ A c, e = .returned (.tuple #[.string x, .slice A ks.length c, .bool true]) ∧ ks.length ≤ c ∧ (A = none → c = 0) ∧ RowT w' 26 A (nums .u8 ks.flatten) ∧ Mem w [] w' [.vec A ks.length c 26 32 (nums .u8 ks.flatten)]
set_option maxRecDepth 100000 in
set_option maxHeartbeats 4000000 in
theorem Open17 (K : Nat → Prop) (g mb c : Nat) (A : Option Addr) (ts : List Tm) (k b : List Int) (s : ByteArray) (w : World) (h : TabP K w g mb A c ts) (hw : ∀ t ∈ ts, TmW t) (hk : KeyOk k) (hb : KeyOk b) :
    Calls Try.prog 17 #[.pointer (some ⟨g, 0, none⟩), .agg (nums .u8 k).toArray, .agg (nums .u8 b).toArray, .string s] w (OpenR w (openM ts k b s)) := by
  have M0 := Mem.start w
  have HT := hid h
  have HCG := hid (show w.cell? ⟨g, 0, none⟩ = some (.slice A ts.length c) from by rw [cell_of_row w g 0 _ 88 (0, 0) h.hg]; rfl)
  have HK := hid hk
  have HB := hid hb
  have HW := hid hw
  have hn : ts.length ≤ 1000000 := h.few
  clear h hk hb hw
  by_cases hs : s.size = 32
  · have HS := hid hs
    have HBL := hid (show (bytesOf s).length = 32 from by rw [bytesOf_length, hs])
    have HBO := hid (show KeyOk (bytesOf s) from ⟨HBL.out, bytesOf_all s⟩)
    have hsI : (s.size : Int) = 32 := by omega
    rcases numT_cases ts.length (bytesOf s) HBO.out with hm | ⟨i, hi, hm⟩
    · have HM := hid hm
      rw [show openM ts k b s = none from by rw [openM, hm, if_neg (fun h => absurd h.2 (by decide))]]
      clear hs hm
      go_enter Try.func17, Try.ntmps17
      go_upto_region 6 with (first | (refine wpList_bxN 5 rfl rfl rfl rfl M0 (fun b5 w1 M1 => ?_); clear M0; (conv => arg 5; simp only [Act.put, List.setIfInBounds_toArray, List.set_cons_succ, List.set_cons_zero])) | (refine wpList_bxN 6 rfl rfl rfl rfl M1 (fun b6 w2 M2 => ?_); clear M1; (conv => arg 5; simp only [Act.put, List.setIfInBounds_toArray, List.set_cons_succ, List.set_cons_zero])) | (refine wpList_alN z26 11 rfl rfl rfl M2 (fun b11 w3 M3 => ?_); clear M2; (conv => arg 5; simp only [Act.put, List.setIfInBounds_toArray, List.set_cons_succ, List.set_cons_zero])) | (refine wpList_slW Try.underlying26 s5 (by decide) rfl rfl rfl ?_; (conv => arg 5; simp only [Act.put, List.setIfInBounds_toArray, List.set_cons_succ, List.set_cons_zero])) | (refine wpList_cpS 32 [] (nums .u8 (List.replicate 32 0)) [] Try.underlying37 s5 rfl rfl rfl rfl M3 (by rw [HS.out]; rfl) (by rw [List.append_nil, List.nil_append, List.append_nil, List.nil_append]; exact Swap.head) rfl (by rw [nums_length]; rfl) (fun w4 M4 => ?_); clear M3; rw [List.take_of_length_le (by rw [HBL.out]; decide)] at M4; (conv => arg 5; simp only [Act.put, List.setIfInBounds_toArray, List.set_cons_succ, List.set_cons_zero])) | (refine wpList_ldrowN Try.underlying26 s26 rfl rfl rfl rfl M4 List.mem_cons_self HBL.out ?_; (conv => arg 5; simp only [Act.put, List.setIfInBounds_toArray, List.set_cons_succ, List.set_cons_zero])) | (go_at_call 43; refine (number43 g ts.length c _ (bytesOf s) _ (M4.cell0 HCG.out) HBO.out.1 HBO.out.2 hn).mono ?_; rintro e w5 ⟨rfl, M5⟩; have M6 := M4.call M5.below; clear M4 M5; rw [HM.out]))
      go_wp2_with fail
      go_ret3
      exact ⟨rfl, M6.sub (List.nil_sublist _)⟩
    · have HM := hid hm
      obtain ⟨t, hte⟩ : ∃ t, ts[i]? = some t := ⟨ts[i], List.getElem?_eq_getElem hi⟩
      have hop : openM ts k b s = if t.kind = 6 ∧ t.keys.getD 0 [] = k ∧ t.keys.getD 1 [] = b then some (t.text, t.keys.drop 2) else none := by
        rw [openM, hm, if_pos ⟨hs, by omega⟩, Int.toNat_natCast, hte]
      obtain ⟨bT, B, d, hA, hct, hd, hBn, hBr⟩ := HT.out.get hte
      have HTO := hid (HT.out.ok t (List.mem_of_getElem? hte))
      have HTW := hid (HW.out t (List.mem_of_getElem? hte))
      have HR := hid hBr
      subst hA
      have hiI : (i : Int) < (ts.length : Int) := by omega
      clear hs hm hte hBr hBn
      by_cases e6 : t.kind = 6
      · rw [e6] at hct
        have HCT := hid hct
        have hk2 := HTW.out.k46 (.inr e6)
        have q0 : t.keys[0]? = some (t.keys.getD 0 []) := by rw [List.getD_eq_getElem?_getD, List.getElem?_eq_getElem (by omega)]; rfl
        have q1 : t.keys[1]? = some (t.keys.getD 1 []) := by rw [List.getD_eq_getElem?_getD, List.getElem?_eq_getElem (by omega)]; rfl
        have HK0 := hid (HTO.out.ks _ (List.mem_of_getElem? q0))
        have HK1 := hid (HTO.out.ks _ (List.mem_of_getElem? q1))
        obtain ⟨bk, off, hB, hc0⟩ := keys_at HTO.out.ks HR.out q0
        subst hB
        have hc1 := keys_cells HTO.out.ks HR.out q1
        obtain ⟨k0, hk0⟩ : ∃ x, x = t.keys.getD 0 [] := ⟨_, rfl⟩
        obtain ⟨k1, hk1⟩ : ∃ x, x = t.keys.getD 1 [] := ⟨_, rfl⟩
        rw [← hk0] at HK0 hc0 hop
        rw [← hk1] at HK1 hc1 hop
        have HC0 := hid hc0
        have HC1 := hid hc1
        obtain ⟨kd, hkd⟩ : ∃ x : Int, x = 6 := ⟨_, rfl⟩
        clear hct q0 q1 hc0 hc1 hk0 hk1
        have hk3 : (0 : Int) < (t.keys.length : Int) := by omega
        have hk4 : (1 : Int) < (t.keys.length : Int) := by omega
        by_cases h0 : k0 = k
        · by_cases h1 : k1 = b
          · rw [hop, if_pos ⟨e6, h0, h1⟩]
            have HE := hid (show decide (k0 = k) = !false from decide_eq_true h0)
            have HE1 := hid (show decide (k1 = b) = !false from decide_eq_true h1)
            have hcl : RowT w 26 (lowA (some ⟨bk, off, none⟩) d 2 32) (nums .u8 (t.keys.drop 2).flatten) := by
              have h1 := HR.out.low (c := d) (low := 2) (size := 32) (by rw [nums_length, flat_len HTO.out.ks]; omega)
              rw [show (nums .u8 t.keys.flatten).drop (2 * 32) = nums .u8 (t.keys.drop 2).flatten from by rw [← flat_drop 2 HTO.out.ks, nums, nums, List.map_drop]] at h1
              exact h1
            have HCL := hid (fun (w' : World) (hr : RowT w' 26 (lowA (some ⟨bk, off, none⟩) d 2 32) (nums .u8 (t.keys.drop 2).flatten)) => by
              have := Clone44 (lowA (some ⟨bk, off, none⟩) d 2 32) (d - 2) (t.keys.drop 2) w' (fun q hq => HTO.out.ks q (List.mem_of_mem_drop hq)) hr (fun h => by unfold lowA at h; split at h <;> cases h) (by rw [List.length_drop]; have := HTO.out.kl; omega)
              rw [List.length_drop] at this
              exact this)
            have HLR := hid hcl
            clear hop h0 h1 e6 hcl
            rw [← hkd] at HCT
            go_enter Try.func17, Try.ntmps17
            go_upto_region 6 with (first | (refine wpList_bxN 5 rfl rfl rfl rfl M0 (fun b5 w1 M1 => ?_); clear M0; (conv => arg 5; simp only [Act.put, List.setIfInBounds_toArray, List.set_cons_succ, List.set_cons_zero])) | (refine wpList_bxN 6 rfl rfl rfl rfl M1 (fun b6 w2 M2 => ?_); clear M1; (conv => arg 5; simp only [Act.put, List.setIfInBounds_toArray, List.set_cons_succ, List.set_cons_zero])) | (refine wpList_alN z26 11 rfl rfl rfl M2 (fun b11 w3 M3 => ?_); clear M2; (conv => arg 5; simp only [Act.put, List.setIfInBounds_toArray, List.set_cons_succ, List.set_cons_zero])) | (refine wpList_slW Try.underlying26 s5 (by decide) rfl rfl rfl ?_; (conv => arg 5; simp only [Act.put, List.setIfInBounds_toArray, List.set_cons_succ, List.set_cons_zero])) | (refine wpList_cpS 32 [] (nums .u8 (List.replicate 32 0)) [] Try.underlying37 s5 rfl rfl rfl rfl M3 (by rw [HS.out]; rfl) (by rw [List.append_nil, List.nil_append, List.append_nil, List.nil_append]; exact Swap.head) rfl (by rw [nums_length]; rfl) (fun w4 M4 => ?_); clear M3; rw [List.take_of_length_le (by rw [HBL.out]; decide)] at M4; (conv => arg 5; simp only [Act.put, List.setIfInBounds_toArray, List.set_cons_succ, List.set_cons_zero])) | (refine wpList_ldrowN Try.underlying26 s26 rfl rfl rfl rfl M4 List.mem_cons_self HBL.out ?_; (conv => arg 5; simp only [Act.put, List.setIfInBounds_toArray, List.set_cons_succ, List.set_cons_zero])) | (go_at_call 43; refine (number43 g ts.length c _ (bytesOf s) _ (M4.cell0 HCG.out) HBO.out.1 HBO.out.2 hn).mono ?_; rintro e w5 ⟨rfl, M5⟩; have M6 := M4.call M5.below; clear M4 M5; rw [HM.out]))
            have cg := M6.cell0 HCG.out
            go_upto_region 9 with (first | (refine wpList_ldagg 31 rfl Try.underlying95 rfl rfl rfl rfl (M6.cells0 HCT.out) sz95 ?_; (conv => arg 5; simp only [Act.put, List.setIfInBounds_toArray, List.set_cons_succ, List.set_cons_zero])) | (refine wpList_al rfl rfl M6 z95 rfl (fun b13 w7 M7 => ?_); clear M6 cg; (conv => arg 5; simp only [Act.put, List.setIfInBounds_toArray, List.set_cons_succ, List.set_cons_zero])) | (refine wpList_strow (vs := [.int .i64 kd, .string t.text, .slice _ t.keys.length d]) rfl rfl rfl rfl M7 Swap.head sz95 rfl (by simp [Value.oneCell']) (fun w8 M8 => ?_); clear M7; (conv => arg 5; simp only [Act.put, List.setIfInBounds_toArray, List.set_cons_succ, List.set_cons_zero])))
            refine wp_region_planT (.free 0 (.free 1 (.free 2 (.free 3 (.free 4 (.free 5 (.free 6 (.free 7 (.free 8 (.free 9 (.free 10 (.free 11 (.free 12 (.free 13 (.free 14 (.free 15 (.free 16 (.free 17 (.free 18 (.done)))))))))))))))))))) (by kernel_rfl) (by kernel_rfl) (fun _ _ _ _ _ h => h) M8 (fun w9 M9 => ?_)
            clear M8
            (refine wpT_free rfl rfl (.inl ⟨rfl, fun w _ => by go_simp; rfl⟩) (by assumption) ?_; (conv => arg 6; simp only [Act.put, List.setIfInBounds_toArray, List.set_cons_succ, List.set_cons_zero]))
            refine wpT_free rfl rfl (.inl ⟨rfl, fun w hw => run_ld1 Try.underlying3 rfl rfl rfl (hw.cell List.mem_cons_self (i := 0) rfl)⟩) (by assumption) ?_; (conv => arg 6; simp only [Act.put, List.setIfInBounds_toArray, List.set_cons_succ, List.set_cons_zero])
            refine wpT_free (v := .bool false) rfl rfl (.inl ⟨rfl, fun w _ => by subst hkd; go_simp⟩) (by assumption) ?_; (conv => arg 6; simp only [Act.put, List.setIfInBounds_toArray, List.set_cons_succ, List.set_cons_zero])
            iterate 2 (refine wpT_free rfl rfl (.inl ⟨rfl, fun w _ => by go_simp; rfl⟩) (by assumption) ?_; (conv => arg 6; simp only [Act.put, List.setIfInBounds_toArray, List.set_cons_succ, List.set_cons_zero]))
            refine wpT_free rfl rfl (.inl ⟨rfl, fun w hw => run_ld1 Try.underlying34 rfl rfl rfl (hw.cell (i := 2) List.mem_cons_self rfl)⟩) (by assumption) ?_; (conv => arg 6; simp only [Act.put, List.setIfInBounds_toArray, List.set_cons_succ, List.set_cons_zero])
            refine wpT_free (v := .pointer (some ⟨bk, off, none⟩)) rfl rfl (.inl ⟨rfl, fun w _ => by go_simp; intro hnil; rw [hnil] at hk2; simp at hk2⟩) (by assumption) ?_; (conv => arg 6; simp only [Act.put, List.setIfInBounds_toArray, List.set_cons_succ, List.set_cons_zero])
            refine wpT_free rfl rfl (.inl ⟨rfl, fun w hw => run_ldK Try.underlying26 rfl rfl rfl (hw.cells0 (off := off) (by simpa using HC0.out)) (s26k HK0.out)⟩) (by assumption) ?_; (conv => arg 6; simp only [Act.put, List.setIfInBounds_toArray, List.set_cons_succ, List.set_cons_zero])
            refine wpT_free rfl rfl (.inl ⟨rfl, fun w hw => run_ldrowN Try.underlying26 s26 rfl rfl rfl hw (List.mem_cons_of_mem _ (List.mem_cons_of_mem _ (List.mem_cons_of_mem _ List.mem_cons_self))) HK.out.1⟩) (by assumption) ?_; (conv => arg 6; simp only [Act.put, List.setIfInBounds_toArray, List.set_cons_succ, List.set_cons_zero])
            refine wpT_free rfl rfl (.inl ⟨rfl, fun w _ => run_neq26b false rfl rfl rfl HK0.out.1 HK.out.1 HE.out w⟩) (by assumption) ?_; (conv => arg 6; simp only [Act.put, List.setIfInBounds_toArray, List.set_cons_succ, List.set_cons_zero])
            iterate 3 (refine wpT_free rfl rfl (.inl ⟨rfl, fun w _ => by go_simp; rfl⟩) (by assumption) ?_; (conv => arg 6; simp only [Act.put, List.setIfInBounds_toArray, List.set_cons_succ, List.set_cons_zero]))
            refine wpT_free rfl rfl (.inl ⟨rfl, fun w hw => run_ld1 Try.underlying34 rfl rfl rfl (hw.cell (i := 2) List.mem_cons_self rfl)⟩) (by assumption) ?_; (conv => arg 6; simp only [Act.put, List.setIfInBounds_toArray, List.set_cons_succ, List.set_cons_zero])
            refine wpT_free (v := .pointer (some ⟨bk, off + 32, none⟩)) rfl rfl (.inl ⟨rfl, fun w _ => by go_simp⟩) (by assumption) ?_; (conv => arg 6; simp only [Act.put, List.setIfInBounds_toArray, List.set_cons_succ, List.set_cons_zero])
            refine wpT_free rfl rfl (.inl ⟨rfl, fun w hw => run_ldK Try.underlying26 rfl rfl rfl (hw.cells0 (off := off + 32) (by simpa using HC1.out)) (s26k HK1.out)⟩) (by assumption) ?_; (conv => arg 6; simp only [Act.put, List.setIfInBounds_toArray, List.set_cons_succ, List.set_cons_zero])
            refine wpT_free rfl rfl (.inl ⟨rfl, fun w hw => run_ldrowN Try.underlying26 s26 rfl rfl rfl hw (List.mem_cons_of_mem _ (List.mem_cons_of_mem _ List.mem_cons_self)) HB.out.1⟩) (by assumption) ?_; (conv => arg 6; simp only [Act.put, List.setIfInBounds_toArray, List.set_cons_succ, List.set_cons_zero])
            refine wpT_free rfl rfl (.inl ⟨rfl, fun w _ => run_neq26b false rfl rfl rfl HK1.out.1 HB.out.1 HE1.out w⟩) (by assumption) ?_; (conv => arg 6; simp only [Act.put, List.setIfInBounds_toArray, List.set_cons_succ, List.set_cons_zero])
            (refine wpT_free rfl rfl (.inl ⟨rfl, fun w _ => by go_simp; rfl⟩) (by assumption) ?_; (conv => arg 6; simp only [Act.put, List.setIfInBounds_toArray, List.set_cons_succ, List.set_cons_zero]))
            refine wpT_done ?_
            go_upto_region 11 with fail
            refine wp_region_planT (.free 0 (.free 1 (.free 2 (.free 3 (.free 4 (.one 5 (.free 6 (.free 7 (.free 8 (.done)))))))))) (by kernel_rfl) (by kernel_rfl) (fun _ _ _ _ _ h => h) M9 (fun w10 M10 => ?_)
            clear M9
            (refine wpT_free rfl rfl (.inl ⟨rfl, fun w _ => by go_simp; rfl⟩) (by assumption) ?_; (conv => arg 6; simp only [Act.put, List.setIfInBounds_toArray, List.set_cons_succ, List.set_cons_zero]))
            refine wpT_free rfl rfl (.inl ⟨rfl, fun w hw => run_ld1 Try.underlying9 rfl rfl rfl (hw.cell List.mem_cons_self (i := 1) rfl)⟩) (by assumption) ?_; (conv => arg 6; simp only [Act.put, List.setIfInBounds_toArray, List.set_cons_succ, List.set_cons_zero])
            (refine wpT_free rfl rfl (.inl ⟨rfl, fun w _ => by go_simp; rfl⟩) (by assumption) ?_; (conv => arg 6; simp only [Act.put, List.setIfInBounds_toArray, List.set_cons_succ, List.set_cons_zero]))
            refine wpT_free rfl rfl (.inl ⟨rfl, fun w hw => run_ld1 Try.underlying34 rfl rfl rfl (hw.cell (i := 2) List.mem_cons_self rfl)⟩) (by assumption) ?_; (conv => arg 6; simp only [Act.put, List.setIfInBounds_toArray, List.set_cons_succ, List.set_cons_zero])
            refine wpT_free rfl rfl (.inl ⟨rfl, fun w _ => run_slLowM 2 Try.underlying34 s26 rfl rfl rfl rfl hk2 hd w⟩) (by assumption) ?_; (conv => arg 6; simp only [Act.put, List.setIfInBounds_toArray, List.set_cons_succ, List.set_cons_zero])
            refine wpT_op rfl ?_
            go_wp2_with (go_at_call 44; refine (HCL.out _ (HLR.out.mem M10)).mono ?_; rintro e w11 ⟨A2, c2, rfl, hc2, hn2, hr2, M11⟩; have M12 := M10.call M11.below)
            refine PlanTQ.mk M12 ?_
            iterate 3 (refine wpT_free rfl rfl (.inl ⟨rfl, fun w _ => by go_simp; rfl⟩) (by assumption) ?_; (conv => arg 6; simp only [Act.put, List.setIfInBounds_toArray, List.set_cons_succ, List.set_cons_zero]))
            refine wpT_done ?_
            go_wp2_with fail
            go_ret3
            have M13 := (M10.sub (List.nil_sublist _)).join M11
            exact ⟨A2, c2, by rw [List.length_drop]; rfl, hc2, hn2, hr2, M13⟩
          · rw [hop, if_neg (fun h => h1 h.2.2)]
            have HE := hid (show decide (k0 = k) = !false from decide_eq_true h0)
            have HE1 := hid (show decide (k1 = b) = !true from decide_eq_false h1)
            clear hop h0 h1 e6
            rw [← hkd] at HCT
            go_enter Try.func17, Try.ntmps17
            go_upto_region 6 with (first | (refine wpList_bxN 5 rfl rfl rfl rfl M0 (fun b5 w1 M1 => ?_); clear M0; (conv => arg 5; simp only [Act.put, List.setIfInBounds_toArray, List.set_cons_succ, List.set_cons_zero])) | (refine wpList_bxN 6 rfl rfl rfl rfl M1 (fun b6 w2 M2 => ?_); clear M1; (conv => arg 5; simp only [Act.put, List.setIfInBounds_toArray, List.set_cons_succ, List.set_cons_zero])) | (refine wpList_alN z26 11 rfl rfl rfl M2 (fun b11 w3 M3 => ?_); clear M2; (conv => arg 5; simp only [Act.put, List.setIfInBounds_toArray, List.set_cons_succ, List.set_cons_zero])) | (refine wpList_slW Try.underlying26 s5 (by decide) rfl rfl rfl ?_; (conv => arg 5; simp only [Act.put, List.setIfInBounds_toArray, List.set_cons_succ, List.set_cons_zero])) | (refine wpList_cpS 32 [] (nums .u8 (List.replicate 32 0)) [] Try.underlying37 s5 rfl rfl rfl rfl M3 (by rw [HS.out]; rfl) (by rw [List.append_nil, List.nil_append, List.append_nil, List.nil_append]; exact Swap.head) rfl (by rw [nums_length]; rfl) (fun w4 M4 => ?_); clear M3; rw [List.take_of_length_le (by rw [HBL.out]; decide)] at M4; (conv => arg 5; simp only [Act.put, List.setIfInBounds_toArray, List.set_cons_succ, List.set_cons_zero])) | (refine wpList_ldrowN Try.underlying26 s26 rfl rfl rfl rfl M4 List.mem_cons_self HBL.out ?_; (conv => arg 5; simp only [Act.put, List.setIfInBounds_toArray, List.set_cons_succ, List.set_cons_zero])) | (go_at_call 43; refine (number43 g ts.length c _ (bytesOf s) _ (M4.cell0 HCG.out) HBO.out.1 HBO.out.2 hn).mono ?_; rintro e w5 ⟨rfl, M5⟩; have M6 := M4.call M5.below; clear M4 M5; rw [HM.out]))
            have cg := M6.cell0 HCG.out
            go_upto_region 9 with (first | (refine wpList_ldagg 31 rfl Try.underlying95 rfl rfl rfl rfl (M6.cells0 HCT.out) sz95 ?_; (conv => arg 5; simp only [Act.put, List.setIfInBounds_toArray, List.set_cons_succ, List.set_cons_zero])) | (refine wpList_al rfl rfl M6 z95 rfl (fun b13 w7 M7 => ?_); clear M6 cg; (conv => arg 5; simp only [Act.put, List.setIfInBounds_toArray, List.set_cons_succ, List.set_cons_zero])) | (refine wpList_strow (vs := [.int .i64 kd, .string t.text, .slice _ t.keys.length d]) rfl rfl rfl rfl M7 Swap.head sz95 rfl (by simp [Value.oneCell']) (fun w8 M8 => ?_); clear M7; (conv => arg 5; simp only [Act.put, List.setIfInBounds_toArray, List.set_cons_succ, List.set_cons_zero])))
            refine wp_region_planT (.free 0 (.free 1 (.free 2 (.free 3 (.free 4 (.free 5 (.free 6 (.free 7 (.free 8 (.free 9 (.free 10 (.free 11 (.free 12 (.free 13 (.free 14 (.free 15 (.free 16 (.free 17 (.free 18 (.done)))))))))))))))))))) (by kernel_rfl) (by kernel_rfl) (fun _ _ _ _ _ h => h) M8 (fun w9 M9 => ?_)
            clear M8
            (refine wpT_free rfl rfl (.inl ⟨rfl, fun w _ => by go_simp; rfl⟩) (by assumption) ?_; (conv => arg 6; simp only [Act.put, List.setIfInBounds_toArray, List.set_cons_succ, List.set_cons_zero]))
            refine wpT_free rfl rfl (.inl ⟨rfl, fun w hw => run_ld1 Try.underlying3 rfl rfl rfl (hw.cell List.mem_cons_self (i := 0) rfl)⟩) (by assumption) ?_; (conv => arg 6; simp only [Act.put, List.setIfInBounds_toArray, List.set_cons_succ, List.set_cons_zero])
            refine wpT_free (v := .bool false) rfl rfl (.inl ⟨rfl, fun w _ => by subst hkd; go_simp⟩) (by assumption) ?_; (conv => arg 6; simp only [Act.put, List.setIfInBounds_toArray, List.set_cons_succ, List.set_cons_zero])
            iterate 2 (refine wpT_free rfl rfl (.inl ⟨rfl, fun w _ => by go_simp; rfl⟩) (by assumption) ?_; (conv => arg 6; simp only [Act.put, List.setIfInBounds_toArray, List.set_cons_succ, List.set_cons_zero]))
            refine wpT_free rfl rfl (.inl ⟨rfl, fun w hw => run_ld1 Try.underlying34 rfl rfl rfl (hw.cell (i := 2) List.mem_cons_self rfl)⟩) (by assumption) ?_; (conv => arg 6; simp only [Act.put, List.setIfInBounds_toArray, List.set_cons_succ, List.set_cons_zero])
            refine wpT_free (v := .pointer (some ⟨bk, off, none⟩)) rfl rfl (.inl ⟨rfl, fun w _ => by go_simp; intro hnil; rw [hnil] at hk2; simp at hk2⟩) (by assumption) ?_; (conv => arg 6; simp only [Act.put, List.setIfInBounds_toArray, List.set_cons_succ, List.set_cons_zero])
            refine wpT_free rfl rfl (.inl ⟨rfl, fun w hw => run_ldK Try.underlying26 rfl rfl rfl (hw.cells0 (off := off) (by simpa using HC0.out)) (s26k HK0.out)⟩) (by assumption) ?_; (conv => arg 6; simp only [Act.put, List.setIfInBounds_toArray, List.set_cons_succ, List.set_cons_zero])
            refine wpT_free rfl rfl (.inl ⟨rfl, fun w hw => run_ldrowN Try.underlying26 s26 rfl rfl rfl hw (List.mem_cons_of_mem _ (List.mem_cons_of_mem _ (List.mem_cons_of_mem _ List.mem_cons_self))) HK.out.1⟩) (by assumption) ?_; (conv => arg 6; simp only [Act.put, List.setIfInBounds_toArray, List.set_cons_succ, List.set_cons_zero])
            refine wpT_free rfl rfl (.inl ⟨rfl, fun w _ => run_neq26b false rfl rfl rfl HK0.out.1 HK.out.1 HE.out w⟩) (by assumption) ?_; (conv => arg 6; simp only [Act.put, List.setIfInBounds_toArray, List.set_cons_succ, List.set_cons_zero])
            iterate 3 (refine wpT_free rfl rfl (.inl ⟨rfl, fun w _ => by go_simp; rfl⟩) (by assumption) ?_; (conv => arg 6; simp only [Act.put, List.setIfInBounds_toArray, List.set_cons_succ, List.set_cons_zero]))
            refine wpT_free rfl rfl (.inl ⟨rfl, fun w hw => run_ld1 Try.underlying34 rfl rfl rfl (hw.cell (i := 2) List.mem_cons_self rfl)⟩) (by assumption) ?_; (conv => arg 6; simp only [Act.put, List.setIfInBounds_toArray, List.set_cons_succ, List.set_cons_zero])
            refine wpT_free (v := .pointer (some ⟨bk, off + 32, none⟩)) rfl rfl (.inl ⟨rfl, fun w _ => by go_simp⟩) (by assumption) ?_; (conv => arg 6; simp only [Act.put, List.setIfInBounds_toArray, List.set_cons_succ, List.set_cons_zero])
            refine wpT_free rfl rfl (.inl ⟨rfl, fun w hw => run_ldK Try.underlying26 rfl rfl rfl (hw.cells0 (off := off + 32) (by simpa using HC1.out)) (s26k HK1.out)⟩) (by assumption) ?_; (conv => arg 6; simp only [Act.put, List.setIfInBounds_toArray, List.set_cons_succ, List.set_cons_zero])
            refine wpT_free rfl rfl (.inl ⟨rfl, fun w hw => run_ldrowN Try.underlying26 s26 rfl rfl rfl hw (List.mem_cons_of_mem _ (List.mem_cons_of_mem _ List.mem_cons_self)) HB.out.1⟩) (by assumption) ?_; (conv => arg 6; simp only [Act.put, List.setIfInBounds_toArray, List.set_cons_succ, List.set_cons_zero])
            refine wpT_free rfl rfl (.inl ⟨rfl, fun w _ => run_neq26b true rfl rfl rfl HK1.out.1 HB.out.1 HE1.out w⟩) (by assumption) ?_; (conv => arg 6; simp only [Act.put, List.setIfInBounds_toArray, List.set_cons_succ, List.set_cons_zero])
            (refine wpT_free rfl rfl (.inl ⟨rfl, fun w _ => by go_simp; rfl⟩) (by assumption) ?_; (conv => arg 6; simp only [Act.put, List.setIfInBounds_toArray, List.set_cons_succ, List.set_cons_zero]))
            refine wpT_done ?_
            go_wp2_with fail
            go_ret3
            exact ⟨rfl, M9.sub (List.nil_sublist _)⟩
        · rw [hop, if_neg (fun h => h0 h.2.1)]
          have HE := hid (show decide (k0 = k) = !true from decide_eq_false h0)
          clear hop h0 e6
          rw [← hkd] at HCT
          go_enter Try.func17, Try.ntmps17
          go_upto_region 6 with (first | (refine wpList_bxN 5 rfl rfl rfl rfl M0 (fun b5 w1 M1 => ?_); clear M0; (conv => arg 5; simp only [Act.put, List.setIfInBounds_toArray, List.set_cons_succ, List.set_cons_zero])) | (refine wpList_bxN 6 rfl rfl rfl rfl M1 (fun b6 w2 M2 => ?_); clear M1; (conv => arg 5; simp only [Act.put, List.setIfInBounds_toArray, List.set_cons_succ, List.set_cons_zero])) | (refine wpList_alN z26 11 rfl rfl rfl M2 (fun b11 w3 M3 => ?_); clear M2; (conv => arg 5; simp only [Act.put, List.setIfInBounds_toArray, List.set_cons_succ, List.set_cons_zero])) | (refine wpList_slW Try.underlying26 s5 (by decide) rfl rfl rfl ?_; (conv => arg 5; simp only [Act.put, List.setIfInBounds_toArray, List.set_cons_succ, List.set_cons_zero])) | (refine wpList_cpS 32 [] (nums .u8 (List.replicate 32 0)) [] Try.underlying37 s5 rfl rfl rfl rfl M3 (by rw [HS.out]; rfl) (by rw [List.append_nil, List.nil_append, List.append_nil, List.nil_append]; exact Swap.head) rfl (by rw [nums_length]; rfl) (fun w4 M4 => ?_); clear M3; rw [List.take_of_length_le (by rw [HBL.out]; decide)] at M4; (conv => arg 5; simp only [Act.put, List.setIfInBounds_toArray, List.set_cons_succ, List.set_cons_zero])) | (refine wpList_ldrowN Try.underlying26 s26 rfl rfl rfl rfl M4 List.mem_cons_self HBL.out ?_; (conv => arg 5; simp only [Act.put, List.setIfInBounds_toArray, List.set_cons_succ, List.set_cons_zero])) | (go_at_call 43; refine (number43 g ts.length c _ (bytesOf s) _ (M4.cell0 HCG.out) HBO.out.1 HBO.out.2 hn).mono ?_; rintro e w5 ⟨rfl, M5⟩; have M6 := M4.call M5.below; clear M4 M5; rw [HM.out]))
          have cg := M6.cell0 HCG.out
          go_upto_region 9 with (first | (refine wpList_ldagg 31 rfl Try.underlying95 rfl rfl rfl rfl (M6.cells0 HCT.out) sz95 ?_; (conv => arg 5; simp only [Act.put, List.setIfInBounds_toArray, List.set_cons_succ, List.set_cons_zero])) | (refine wpList_al rfl rfl M6 z95 rfl (fun b13 w7 M7 => ?_); clear M6 cg; (conv => arg 5; simp only [Act.put, List.setIfInBounds_toArray, List.set_cons_succ, List.set_cons_zero])) | (refine wpList_strow (vs := [.int .i64 kd, .string t.text, .slice _ t.keys.length d]) rfl rfl rfl rfl M7 Swap.head sz95 rfl (by simp [Value.oneCell']) (fun w8 M8 => ?_); clear M7; (conv => arg 5; simp only [Act.put, List.setIfInBounds_toArray, List.set_cons_succ, List.set_cons_zero])))
          refine wp_region_planT (.free 0 (.free 1 (.free 2 (.free 3 (.free 4 (.free 5 (.free 6 (.free 7 (.free 8 (.free 9 (.free 10 (.free 11 (.free 12 (.free 13 (.free 14 (.free 15 (.free 16 (.free 17 (.free 18 (.done)))))))))))))))))))) (by kernel_rfl) (by kernel_rfl) (fun _ _ _ _ _ h => h) M8 (fun w9 M9 => ?_)
          clear M8
          (refine wpT_free rfl rfl (.inl ⟨rfl, fun w _ => by go_simp; rfl⟩) (by assumption) ?_; (conv => arg 6; simp only [Act.put, List.setIfInBounds_toArray, List.set_cons_succ, List.set_cons_zero]))
          refine wpT_free rfl rfl (.inl ⟨rfl, fun w hw => run_ld1 Try.underlying3 rfl rfl rfl (hw.cell List.mem_cons_self (i := 0) rfl)⟩) (by assumption) ?_; (conv => arg 6; simp only [Act.put, List.setIfInBounds_toArray, List.set_cons_succ, List.set_cons_zero])
          refine wpT_free (v := .bool false) rfl rfl (.inl ⟨rfl, fun w _ => by subst hkd; go_simp⟩) (by assumption) ?_; (conv => arg 6; simp only [Act.put, List.setIfInBounds_toArray, List.set_cons_succ, List.set_cons_zero])
          iterate 2 (refine wpT_free rfl rfl (.inl ⟨rfl, fun w _ => by go_simp; rfl⟩) (by assumption) ?_; (conv => arg 6; simp only [Act.put, List.setIfInBounds_toArray, List.set_cons_succ, List.set_cons_zero]))
          refine wpT_free rfl rfl (.inl ⟨rfl, fun w hw => run_ld1 Try.underlying34 rfl rfl rfl (hw.cell (i := 2) List.mem_cons_self rfl)⟩) (by assumption) ?_; (conv => arg 6; simp only [Act.put, List.setIfInBounds_toArray, List.set_cons_succ, List.set_cons_zero])
          refine wpT_free (v := .pointer (some ⟨bk, off, none⟩)) rfl rfl (.inl ⟨rfl, fun w _ => by go_simp; intro hnil; rw [hnil] at hk2; simp at hk2⟩) (by assumption) ?_; (conv => arg 6; simp only [Act.put, List.setIfInBounds_toArray, List.set_cons_succ, List.set_cons_zero])
          refine wpT_free rfl rfl (.inl ⟨rfl, fun w hw => run_ldK Try.underlying26 rfl rfl rfl (hw.cells0 (off := off) (by simpa using HC0.out)) (s26k HK0.out)⟩) (by assumption) ?_; (conv => arg 6; simp only [Act.put, List.setIfInBounds_toArray, List.set_cons_succ, List.set_cons_zero])
          refine wpT_free rfl rfl (.inl ⟨rfl, fun w hw => run_ldrowN Try.underlying26 s26 rfl rfl rfl hw (List.mem_cons_of_mem _ (List.mem_cons_of_mem _ (List.mem_cons_of_mem _ List.mem_cons_self))) HK.out.1⟩) (by assumption) ?_; (conv => arg 6; simp only [Act.put, List.setIfInBounds_toArray, List.set_cons_succ, List.set_cons_zero])
          refine wpT_free rfl rfl (.inl ⟨rfl, fun w _ => run_neq26b true rfl rfl rfl HK0.out.1 HK.out.1 HE.out w⟩) (by assumption) ?_; (conv => arg 6; simp only [Act.put, List.setIfInBounds_toArray, List.set_cons_succ, List.set_cons_zero])
          iterate 2 (refine wpT_free rfl rfl (.inl ⟨rfl, fun w _ => by go_simp; rfl⟩) (by assumption) ?_; (conv => arg 6; simp only [Act.put, List.setIfInBounds_toArray, List.set_cons_succ, List.set_cons_zero]))
          iterate 6 (refine wpT_free rfl rfl (.inr ⟨rfl, rfl⟩) (by assumption) ?_; (conv => arg 6; simp only [Act.put, List.setIfInBounds_toArray, List.set_cons_succ, List.set_cons_zero]))
          (refine wpT_free rfl rfl (.inl ⟨rfl, fun w _ => by go_simp; rfl⟩) (by assumption) ?_; (conv => arg 6; simp only [Act.put, List.setIfInBounds_toArray, List.set_cons_succ, List.set_cons_zero]))
          refine wpT_done ?_
          go_wp2_with fail
          go_ret3
          exact ⟨rfl, M9.sub (List.nil_sublist _)⟩
      · rw [hop, if_neg (fun h => e6 h.1)]
        obtain ⟨kd, hkd⟩ : ∃ x : Int, x = t.kind := ⟨_, rfl⟩
        rw [← hkd] at hct e6
        have HCT := hid hct
        clear hct hop hkd
        go_enter Try.func17, Try.ntmps17
        go_upto_region 6 with (first | (refine wpList_bxN 5 rfl rfl rfl rfl M0 (fun b5 w1 M1 => ?_); clear M0; (conv => arg 5; simp only [Act.put, List.setIfInBounds_toArray, List.set_cons_succ, List.set_cons_zero])) | (refine wpList_bxN 6 rfl rfl rfl rfl M1 (fun b6 w2 M2 => ?_); clear M1; (conv => arg 5; simp only [Act.put, List.setIfInBounds_toArray, List.set_cons_succ, List.set_cons_zero])) | (refine wpList_alN z26 11 rfl rfl rfl M2 (fun b11 w3 M3 => ?_); clear M2; (conv => arg 5; simp only [Act.put, List.setIfInBounds_toArray, List.set_cons_succ, List.set_cons_zero])) | (refine wpList_slW Try.underlying26 s5 (by decide) rfl rfl rfl ?_; (conv => arg 5; simp only [Act.put, List.setIfInBounds_toArray, List.set_cons_succ, List.set_cons_zero])) | (refine wpList_cpS 32 [] (nums .u8 (List.replicate 32 0)) [] Try.underlying37 s5 rfl rfl rfl rfl M3 (by rw [HS.out]; rfl) (by rw [List.append_nil, List.nil_append, List.append_nil, List.nil_append]; exact Swap.head) rfl (by rw [nums_length]; rfl) (fun w4 M4 => ?_); clear M3; rw [List.take_of_length_le (by rw [HBL.out]; decide)] at M4; (conv => arg 5; simp only [Act.put, List.setIfInBounds_toArray, List.set_cons_succ, List.set_cons_zero])) | (refine wpList_ldrowN Try.underlying26 s26 rfl rfl rfl rfl M4 List.mem_cons_self HBL.out ?_; (conv => arg 5; simp only [Act.put, List.setIfInBounds_toArray, List.set_cons_succ, List.set_cons_zero])) | (go_at_call 43; refine (number43 g ts.length c _ (bytesOf s) _ (M4.cell0 HCG.out) HBO.out.1 HBO.out.2 hn).mono ?_; rintro e w5 ⟨rfl, M5⟩; have M6 := M4.call M5.below; clear M4 M5; rw [HM.out]))
        have cg := M6.cell0 HCG.out
        go_upto_region 9 with (first | (refine wpList_ldagg 31 rfl Try.underlying95 rfl rfl rfl rfl (M6.cells0 HCT.out) sz95 ?_; (conv => arg 5; simp only [Act.put, List.setIfInBounds_toArray, List.set_cons_succ, List.set_cons_zero])) | (refine wpList_al rfl rfl M6 z95 rfl (fun b13 w7 M7 => ?_); clear M6 cg; (conv => arg 5; simp only [Act.put, List.setIfInBounds_toArray, List.set_cons_succ, List.set_cons_zero])) | (refine wpList_strow (vs := [.int .i64 kd, .string t.text, .slice _ t.keys.length d]) rfl rfl rfl rfl M7 Swap.head sz95 rfl (by simp [Value.oneCell']) (fun w8 M8 => ?_); clear M7; (conv => arg 5; simp only [Act.put, List.setIfInBounds_toArray, List.set_cons_succ, List.set_cons_zero])))
        refine wp_region_planT (.free 0 (.free 1 (.free 2 (.free 3 (.free 4 (.free 5 (.free 6 (.free 7 (.free 8 (.free 9 (.free 10 (.free 11 (.free 12 (.free 13 (.free 14 (.free 15 (.free 16 (.free 17 (.free 18 (.done)))))))))))))))))))) (by kernel_rfl) (by kernel_rfl) (fun _ _ _ _ _ h => h) M8 (fun w9 M9 => ?_)
        clear M8
        (refine wpT_free rfl rfl (.inl ⟨rfl, fun w _ => by go_simp; rfl⟩) (by assumption) ?_; (conv => arg 6; simp only [Act.put, List.setIfInBounds_toArray, List.set_cons_succ, List.set_cons_zero]))
        refine wpT_free rfl rfl (.inl ⟨rfl, fun w hw => run_ld1 Try.underlying3 rfl rfl rfl (hw.cell List.mem_cons_self (i := 0) rfl)⟩) (by assumption) ?_; (conv => arg 6; simp only [Act.put, List.setIfInBounds_toArray, List.set_cons_succ, List.set_cons_zero])
        refine wpT_free (v := .bool true) rfl rfl (.inl ⟨rfl, fun w _ => by (go_simp <;> simpa using e6)⟩) (by assumption) ?_; (conv => arg 6; simp only [Act.put, List.setIfInBounds_toArray, List.set_cons_succ, List.set_cons_zero])
        (refine wpT_free rfl rfl (.inl ⟨rfl, fun w _ => by go_simp; rfl⟩) (by assumption) ?_; (conv => arg 6; simp only [Act.put, List.setIfInBounds_toArray, List.set_cons_succ, List.set_cons_zero]))
        iterate 6 (refine wpT_free rfl rfl (.inr ⟨rfl, rfl⟩) (by assumption) ?_; (conv => arg 6; simp only [Act.put, List.setIfInBounds_toArray, List.set_cons_succ, List.set_cons_zero]))
        iterate 2 (refine wpT_free rfl rfl (.inl ⟨rfl, fun w _ => by go_simp; rfl⟩) (by assumption) ?_; (conv => arg 6; simp only [Act.put, List.setIfInBounds_toArray, List.set_cons_succ, List.set_cons_zero]))
        iterate 6 (refine wpT_free rfl rfl (.inr ⟨rfl, rfl⟩) (by assumption) ?_; (conv => arg 6; simp only [Act.put, List.setIfInBounds_toArray, List.set_cons_succ, List.set_cons_zero]))
        (refine wpT_free rfl rfl (.inl ⟨rfl, fun w _ => by go_simp; rfl⟩) (by assumption) ?_; (conv => arg 6; simp only [Act.put, List.setIfInBounds_toArray, List.set_cons_succ, List.set_cons_zero]))
        refine wpT_done ?_
        go_wp2_with fail
        go_ret3
        exact ⟨rfl, M9.sub (List.nil_sublist _)⟩
  · rw [show openM ts k b s = none from by rw [openM, if_neg (fun h => hs h.1)]]
    have hne : ((s.size : Int) != 32) = true := by simpa using (show ¬ (s.size : Int) = 32 from by omega)
    clear hs
    go_enter Try.func17, Try.ntmps17
    go_wp2_with (first | (refine wpList_bxN 5 rfl rfl rfl rfl M0 (fun b5 w1 M1 => ?_); clear M0; (conv => arg 5; simp only [Act.put, List.setIfInBounds_toArray, List.set_cons_succ, List.set_cons_zero])) | (refine wpList_bxN 6 rfl rfl rfl rfl M1 (fun b6 w2 M2 => ?_); clear M1; (conv => arg 5; simp only [Act.put, List.setIfInBounds_toArray, List.set_cons_succ, List.set_cons_zero])) | (refine wpList_alN z26 11 rfl rfl rfl M2 (fun b11 w3 M3 => ?_); clear M2; (conv => arg 5; simp only [Act.put, List.setIfInBounds_toArray, List.set_cons_succ, List.set_cons_zero])))
    go_ret3
    exact ⟨rfl, M3.sub (List.nil_sublist _)⟩
end Go.Proofs.Ytcapfnbmmdbcoaa
