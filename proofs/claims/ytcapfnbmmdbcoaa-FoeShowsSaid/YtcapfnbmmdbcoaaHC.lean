/- What follows, by the reference: is a term sealed in a box that follows; the rounds. -/
import Derived.Test.YtcapfnbmmdbcoaaHB
import Derived.Test.YtcapfnbmmdbcoaaC14
import Derived.Test.YtcapfnbmmdbcoaaC15
set_option linter.unusedVariables false
set_option linter.unusedSimpArgs false
namespace Go.Proofs.Ytcapfnbmmdbcoaa
open Go.RowKit
/-- Term n is sealed in box i, that follows with its key. -/
def shownAt (bs : List Bool) (n i : Nat) (t : Tm) : Bool := decide (t.kind = 6) && bs.getD i false && hasM bs (t.keys.getD 0 []) && (t.keys.drop 2).any fun k => decide (k = kn n)
def ShownR (ts : List Tm) (bs : List Bool) (n : Nat) (w : World) (e : Ending) (w' : World) : Prop :=
  ∃ b, e = .returned (.bool b) ∧ (b = true → ∃ (i : Nat) (t : Tm), ts[i]? = some t ∧ shownAt bs n i t = true) ∧ (b = false → ∀ (i : Nat) (t : Tm), ts[i]? = some t → shownAt bs n i t = false) ∧ Mem w [] w' []
theorem drop2_not {ks : List (List Int)} {n : Nat} (h : ∀ q ∈ (ks.take ks.length).drop 2, q ≠ kn n) : (ks.drop 2).any (fun k => decide (k = kn n)) = false := by
  rw [List.take_length] at h
  rw [List.any_eq_false]
  intro q hq
  simpa using h q hq
theorem drop2_succ {ks : List (List Int)} {n j : Nat} {k : List Int} (h : ∀ q ∈ (ks.take j).drop 2, q ≠ kn n) (hj : 2 ≤ j) (hk : ks[j]? = some k) (hn : k ≠ kn n) : ∀ q ∈ (ks.take (j + 1)).drop 2, q ≠ kn n := by
  obtain ⟨hl, rfl⟩ := List.getElem?_eq_some_iff.1 hk
  rw [List.take_succ_eq_append_getElem hl, List.drop_append_of_le_length (by rw [List.length_take]; omega)]
  intro q hq
  rcases List.mem_append.1 hq with hq | hq
  · exact h q hq
  · rw [List.mem_singleton] at hq
    subst hq
    exact hn
theorem drop2_yes {ks : List (List Int)} {n j : Nat} {k : List Int} (hj : 2 ≤ j) (hk : ks[j]? = some k) (hn : k = kn n) : (ks.drop 2).any (fun k => decide (k = kn n)) = true := by
  rw [List.any_eq_true]
  refine ⟨k, ?_, by simpa using hn⟩
  refine List.mem_of_getElem? (i := j - 2) ?_
  rw [List.getElem?_drop, show 2 + (j - 2) = j from by omega]
  exact hk
set_option maxRecDepth 100000 in
set_option maxHeartbeats 8000000 in
theorem shown61 (K : Nat → Prop) (m c e kb n : Nat) (A S : Option Addr) (ts : List Tm) (bs : List Bool) (w : World) (T : RefP K w m A c S e ts) (hb : BsR w kb bs) (hl : bs.length = ts.length) (hw : ∀ t ∈ ts, TmW t) (hnn : n ≤ 1000000) :
    Calls Try.prog 61 #[.pointer (some ⟨m, 0, none⟩), .slice (some ⟨kb, 0, none⟩) bs.length bs.length, .int .i64 (n : Nat)] w (ShownR ts bs n w) := by
  have M0 := Mem.start w
  have hn : ts.length ≤ 1000000 := T.few
  have HC := hid T.cap.1
  have HT := hid T
  have HB := hid hb
  have HL := hid hl
  have HW := hid hw
  clear T hb hl hw
  go_enter Try.func61, Try.ntmps61
  go_wp2_with fail
  go_loopw [7] (fun x wr => ∃ i : Nat, i ≤ ts.length ∧ x = .int .i64 i ∧ Mem w [] wr [] ∧ Hid (∀ (j : Nat) (t : Tm), j < i → ts[j]? = some t → shownAt bs n j t = false)) (fun x _ => ts.length - (intOf x).toNat)
  case atStart => exact ⟨0, by omega, rfl, M0, hid fun j t h => absurd h (by omega)⟩
  case round =>
    clear M0
    obtain ⟨i, hi, rfl, M, HN⟩ := hrel
    have cA := M.cell0 HC.out
    by_cases hlt : i < ts.length
    · have hltI : (i : Int) < (ts.length : Int) := by omega
      obtain ⟨t, hte⟩ : ∃ t, ts[i]? = some t := ⟨_, List.getElem?_eq_getElem hlt⟩
      have HTE := hid hte
      have HTO := hid (HT.out.ok t (List.mem_of_getElem? hte))
      obtain ⟨bT, B, d, hA, hct, hd, hBn, hBr⟩ := HT.out.get hte
      subst hA
      have HCT := hid hct
      have HBR := hid hBr
      have hkl : t.keys.length ≤ 1000 := HTO.out.kl
      have HSUC := hid (fun (h : shownAt bs n i t = false) => show ∀ (j : Nat) (u : Tm), j < i + 1 → ts[j]? = some u → shownAt bs n j u = false from fun j u hj hu => by
        by_cases hji : j = i
        · subst hji
          rw [HTE.out] at hu
          injection hu with hu
          subst hu
          exact h
        · exact HN.out j u (by omega) hu)
      clear hct hd hBn hBr hte
      obtain ⟨kd, hkd⟩ : ∃ k, k = t.kind := ⟨_, rfl⟩
      have HE := hid hkd.symm
      by_cases e6 : kd = 6
      · have h2 : 2 ≤ t.keys.length := (HW.out t (List.mem_of_getElem? HTE.out)).k46 (.inr (by rw [← hkd]; exact e6))
        have HK6 := hid (show t.kind = 6 by rw [← hkd]; exact e6)
        have f6 : (kd != 6) = false := by simpa using e6
        clear hkd e6
        obtain ⟨v, hv⟩ : ∃ v, bs[i]? = some v := ⟨_, List.getElem?_eq_getElem (by rw [HL.out]; exact hlt)⟩
        have HV := hid hv
        have hiB : (i : Int) < (bs.length : Int) := by have := HL.out; omega
        clear hv
        cases v
        · go_wp2_with (first | (apply wpList_want; (· rfl)) | (refine wpList_ldagg 25 rfl Try.underlying95 rfl rfl rfl rfl (M.cells0 HCT.out) sz95 ?_; (conv => arg 5; simp only [Act.put, List.setIfInBounds_toArray, List.set_cons_succ, List.set_cons_zero])) | (refine wpList_al rfl rfl M z95 rfl (fun b8 w1 M1 => ?_); clear M cA; (conv => arg 5; simp only [Act.put, List.setIfInBounds_toArray, List.set_cons_succ, List.set_cons_zero])) | (refine wpList_strow (vs := [.int .i64 t.kind, .string t.text, .slice B t.keys.length d]) rfl rfl rfl rfl M1 Swap.head sz95 rfl (by simp [Value.oneCell']) (fun w2 M2 => ?_); have M := M2; clear M1 M2; have ck := M.cell (i := 0) (g := b8) (v := .int .i64 t.kind) (by (repeat (first | exact List.mem_cons_self | refine List.mem_cons_of_mem _ ?_))) rfl; have c2 := M.cell (i := 2) (g := b8) (v := .slice B t.keys.length d) (by (repeat (first | exact List.mem_cons_self | refine List.mem_cons_of_mem _ ?_))) rfl; rw [HE.out] at ck; have cb := M.cell0 (HB.out i _ HV.out); (conv => arg 5; simp only [Act.put, List.setIfInBounds_toArray, List.set_cons_succ, List.set_cons_zero])))
          go_round
          case rel =>
            refine ⟨i + 1, by omega, by go_num, M.sub (List.nil_sublist _), hid (HSUC.out ?_)⟩
            rw [shownAt, List.getD_eq_getElem?_getD, HV.out]
            simp
          case measure => simp [intOf]; omega
        · have q0 : t.keys[0]? = some (t.keys.getD 0 []) := by rw [List.getD_eq_getElem?_getD, List.getElem?_eq_getElem (by omega)]; rfl
          obtain ⟨k0, hk0⟩ : ∃ k, k = t.keys.getD 0 [] := ⟨_, rfl⟩
          rw [← hk0] at q0
          have HK0E := hid hk0.symm
          have HK0 := hid (HTO.out.ks _ (List.mem_of_getElem? q0))
          obtain ⟨bk, off, hBe, hc0⟩ := keys_at HTO.out.ks HBR.out q0
          subst hBe
          have HC0 := hid hc0
          have hk3 : (0 : Int) < (t.keys.length : Int) := by omega
          clear hk0 q0 hc0
          cases qh : hasM bs k0
          · have QH := hid qh
            clear qh
            go_wp2_with (first | (apply wpList_want; (· rfl)) | (refine wpList_ldagg 25 rfl Try.underlying95 rfl rfl rfl rfl (M.cells0 HCT.out) sz95 ?_; (conv => arg 5; simp only [Act.put, List.setIfInBounds_toArray, List.set_cons_succ, List.set_cons_zero])) | (refine wpList_al rfl rfl M z95 rfl (fun b8 w1 M1 => ?_); clear M cA; (conv => arg 5; simp only [Act.put, List.setIfInBounds_toArray, List.set_cons_succ, List.set_cons_zero])) | (refine wpList_strow (vs := [.int .i64 t.kind, .string t.text, .slice (some ⟨bk, off, none⟩) t.keys.length d]) rfl rfl rfl rfl M1 Swap.head sz95 rfl (by simp [Value.oneCell']) (fun w2 M2 => ?_); have M := M2; clear M1 M2; have ck := M.cell (i := 0) (g := b8) (v := .int .i64 t.kind) (by (repeat (first | exact List.mem_cons_self | refine List.mem_cons_of_mem _ ?_))) rfl; have c2 := M.cell (i := 2) (g := b8) (v := .slice (some ⟨bk, off, none⟩) t.keys.length d) (by (repeat (first | exact List.mem_cons_self | refine List.mem_cons_of_mem _ ?_))) rfl; rw [HE.out] at ck; have cb := M.cell0 (HB.out i _ HV.out); (conv => arg 5; simp only [Act.put, List.setIfInBounds_toArray, List.set_cons_succ, List.set_cons_zero])) | (refine wpList_ldagg (off := off) 42 rfl Try.underlying26 rfl rfl rfl rfl (M.cells0 (by simpa using HC0.out)) (s26k HK0.out) ?_; (conv => arg 5; simp only [Act.put, List.setIfInBounds_toArray, List.set_cons_succ, List.set_cons_zero])) | (go_at_call 37; refine (Has37 m c kb (some ⟨bT, 0, none⟩) ts bs k0 _ (M.cell0 HC.out) (HB.out.mem (M.sub (List.nil_sublist _))) HL.out HK0.out hn).mono ?_; rw [QH.out]; rintro e7 w7 ⟨rfl, M7⟩; replace M := M.call M7.below; clear M7 ck c2 cb))
            go_round
            case rel =>
              refine ⟨i + 1, by omega, by go_num, M.sub (List.nil_sublist _), hid (HSUC.out ?_)⟩
              rw [shownAt, HK0E.out, QH.out]
              simp
            case measure => simp [intOf]; omega
          · have QH := hid qh
            clear qh
            go_wp2_with (first | (apply wpList_want; (· rfl)) | (refine wpList_ldagg 25 rfl Try.underlying95 rfl rfl rfl rfl (M.cells0 HCT.out) sz95 ?_; (conv => arg 5; simp only [Act.put, List.setIfInBounds_toArray, List.set_cons_succ, List.set_cons_zero])) | (refine wpList_al rfl rfl M z95 rfl (fun b8 w1 M1 => ?_); clear M cA; (conv => arg 5; simp only [Act.put, List.setIfInBounds_toArray, List.set_cons_succ, List.set_cons_zero])) | (refine wpList_strow (vs := [.int .i64 t.kind, .string t.text, .slice (some ⟨bk, off, none⟩) t.keys.length d]) rfl rfl rfl rfl M1 Swap.head sz95 rfl (by simp [Value.oneCell']) (fun w2 M2 => ?_); have M := M2; clear M1 M2; have ck := M.cell (i := 0) (g := b8) (v := .int .i64 t.kind) (by (repeat (first | exact List.mem_cons_self | refine List.mem_cons_of_mem _ ?_))) rfl; have c2 := M.cell (i := 2) (g := b8) (v := .slice (some ⟨bk, off, none⟩) t.keys.length d) (by (repeat (first | exact List.mem_cons_self | refine List.mem_cons_of_mem _ ?_))) rfl; rw [HE.out] at ck; have cb := M.cell0 (HB.out i _ HV.out); (conv => arg 5; simp only [Act.put, List.setIfInBounds_toArray, List.set_cons_succ, List.set_cons_zero])) | (refine wpList_ldagg (off := off) 42 rfl Try.underlying26 rfl rfl rfl rfl (M.cells0 (by simpa using HC0.out)) (s26k HK0.out) ?_; (conv => arg 5; simp only [Act.put, List.setIfInBounds_toArray, List.set_cons_succ, List.set_cons_zero])) | (go_at_call 37; refine (Has37 m c kb (some ⟨bT, 0, none⟩) ts bs k0 _ (M.cell0 HC.out) (HB.out.mem (M.sub (List.nil_sublist _))) HL.out HK0.out hn).mono ?_; rw [QH.out]; rintro e7 w7 ⟨rfl, M7⟩; replace M := M.call M7.below; clear M7 ck c2 cb))
            go_loopw [9] (fun y wr => ∃ j : Nat, 2 ≤ j ∧ j ≤ t.keys.length ∧ y = .int .i64 j ∧ Mem w [] wr [.blk b8 (cellsO 95 [.int .i64 t.kind, .string t.text, .slice (some ⟨bk, off, none⟩) t.keys.length d])] ∧ Hid (∀ q ∈ (t.keys.take j).drop 2, q ≠ kn n)) (fun y _ => t.keys.length - (intOf y).toNat)
            case atStart => exact ⟨2, by omega, by omega, rfl, M, hid (fun q hq => by simp [List.drop_take] at hq)⟩
            case round =>
              clear M
              obtain ⟨j, hj2, hj, rfl, M, HJ⟩ := hrel
              have ck := M.cell (i := 0) (g := b8) (v := .int .i64 t.kind) (by (repeat (first | exact List.mem_cons_self | refine List.mem_cons_of_mem _ ?_))) rfl; have c2 := M.cell (i := 2) (g := b8) (v := .slice (some ⟨bk, off, none⟩) t.keys.length d) (by (repeat (first | exact List.mem_cons_self | refine List.mem_cons_of_mem _ ?_))) rfl
              by_cases hjl : j < t.keys.length
              · have hjI : (j : Int) < (t.keys.length : Int) := by omega
                obtain ⟨k, hke⟩ : ∃ k, t.keys[j]? = some k := ⟨_, List.getElem?_eq_getElem hjl⟩
                have HKK := hid (HTO.out.ks k (List.mem_of_getElem? hke))
                obtain ⟨bk', off', hBe, hck⟩ := keys_at HTO.out.ks HBR.out hke
                injection hBe with hBe
                injection hBe with hB1 hB2 _
                subst hB1 hB2
                have HKE := hid hke
                have HCK := hid hck
                clear hke hck
                obtain ⟨b, hb⟩ : ∃ b, decide (k = kn n) = b := ⟨_, rfl⟩
                have HBD := hid hb
                clear hb
                go_wp2_with fail
                clear ck c2
                refine wp_region_planT (.free 0 (.free 1 (.free 2 (.free 3 (.free 4 (.free 5 (.one 6 (.free 7 (.done))))))))) (by kernel_rfl) (by kernel_rfl) (fun _ _ _ _ _ h => h) M (fun w3 M3 => ?_)
                clear M
                (refine wpT_free rfl rfl (.inl ⟨rfl, fun w _ => by go_simp; rfl⟩) (by assumption) ?_; (conv => arg 6; simp only [Act.put, List.setIfInBounds_toArray, List.set_cons_succ, List.set_cons_zero]))
                refine wpT_free rfl rfl (.inl ⟨rfl, fun w hw => run_ld1 Try.underlying34 rfl rfl rfl (hw.cell (i := 2) List.mem_cons_self rfl)⟩) (by assumption) ?_; (conv => arg 6; simp only [Act.put, List.setIfInBounds_toArray, List.set_cons_succ, List.set_cons_zero])
                (refine wpT_free rfl rfl (.inl ⟨rfl, fun w _ => by go_simp; rfl⟩) (by assumption) ?_; (conv => arg 6; simp only [Act.put, List.setIfInBounds_toArray, List.set_cons_succ, List.set_cons_zero]))
                refine wpT_free (v := .pointer (some ⟨bk, off + j * 32, none⟩)) rfl rfl (.inl ⟨rfl, fun w _ => by go_simp⟩) (by assumption) ?_; (conv => arg 6; simp only [Act.put, List.setIfInBounds_toArray, List.set_cons_succ, List.set_cons_zero])
                refine wpT_free rfl rfl (.inl ⟨rfl, fun w hw => run_ldK Try.underlying26 rfl rfl rfl (hw.cells0 HCK.out) (s26k HKK.out)⟩) (by assumption) ?_; (conv => arg 6; simp only [Act.put, List.setIfInBounds_toArray, List.set_cons_succ, List.set_cons_zero])
                (refine wpT_free rfl rfl (.inl ⟨rfl, fun w _ => by go_simp; rfl⟩) (by assumption) ?_; (conv => arg 6; simp only [Act.put, List.setIfInBounds_toArray, List.set_cons_succ, List.set_cons_zero]))
                refine wpT_op rfl ?_
                go_wp2_with (go_at_call 32; refine (kn_Name _ (by omega)).mono ?_; rintro e7 w7 ⟨rfl, M7⟩; have M := M3.call M7.below; clear M7 M3)
                refine PlanTQ.mk M ?_
                refine wpT_free (v := .bool b) rfl rfl (.inl ⟨rfl, fun w _ => run_eq26b b rfl rfl rfl HKK.out.1 (kn_len n) HBD.out w⟩) (by assumption) ?_; (conv => arg 6; simp only [Act.put, List.setIfInBounds_toArray, List.set_cons_succ, List.set_cons_zero])
                refine wpT_done ?_
                cases b
                · go_wp2_with fail
                  go_round
                  case rel => exact ⟨j + 1, by omega, by omega, by go_num, M, hid (drop2_succ HJ.out hj2 HKE.out (of_decide_eq_false HBD.out))⟩
                  case measure => simp [intOf]; omega
                · go_wp2_with fail
                  go_ret
                  refine ⟨true, rfl, fun _ => ⟨i, t, HTE.out, ?_⟩, fun h => (by cases h), M.sub (List.nil_sublist _)⟩
                  rw [shownAt, List.getD_eq_getElem?_getD, HV.out, HK0E.out, QH.out, drop2_yes hj2 HKE.out (of_decide_eq_true HBD.out), decide_eq_true HK6.out]
                  rfl
              · obtain rfl : j = t.keys.length := by omega
                go_wp2_with fail
                go_round
                case rel =>
                  refine ⟨i + 1, by omega, by go_num, M.sub (List.nil_sublist _), hid (HSUC.out ?_)⟩
                  rw [shownAt, drop2_not HJ.out, Bool.and_false]
                case measure => simp [intOf]; omega
      · have f6 : (kd != 6) = true := by simpa using e6
        have HK6 := hid (show ¬ t.kind = 6 by rw [← hkd]; exact e6)
        clear hkd
        go_wp2_with (first | (apply wpList_want; (· rfl)) | (refine wpList_ldagg 25 rfl Try.underlying95 rfl rfl rfl rfl (M.cells0 HCT.out) sz95 ?_; (conv => arg 5; simp only [Act.put, List.setIfInBounds_toArray, List.set_cons_succ, List.set_cons_zero])) | (refine wpList_al rfl rfl M z95 rfl (fun b8 w1 M1 => ?_); clear M cA; (conv => arg 5; simp only [Act.put, List.setIfInBounds_toArray, List.set_cons_succ, List.set_cons_zero])) | (refine wpList_strow (vs := [.int .i64 t.kind, .string t.text, .slice B t.keys.length d]) rfl rfl rfl rfl M1 Swap.head sz95 rfl (by simp [Value.oneCell']) (fun w2 M2 => ?_); have M := M2; clear M1 M2; have ck := M.cell (i := 0) (g := b8) (v := .int .i64 t.kind) (by (repeat (first | exact List.mem_cons_self | refine List.mem_cons_of_mem _ ?_))) rfl; have c2 := M.cell (i := 2) (g := b8) (v := .slice B t.keys.length d) (by (repeat (first | exact List.mem_cons_self | refine List.mem_cons_of_mem _ ?_))) rfl; rw [HE.out] at ck; (conv => arg 5; simp only [Act.put, List.setIfInBounds_toArray, List.set_cons_succ, List.set_cons_zero])))
        go_round
        case rel =>
          refine ⟨i + 1, by omega, by go_num, M.sub (List.nil_sublist _), hid (HSUC.out ?_)⟩
          rw [shownAt, decide_eq_false HK6.out]
          rfl
        case measure => simp [intOf]; omega
    · obtain rfl : i = ts.length := by omega
      go_wp2_with fail
      go_ret
      exact ⟨false, rfl, fun h => (by cases h), fun _ j u hu => HN.out j u (List.getElem?_eq_some_iff.1 hu).1 hu, M⟩
end Go.Proofs.Ytcapfnbmmdbcoaa
