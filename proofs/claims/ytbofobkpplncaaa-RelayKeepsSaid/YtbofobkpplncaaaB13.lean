/- Walks of the relay layer's laws: RelayApart. -/
import Derived.Test.YtbofobkpplncaaaB10
set_option linter.unusedVariables false
set_option linter.unusedSimpArgs false
namespace Go.Proofs.Ytbofobkpplncaaa
open Go.RowKit
/-- Two relays have the same mail of a member. -/
def AgreeA (to : Int) (X Y : Boxes) : Prop := inA to → X.getD to.toNat [] = Y.getD to.toNat []
theorem getD_set_same (X : Boxes) (k : Nat) (L : List ByteArray) (h : k < X.length) : (X.set k L).getD k [] = L := by
  rw [List.getD_eq_getElem?_getD, List.getElem?_set_self h, Option.getD_some]
theorem getD_set_other (X : Boxes) (k j : Nat) (L : List ByteArray) (h : k ≠ j) : (X.set k L).getD j [] = X.getD j [] := by
  rw [List.getD_eq_getElem?_getD, List.getD_eq_getElem?_getD, List.getElem?_set_ne h]
theorem toNat_ne {a b : Int} (ha : inA a) (hb : inA b) (h : a ≠ b) : a.toNat ≠ b.toNat := by
  unfold inA at ha hb
  omega
theorem has_in {X : Boxes} {to i : Int} (h : hasA X to i) : inA to := ⟨h.1, h.2.1⟩
theorem post_other (X : Boxes) (to t : Int) (s : ByteArray) (hne : to ≠ t) (ht : inA t) : (postA X to s).1.getD t.toNat [] = X.getD t.toNat [] := by
  unfold postA
  split
  · rename_i h
    exact getD_set_other _ _ _ _ (toNat_ne h ht hne)
  · rfl
theorem take_other (X : Boxes) (to i t : Int) (hne : to ≠ t) (ht : inA t) : (takeA X to i).1.getD t.toNat [] = X.getD t.toNat [] := by
  unfold takeA
  split
  · rename_i h
    exact getD_set_other _ _ _ _ (toNat_ne (has_in h) ht hne)
  · rfl
theorem double_other (X : Boxes) (to i t : Int) (hne : to ≠ t) (ht : inA t) : (doubleA X to i).1.getD t.toNat [] = X.getD t.toNat [] := by
  unfold doubleA
  split
  · rename_i h
    exact getD_set_other _ _ _ _ (toNat_ne (has_in h) ht hne)
  · rfl
theorem move_other (X : Boxes) (to i k t : Int) (hne : to ≠ t) (ht : inA t) : (moveA X to i k).1.getD t.toNat [] = X.getD t.toNat [] := by
  unfold moveA
  split
  · rename_i h
    split
    · exact getD_set_other _ _ _ _ (toNat_ne (has_in h) ht hne)
    · rfl
  · rfl
theorem step_other (X : Boxes) (kind to i k t : Int) (s : ByteArray) (hne : to ≠ t) (ht : inA t) : (stepA X kind to i k s).1.getD t.toNat [] = X.getD t.toNat [] := by
  unfold stepA
  split
  · exact post_other X to t s hne ht
  split
  · exact take_other X to i t hne ht
  split
  · exact take_other X to i t hne ht
  split
  · exact double_other X to i t hne ht
  split
  · exact move_other X to i k t hne ht
  · rfl
theorem has_agree {X Y : Boxes} {to i : Int} (h : AgreeA to X Y) : hasA X to i ↔ hasA Y to i := by
  unfold hasA
  by_cases hi : inA to
  · rw [h hi]
  · unfold inA at hi
    constructor
    · rintro ⟨h1, h2, _⟩; exact absurd ⟨h1, h2⟩ hi
    · rintro ⟨h1, h2, _⟩; exact absurd ⟨h1, h2⟩ hi
theorem get_agree {X Y : Boxes} {to i : Int} (h : AgreeA to X Y) (hi : inA to) : getA X to i = getA Y to i := by
  unfold getA
  rw [h hi]
theorem in_lt {to : Int} {X : Boxes} (h : inA to) (hl : X.length = 8) : to.toNat < X.length := by
  unfold inA at h
  omega
theorem post_agree {X Y : Boxes} {to : Int} {s s' : ByteArray} (h : AgreeA to X Y) (hX : X.length = 8) (hY : Y.length = 8) (hs : inA to → s = s') : (postA X to s).2 = (postA Y to s').2 ∧ AgreeA to (postA X to s).1 (postA Y to s').1 := by
  unfold postA
  by_cases hi : inA to
  · rw [if_pos hi, if_pos hi]
    refine ⟨rfl, fun _ => ?_⟩
    rw [getD_set_same _ _ _ (in_lt hi hX), getD_set_same _ _ _ (in_lt hi hY), h hi, hs hi]
  · rw [if_neg hi, if_neg hi]
    exact ⟨rfl, h⟩
theorem take_agree {X Y : Boxes} {to i : Int} (h : AgreeA to X Y) (hX : X.length = 8) (hY : Y.length = 8) : (takeA X to i).2 = (takeA Y to i).2 ∧ AgreeA to (takeA X to i).1 (takeA Y to i).1 := by
  unfold takeA
  by_cases hh : hasA X to i
  · have hi := has_in hh
    rw [if_pos hh, if_pos ((has_agree h).1 hh)]
    refine ⟨by rw [get_agree h hi], fun _ => ?_⟩
    rw [getD_set_same _ _ _ (in_lt hi hX), getD_set_same _ _ _ (in_lt hi hY), h hi]
  · rw [if_neg hh, if_neg (fun e => hh ((has_agree h).2 e))]
    exact ⟨rfl, h⟩
theorem double_agree {X Y : Boxes} {to i : Int} (h : AgreeA to X Y) (hX : X.length = 8) (hY : Y.length = 8) : (doubleA X to i).2 = (doubleA Y to i).2 ∧ AgreeA to (doubleA X to i).1 (doubleA Y to i).1 := by
  unfold doubleA
  by_cases hh : hasA X to i
  · have hi := has_in hh
    rw [if_pos hh, if_pos ((has_agree h).1 hh)]
    refine ⟨rfl, fun _ => ?_⟩
    rw [getD_set_same _ _ _ (in_lt hi hX), getD_set_same _ _ _ (in_lt hi hY), h hi, get_agree h hi]
  · rw [if_neg hh, if_neg (fun e => hh ((has_agree h).2 e))]
    exact ⟨rfl, h⟩
theorem move_agree {X Y : Boxes} {to i k : Int} (h : AgreeA to X Y) (hX : X.length = 8) (hY : Y.length = 8) : (moveA X to i k).2 = (moveA Y to i k).2 ∧ AgreeA to (moveA X to i k).1 (moveA Y to i k).1 := by
  unfold moveA
  by_cases hh : hasA X to i
  · have hi := has_in hh
    rw [if_pos hh, if_pos ((has_agree h).1 hh), h hi]
    split
    · refine ⟨rfl, fun _ => ?_⟩
      rw [getD_set_same _ _ _ (in_lt hi hX), getD_set_same _ _ _ (in_lt hi hY), get_agree h hi]
    · exact ⟨rfl, h⟩
  · rw [if_neg hh, if_neg (fun e => hh ((has_agree h).2 e))]
    exact ⟨rfl, h⟩
theorem step_agree {X Y : Boxes} {kind to i k : Int} {s : ByteArray} (h : AgreeA to X Y) (hX : X.length = 8) (hY : Y.length = 8) :
    (stepA X kind to i k s).2 = (stepA Y kind to i k s).2 ∧ AgreeA to (stepA X kind to i k s).1 (stepA Y kind to i k s).1 := by
  unfold stepA
  split
  · have := post_agree (s := s) (s' := s) h hX hY (fun _ => rfl)
    exact ⟨by simp only [this.1], this.2⟩
  split
  · exact take_agree h hX hY
  split
  · have := take_agree (i := i) h hX hY
    exact ⟨by simp only [this.1], this.2⟩
  split
  · have := double_agree (i := i) h hX hY
    exact ⟨by simp only [this.1], this.2⟩
  split
  · have := move_agree (i := i) (k := k) h hX hY
    exact ⟨by simp only [this.1], this.2⟩
  · exact ⟨rfl, h⟩
theorem Mail12_any (g : Nat) (to : Int) (Ls : Boxes) (vs : List Value) (w : World) (h : RS w g 28 Ls vs) :
    Calls Try.prog 12 #[.pointer (some ⟨g, 0, none⟩), .int .i64 to] w (MailR w (if inA to then Ls.getD to.toNat [] else [])) := by
  by_cases hi : inA to
  · rw [if_pos hi]
    obtain ⟨k, rfl⟩ := Int.eq_ofNat_of_zero_le hi.1
    exact Mail12_in g k Ls vs w h (by have := hi.2; omega)
  · rw [if_neg hi]
    exact Mail12_out _ to w (by unfold inA at hi; omega)
theorem mail_len {w : World} {g : Nat} {Ls : Boxes} {vs : List Value} {t : TypeId} (h : RS w g t Ls vs) (to : Int) : (if inA to then Ls.getD to.toNat [] else []).length ≤ 40 := by
  split
  · rename_i hi
    have hl := in_lt hi h.2.2.1
    obtain ⟨A, c, _, _, _, _, h5⟩ := h.2.2.2 _ _ (List.getElem?_eq_getElem hl)
    rw [List.getD_eq_getElem?_getD, List.getElem?_eq_getElem hl, Option.getD_some]
    exact h5
  · simp
set_option maxRecDepth 100000 in
set_option maxHeartbeats 2000000 in
theorem RelayApart4 (A : Option Addr) (cap : Nat) (acts : List ActV) (to : Int) (w : World) (hA : ActsR w A acts) (hs : ∀ a ∈ acts, a.s.size ≤ maxLen) (hn : acts.length ≤ maxLen) :
    Calls Try.prog 4 #[.slice A acts.length cap, .int .i64 to] w fun e w' => e = .returned (.bool true) ∧ Below w.heap.size w w' := by
  have M0 := Mem.start w
  go_enter Try.func4, Try.ntmps4
  go_wp2_with (first | (go_at_call 6; refine (alive6 _).mono ?_; rintro e w1 ⟨rfl, M1⟩) | (apply wpList_bld b28; (· rfl); (· rfl); (· rfl); (conv => arg 5; simp only [Act.put, List.setIfInBounds_toArray, List.set_cons_succ, List.set_cons_zero])) | (refine wpList_bx rfl rfl M1 rfl (cs := nil8) rfl (fun b15 w2 M2 => ?_); clear M1; (conv => arg 5; simp only [Act.put, List.setIfInBounds_toArray, List.set_cons_succ, List.set_cons_zero])) | (refine wpList_bx rfl rfl M2 rfl (cs := nil8) rfl (fun b17 w3 M3 => ?_); clear M2; (conv => arg 5; simp only [Act.put, List.setIfInBounds_toArray, List.set_cons_succ, List.set_cons_zero])))
  have hne : b15 ≠ b17 := fun e => by
    have h := (List.pairwise_cons.1 M3.apart).1 (.blk b15 (cellsO 28 nil8)) List.mem_cons_self b17 rfl
    rw [e] at h
    exact h rfl
  have hb15 : w.heap.size ≤ b15 := (M3.fresh _ (List.mem_cons_of_mem _ List.mem_cons_self) b15 rfl).resolve_left (by simp)
  have hb17 : w.heap.size ≤ b17 := (M3.fresh _ List.mem_cons_self b17 rfl).resolve_left (by simp)
  have R1 : RS w3 b15 28 boxes0 nil8 := RS.zero (M3.holds _ (List.mem_cons_of_mem _ List.mem_cons_self))
  have R2 : RS w3 b17 28 boxes0 nil8 := RS.zero (M3.holds _ List.mem_cons_self)
  have B3 := M3.below
  clear M3 M0
  go_loopw [7] (fun n wr => ∃ (i : Nat) (X Y : Boxes) (v1 v2 : List Value), i ≤ acts.length ∧ n = .int .i64 i ∧ RS wr b15 28 X v1 ∧ RS wr b17 28 Y v2 ∧ Hid (AgreeA to X Y) ∧ Below w.heap.size w wr) (fun n _ => acts.length - (intOf n).toNat)
  case atStart => exact ⟨0, boxes0, boxes0, nil8, nil8, by omega, rfl, R1, R2, hid (fun _ => rfl), B3⟩
  case round =>
    clear R1 R2 B3
    obtain ⟨i, X, Y, v1, v2, hi, rfl, R1, R2, HAG, B⟩ := hrel
    by_cases hlt : i < acts.length
    · have hltI : (i : Int) < (acts.length : Int) := by omega
      by_cases h100 : i < 100
      · have h100I : (i : Int) < 100 := by omega
        obtain ⟨a, ha⟩ : ∃ a, acts[i]? = some a := ⟨acts[i], List.getElem?_eq_getElem hlt⟩
        have hsz := hs a (List.mem_of_getElem? ha)
        obtain ⟨b, off, rfl, hcs⟩ := hA i a ha
        have HCS := hid hcs
        have hl1 := R1.2.2.1
        have hl2 := R2.2.2.1
        have c4 := below_cell B (hcs 4 _ rfl)
        clear ha hcs hA hs
        by_cases h1000 : a.s.size ≤ 1000
        · have h1000I : ¬ (1000 : Int) < (a.s.size : Int) := by omega
          have h7 := fun w' (h : RS w' b15 28 X v1) => Do7 b15 a.kind a.to a.i a.k a.s X v1 w' h
          have h7b := fun w' (h : RS w' b17 28 Y v2) => Do7 b17 a.kind a.to a.i a.k a.s Y v2 w' h
          by_cases hto : a.to = to
          · subst hto
            obtain ⟨e1, e2⟩ := step_agree (kind := a.kind) (i := a.i) (k := a.k) (s := a.s) HAG.out hl1 hl2
            rw [← e1] at h7b
            obtain ⟨X', hX⟩ : ∃ x, x = (stepA X a.kind a.to a.i a.k a.s).1 := ⟨_, rfl⟩
            obtain ⟨Y', hY⟩ : ∃ x, x = (stepA Y a.kind a.to a.i a.k a.s).1 := ⟨_, rfl⟩
            obtain ⟨st, hst⟩ : ∃ x, x = (stepA X a.kind a.to a.i a.k a.s).2 := ⟨_, rfl⟩
            rw [← hX] at h7 e2
            rw [← hY] at h7b e2
            rw [← hst] at h7 h7b
            have H7 := hid h7
            have H7b := hid h7b
            have HAG2 := hid e2
            clear h7 h7b e1 e2 hX hY hst hl1 hl2
            go_wp2_with (first | (refine wpList_ldagg 40 rfl Try.underlying33 rfl rfl rfl rfl (cs := a.cs) (fun j v hv => below_cell B (HCS.out j v hv)) sz33 ?_; (conv => arg 5; simp only [Act.put, List.setIfInBounds_toArray, List.set_cons_succ, List.set_cons_zero])) | (go_at_call 7; refine (H7.out _ R1).mono ?_; rintro e w3 ⟨rfl, v1x, S1, hg1, _⟩; clear c4 H7; have S2 := R2.grown hg1 R1.1 (by decide) hne.symm; have B1 := below_grown B rfl hg1 hb15; have c1 := below_cell B1 (HCS.out 1 _ rfl)) | (refine wpList_ldagg 56 rfl Try.underlying33 rfl rfl rfl rfl (cs := a.cs) (fun j v hv => below_cell B1 (HCS.out j v hv)) sz33 ?_; (conv => arg 5; simp only [Act.put, List.setIfInBounds_toArray, List.set_cons_succ, List.set_cons_zero])) | (go_at_call 7; refine (H7b.out _ S2).mono ?_; rintro e w4 ⟨rfl, v2x, T2, hg2, _⟩; clear c1 H7b; have T1 := S1.grown hg2 S2.1 (by decide) hne; have B2 := below_grown B1 rfl hg2 hb17))
            go_roundw
            case rel => exact ⟨i + 1, X', Y', _, _, by omega, by go_num, T1, T2, HAG2, B2⟩
            case measure => simp [intOf]; omega
          · have hne2 : (a.to != to) = true := by rw [bne_iff_ne]; exact hto
            have e2 : AgreeA to (stepA X a.kind a.to a.i a.k a.s).1 Y := fun h => by rw [step_other X a.kind a.to a.i a.k to a.s hto h]; exact HAG.out h
            obtain ⟨X', hX⟩ : ∃ x, x = (stepA X a.kind a.to a.i a.k a.s).1 := ⟨_, rfl⟩
            rw [← hX] at h7 e2
            have H7 := hid h7
            have HAG2 := hid e2
            clear h7 h7b e2 hX hl1 hl2 hto
            go_wp2_with (first | (refine wpList_ldagg 40 rfl Try.underlying33 rfl rfl rfl rfl (cs := a.cs) (fun j v hv => below_cell B (HCS.out j v hv)) sz33 ?_; (conv => arg 5; simp only [Act.put, List.setIfInBounds_toArray, List.set_cons_succ, List.set_cons_zero])) | (go_at_call 7; refine (H7.out _ R1).mono ?_; rintro e w3 ⟨rfl, v1x, S1, hg1, _⟩; clear c4 H7; have S2 := R2.grown hg1 R1.1 (by decide) hne.symm; have B1 := below_grown B rfl hg1 hb15; have c1 := below_cell B1 (HCS.out 1 _ rfl)))
            go_roundw
            case rel => exact ⟨i + 1, X', Y, _, _, by omega, by go_num, S1, S2, HAG2, B1⟩
            case measure => simp [intOf]; omega
        · have h1000I : (1000 : Int) < (a.s.size : Int) := by omega
          clear hl1 hl2
          go_wp2_with fail
          go_roundw
          case rel => exact ⟨i + 1, X, Y, v1, v2, by omega, by go_num, R1, R2, HAG, B⟩
          case measure => simp [intOf]; omega
      · have h100I : ¬ (i : Int) < 100 := by omega
        have hml := mail_len R1 to
        have hMa := fun w' (h : RS w' b15 28 X v1) => Mail12_any b15 to X v1 w' h
        have hMb := fun w' (h : RS w' b17 28 Y v2) => Mail12_any b17 to Y v2 w' h
        have heq : (if inA to then Y.getD to.toNat [] else []) = (if inA to then X.getD to.toNat [] else []) := by
          split
          · rename_i h; exact (HAG.out h).symm
          · rfl
        rw [heq] at hMb
        obtain ⟨L, hL⟩ : ∃ L, L = (if inA to then X.getD to.toNat [] else []) := ⟨_, rfl⟩
        rw [← hL] at hMa hMb hml
        have HMa := hid hMa
        have HMb := hid hMb
        have HR1 := hid R1
        have HR2 := hid R2
        clear hMa hMb hL heq R1 R2
        have Mr := Mem.start wr
        go_wp2_with (first | (go_at_call 6; refine (alive6 _).mono ?_; rintro e w1 ⟨rfl, M1⟩; replace Mr := Mr.call M1.below) | (apply wpList_wantCall; (· rfl)) | (go_at_call 12; refine (HMa.out _ (HR1.out.below Mr.below)).mono ?_; rintro e w4 ⟨A4, c4, rfl, _, _, r4, hb4, _⟩; replace Mr := Mr.call hb4; clear HMa) | (go_at_call 12; refine (HMb.out _ (HR2.out.below Mr.below)).mono ?_; rintro e w5 ⟨A5, c5, rfl, _, _, r5, hb5, _⟩; replace Mr := Mr.call hb5; clear HMb; replace r4 := r4.below hb5) | (go_at_call 13; refine (Same13 A4 A5 c4 c5 L _ r4 r5 (by omega)).mono ?_; rintro e w7 ⟨rfl, M7⟩; replace Mr := Mr.call M7.below))
        go_ret
        exact ⟨rfl, B.trans (Mr.below.mono B.size)⟩
    · have hltI : ¬ (i : Int) < (acts.length : Int) := by omega
      have hml := mail_len R1 to
      have hMa := fun w' (h : RS w' b15 28 X v1) => Mail12_any b15 to X v1 w' h
      have hMb := fun w' (h : RS w' b17 28 Y v2) => Mail12_any b17 to Y v2 w' h
      have heq : (if inA to then Y.getD to.toNat [] else []) = (if inA to then X.getD to.toNat [] else []) := by
        split
        · rename_i h; exact (HAG.out h).symm
        · rfl
      rw [heq] at hMb
      obtain ⟨L, hL⟩ : ∃ L, L = (if inA to then X.getD to.toNat [] else []) := ⟨_, rfl⟩
      rw [← hL] at hMa hMb hml
      have HMa := hid hMa
      have HMb := hid hMb
      have HR1 := hid R1
      have HR2 := hid R2
      clear hMa hMb hL heq R1 R2
      have Mr := Mem.start wr
      go_wp2_with (first | (go_at_call 6; refine (alive6 _).mono ?_; rintro e w1 ⟨rfl, M1⟩; replace Mr := Mr.call M1.below) | (apply wpList_wantCall; (· rfl)) | (go_at_call 12; refine (HMa.out _ (HR1.out.below Mr.below)).mono ?_; rintro e w4 ⟨A4, c4, rfl, _, _, r4, hb4, _⟩; replace Mr := Mr.call hb4; clear HMa) | (go_at_call 12; refine (HMb.out _ (HR2.out.below Mr.below)).mono ?_; rintro e w5 ⟨A5, c5, rfl, _, _, r5, hb5, _⟩; replace Mr := Mr.call hb5; clear HMb; replace r4 := r4.below hb5) | (go_at_call 13; refine (Same13 A4 A5 c4 c5 L _ r4 r5 (by omega)).mono ?_; rintro e w7 ⟨rfl, M7⟩; replace Mr := Mr.call M7.below))
      go_ret
      exact ⟨rfl, B.trans (Mr.below.mono B.size)⟩
end Go.Proofs.Ytbofobkpplncaaa
