/- Walks of the term layer: a key follows from now on. -/
import Derived.Test.YtcapfnbmmdbcoaaC7
set_option linter.unusedVariables false
set_option linter.unusedSimpArgs false
namespace Go.Proofs.Ytcapfnbmmdbcoaa
open Go.RowKit
def bools (bs : List Bool) : List Value := bs.map Value.bool
theorem bools_set (bs : List Bool) (i : Nat) (b : Bool) : (bools bs).set i (.bool b) = bools (bs.set i b) := by simp [bools, List.map_set]
theorem bools_get {bs : List Bool} {i : Nat} {b : Bool} (h : bs[i]? = some b) : (bools bs)[i]? = some (.bool b) := by simp [bools, h]
theorem Mem.cellE {w0 w : World} {E : List Nat} {L : List Item} (M : Mem w0 E w L) {ad : Addr} {v : Value} (h : w0.cell? ad = some v) (hn : ad.block ∉ E) : w.cell? ad = some v := by
  rw [← h]
  exact World.cell?_of_block (M.old _ (World.block_lt_of_cell? w0 ad h) hn)
structure FW (w : World) (f g kb : Nat) (A : Option Addr) (c : Nat) (bs : List Bool) : Prop where
  c0 : w.cell? ⟨f, 0, none⟩ = some (.pointer (some ⟨g, 0, none⟩))
  c1 : w.cell? ⟨f, 1, none⟩ = some (.slice (some ⟨kb, 0, none⟩) bs.length bs.length)
  ct : w.cell? ⟨g, 0, none⟩ = some (.slice A bs.length c)
  hk : w.heap[kb]? = some (cellsO 4 (bools bs))
  nf : f ≠ kb
  ng : g ≠ kb
theorem FW.fp {w : World} {f g kb c : Nat} {A : Option Addr} {bs : List Bool} (h : FW w f g kb A c bs) : FP w f g kb A c bs :=
  ⟨h.c0, h.c1, h.ct, fun i b hi => by rw [cell_of_row w kb i _ 4 (0, 0) h.hk]; simpa using bools_get hi⟩
theorem FW.step {w w' : World} {f g kb c : Nat} {A : Option Addr} {bs bs' : List Bool} {L : List Item} (h : FW w f g kb A c bs) (M : Mem w [kb] w' L) (hl : bs'.length = bs.length) (hk : w'.heap[kb]? = some (cellsO 4 (bools bs'))) : FW w' f g kb A c bs' :=
  ⟨M.cellE h.c0 (by simpa using h.nf), by rw [hl]; exact M.cellE h.c1 (by simpa using h.nf), by rw [hl]; exact M.cellE h.ct (by simpa using h.ng), hk, h.nf, h.ng⟩
theorem FW.below {w w' : World} {f g kb c : Nat} {A : Option Addr} {bs : List Bool} (h : FW w f g kb A c bs) (hb : Below w.heap.size w w') : FW w' f g kb A c bs := by
  have hc : ∀ (ad : Addr) (v : Value), w.cell? ad = some v → w'.cell? ad = some v := fun ad v hv => by
    rw [← hv]
    exact World.cell?_of_block (hb.block _ (World.block_lt_of_cell? w ad hv))
  exact ⟨hc _ _ h.c0, hc _ _ h.c1, hc _ _ h.ct, by rw [hb.block kb (Array.getElem?_eq_some_iff.1 h.hk).1, h.hk], h.nf, h.ng⟩
/-- What is known behind a key that is learnt; was that new? -/
def learnL (bs : List Bool) (k : List Int) : List Bool := if 0 ≤ numT bs.length k then bs.set (numT bs.length k).toNat true else bs
def learnB (bs : List Bool) (k : List Int) : Bool := decide (0 ≤ numT bs.length k) && !(bs.getD (numT bs.length k).toNat false)
theorem learnL_length (bs : List Bool) (k : List Int) : (learnL bs k).length = bs.length := by unfold learnL; split <;> simp
def LearnR (w : World) (kb : Nat) (bs bs' : List Bool) (b : Bool) (e : Ending) (w' : World) : Prop := e = .returned (.bool b) ∧ w'.heap[kb]? = some (cellsO 4 (bools bs')) ∧ Mem w [kb] w' []
theorem set_same {bs : List Bool} {i : Nat} {b : Bool} (h : bs[i]? = some b) : bs.set i b = bs := by
  apply List.ext_getElem?
  intro j
  rw [List.getElem?_set]
  split
  · rename_i hj
    subst hj
    have := (List.getElem?_eq_some_iff.1 h).1
    rw [if_pos (by simpa using this), h]
  · rfl
set_option maxRecDepth 100000 in
set_option maxHeartbeats 1000000 in
theorem learn40 (f g kb c : Nat) (A : Option Addr) (bs : List Bool) (k : List Int) (w : World) (h : FW w f g kb A c bs) (hk : KeyOk k) (hn : bs.length ≤ 1000000) :
    Calls Try.prog 40 #[.pointer (some ⟨f, 0, none⟩), .agg (nums .u8 k).toArray] w (LearnR w kb bs (learnL bs k) (learnB bs k)) := by
  have M0 := Mem.start1 h.hk
  have H0 := hid h.c0
  have H1 := hid h.c1
  have HT := hid h.ct
  have HF := hid (show f ∉ [kb] from by simpa using h.nf)
  have HG := hid (show g ∉ [kb] from by simpa using h.ng)
  have HK := hid hk
  rcases numT_cases bs.length k hk with hm | ⟨i, hi, hm⟩
  · have HM := hid hm
    rw [show learnL bs k = bs from by rw [learnL, hm]; rfl, show learnB bs k = false from by rw [learnB, hm]; rfl]
    clear h hk hm
    go_enter Try.func40, Try.ntmps40
    go_wp2_with (refine wpList_bxN 3 rfl rfl rfl rfl M0 (fun b3 w0 M1 => ?_); clear M0; (conv => arg 5; simp only [Act.put, List.setIfInBounds_toArray, List.set_cons_succ, List.set_cons_zero]))
    refine wp_region_planT (.free 0 (.free 1 (.free 2 (.free 3 (.free 4 (.one 5 (.free 6 (.done)))))))) (by kernel_rfl) (by kernel_rfl) (fun _ _ _ _ _ h => h) M1 (fun w1 M2 => ?_)
    clear M1
    iterate 3 (refine wpT_free rfl rfl (.inl ⟨rfl, fun w _ => by go_simp; rfl⟩) (by assumption) ?_; (conv => arg 6; simp only [Act.put, List.setIfInBounds_toArray, List.set_cons_succ, List.set_cons_zero]))
    refine wpT_free rfl rfl (.inl ⟨rfl, fun w hw => run_ld1 Try.underlying23 rfl rfl rfl (hw.cellE H0.out HF.out)⟩) (by assumption) ?_; (conv => arg 6; simp only [Act.put, List.setIfInBounds_toArray, List.set_cons_succ, List.set_cons_zero])
    refine wpT_free rfl rfl (.inl ⟨rfl, fun w hw => run_ldrowN Try.underlying26 s26 rfl rfl rfl hw List.mem_cons_self HK.out.1⟩) (by assumption) ?_; (conv => arg 6; simp only [Act.put, List.setIfInBounds_toArray, List.set_cons_succ, List.set_cons_zero])
    refine wpT_op rfl ?_
    go_wp2_with (go_at_call 43; refine (number43 g bs.length c A k _ (M2.cellE HT.out HG.out) HK.out.1 HK.out.2 hn).mono ?_; rintro e w2 ⟨rfl, M3⟩; replace M2 := M2.call M3.below; clear M3; rw [HM.out])
    refine PlanTQ.mk M2 ?_
    (refine wpT_free rfl rfl (.inl ⟨rfl, fun w _ => by go_simp; rfl⟩) (by assumption) ?_; (conv => arg 6; simp only [Act.put, List.setIfInBounds_toArray, List.set_cons_succ, List.set_cons_zero]))
    refine wpT_done ?_
    go_wp2_with (first | (apply wpList_want; (· rfl)))
    go_ret
    exact ⟨rfl, M2.holds _ (List.mem_cons_of_mem _ List.mem_cons_self), M2.sub (List.nil_sublist _)⟩
  · have HM := hid hm
    obtain ⟨b, hb⟩ : ∃ b, bs[i]? = some b := ⟨bs[i], List.getElem?_eq_getElem hi⟩
    have hgd : bs.getD i false = b := by rw [List.getD_eq_getElem?_getD, hb]; rfl
    rw [show learnL bs k = bs.set i true from by rw [learnL, hm, if_pos (by omega), Int.toNat_natCast], show learnB bs k = !b from by rw [learnB, hm, Int.toNat_natCast, hgd, decide_eq_true (by omega), Bool.true_and]]
    have hiI : (i : Int) < (bs.length : Int) := by omega
    have hbl : (bools bs).length = bs.length := by simp [bools]
    have HB := hid hb
    clear h hk hm hgd hb
    go_enter Try.func40, Try.ntmps40
    go_wp2_with (refine wpList_bxN 3 rfl rfl rfl rfl M0 (fun b3 w0 M1 => ?_); clear M0; (conv => arg 5; simp only [Act.put, List.setIfInBounds_toArray, List.set_cons_succ, List.set_cons_zero]))
    refine wp_region_planT (.free 0 (.free 1 (.free 2 (.free 3 (.free 4 (.one 5 (.free 6 (.done)))))))) (by kernel_rfl) (by kernel_rfl) (fun _ _ _ _ _ h => h) M1 (fun w1 M2 => ?_)
    clear M1
    iterate 3 (refine wpT_free rfl rfl (.inl ⟨rfl, fun w _ => by go_simp; rfl⟩) (by assumption) ?_; (conv => arg 6; simp only [Act.put, List.setIfInBounds_toArray, List.set_cons_succ, List.set_cons_zero]))
    refine wpT_free rfl rfl (.inl ⟨rfl, fun w hw => run_ld1 Try.underlying23 rfl rfl rfl (hw.cellE H0.out HF.out)⟩) (by assumption) ?_; (conv => arg 6; simp only [Act.put, List.setIfInBounds_toArray, List.set_cons_succ, List.set_cons_zero])
    refine wpT_free rfl rfl (.inl ⟨rfl, fun w hw => run_ldrowN Try.underlying26 s26 rfl rfl rfl hw List.mem_cons_self HK.out.1⟩) (by assumption) ?_; (conv => arg 6; simp only [Act.put, List.setIfInBounds_toArray, List.set_cons_succ, List.set_cons_zero])
    refine wpT_op rfl ?_
    go_wp2_with (go_at_call 43; refine (number43 g bs.length c A k _ (M2.cellE HT.out HG.out) HK.out.1 HK.out.2 hn).mono ?_; rintro e w2 ⟨rfl, M3⟩; replace M2 := M2.call M3.below; clear M3; rw [HM.out])
    refine PlanTQ.mk M2 ?_
    (refine wpT_free rfl rfl (.inl ⟨rfl, fun w _ => by go_simp; rfl⟩) (by assumption) ?_; (conv => arg 6; simp only [Act.put, List.setIfInBounds_toArray, List.set_cons_succ, List.set_cons_zero]))
    refine wpT_done ?_
    have c1 := M2.cellE H1.out HF.out
    have ck := M2.cell (List.mem_cons_of_mem _ List.mem_cons_self) (bools_get HB.out)
    cases b
    · go_wp2_with (first | (apply wpList_want; (· rfl)) | (refine wpList_stM (v := .bool true) rfl rfl s4 rfl rfl rfl M2 (Swap.tail Swap.head) (by omega) (fun w3 M3 => ?_); clear ck M2; (conv => arg 5; simp only [Act.put, List.setIfInBounds_toArray, List.set_cons_succ, List.set_cons_zero])))
      go_ret
      refine ⟨rfl, ?_, M3.sub (List.nil_sublist _)⟩
      have := M3.holds _ (List.mem_cons_of_mem _ List.mem_cons_self)
      rw [bools_set] at this
      exact this
    · go_wp2_with (first | (apply wpList_want; (· rfl)))
      go_ret
      exact ⟨rfl, by rw [set_same HB.out]; exact M2.holds _ (List.mem_cons_of_mem _ List.mem_cons_self), M2.sub (List.nil_sublist _)⟩
end Go.Proofs.Ytcapfnbmmdbcoaa
