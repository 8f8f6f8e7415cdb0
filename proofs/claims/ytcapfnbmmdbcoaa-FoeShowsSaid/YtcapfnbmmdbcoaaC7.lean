/- Walks of the term layer: does a key follow? -/
import Derived.Test.YtcapfnbmmdbcoaaC6
set_option linter.unusedVariables false
set_option linter.unusedSimpArgs false
namespace Go.Proofs.Ytcapfnbmmdbcoaa
open Go.RowKit
/-- What follows, term by term: pointer f has the table g and the row kb of what is known. -/
structure FP (w : World) (f g kb : Nat) (A : Option Addr) (c : Nat) (bs : List Bool) : Prop where
  c0 : w.cell? ⟨f, 0, none⟩ = some (.pointer (some ⟨g, 0, none⟩))
  c1 : w.cell? ⟨f, 1, none⟩ = some (.slice (some ⟨kb, 0, none⟩) bs.length bs.length)
  ct : w.cell? ⟨g, 0, none⟩ = some (.slice A bs.length c)
  kn : ∀ (i : Nat) (b : Bool), bs[i]? = some b → w.cell? ⟨kb, i, none⟩ = some (.bool b)
theorem FP.below {w w' : World} {f g kb c : Nat} {A : Option Addr} {bs : List Bool} (h : FP w f g kb A c bs) (hb : Below w.heap.size w w') : FP w' f g kb A c bs := by
  have hc : ∀ (ad : Addr) (v : Value), w.cell? ad = some v → w'.cell? ad = some v := fun ad v hv => by
    rw [← hv]
    exact World.cell?_of_block (hb.block _ (World.block_lt_of_cell? w ad hv))
  exact ⟨hc _ _ h.c0, hc _ _ h.c1, hc _ _ h.ct, fun i b hi => hc _ _ (h.kn i b hi)⟩
def hasM (bs : List Bool) (k : List Int) : Bool := if 0 ≤ numT bs.length k then bs.getD (numT bs.length k).toNat false else !decide (nameL (numK k) = k)
theorem numT_cases (n : Nat) (k : List Int) (hk : KeyOk k) : numT n k = -1 ∨ ∃ i : Nat, i < n ∧ numT n k = i := by
  unfold numT
  split
  · rename_i h
    have := (numK_range hk.2).1
    exact .inr ⟨(numK k).toNat, by omega, by omega⟩
  · exact .inl rfl
set_option maxRecDepth 100000 in
set_option maxHeartbeats 1000000 in
theorem has42 (f g kb c : Nat) (A : Option Addr) (bs : List Bool) (k : List Int) (w : World) (h : FP w f g kb A c bs) (hk : KeyOk k) (hn : bs.length ≤ 1000000) :
    Calls Try.prog 42 #[.pointer (some ⟨f, 0, none⟩), .agg (nums .u8 k).toArray] w (BoolR (hasM bs k) w) := by
  have M0 := Mem.start w
  have H0 := hid h.c0
  have H1 := hid h.c1
  have HT := hid h.ct
  have HKN := hid h.kn
  have HK := hid hk
  rcases numT_cases bs.length k hk with hm | ⟨i, hi, hm⟩
  · have HM := hid hm
    rw [show hasM bs k = !decide (nameL (numK k) = k) from by rw [hasM, hm]; rfl]
    clear h hk hm
    go_enter Try.func42, Try.ntmps42
    go_wp2_with (refine wpList_bxN 3 rfl rfl rfl rfl M0 (fun b3 w0 M1 => ?_); clear M0; (conv => arg 5; simp only [Act.put, List.setIfInBounds_toArray, List.set_cons_succ, List.set_cons_zero]))
    refine wp_region_planT (.free 0 (.free 1 (.free 2 (.free 3 (.free 4 (.one 5 (.free 6 (.done)))))))) (by kernel_rfl) (by kernel_rfl) (fun _ _ _ _ _ h => h) M1 (fun w1 M2 => ?_)
    clear M1
    iterate 3 (refine wpT_free rfl rfl (.inl ⟨rfl, fun w _ => by go_simp; rfl⟩) (by assumption) ?_; (conv => arg 6; simp only [Act.put, List.setIfInBounds_toArray, List.set_cons_succ, List.set_cons_zero]))
    refine wpT_free rfl rfl (.inl ⟨rfl, fun w hw => run_ld1 Try.underlying23 rfl rfl rfl (hw.cell0 H0.out)⟩) (by assumption) ?_; (conv => arg 6; simp only [Act.put, List.setIfInBounds_toArray, List.set_cons_succ, List.set_cons_zero])
    refine wpT_free rfl rfl (.inl ⟨rfl, fun w hw => run_ldrowN Try.underlying26 s26 rfl rfl rfl hw List.mem_cons_self HK.out.1⟩) (by assumption) ?_; (conv => arg 6; simp only [Act.put, List.setIfInBounds_toArray, List.set_cons_succ, List.set_cons_zero])
    refine wpT_op rfl ?_
    go_wp2_with (go_at_call 43; refine (number43 g bs.length c A k _ (M2.cell0 HT.out) HK.out.1 HK.out.2 hn).mono ?_; rintro e w2 ⟨rfl, M3⟩; replace M2 := M2.call M3.below; clear M3; rw [HM.out])
    refine PlanTQ.mk M2 ?_
    (refine wpT_free rfl rfl (.inl ⟨rfl, fun w _ => by go_simp; rfl⟩) (by assumption) ?_; (conv => arg 6; simp only [Act.put, List.setIfInBounds_toArray, List.set_cons_succ, List.set_cons_zero]))
    refine wpT_done ?_
    go_wp2_with (first | (apply wpList_want; (· rfl)) | (refine wpList_ldrowN Try.underlying26 s26 rfl rfl rfl rfl M2 List.mem_cons_self HK.out.1 ?_; (conv => arg 5; simp only [Act.put, List.setIfInBounds_toArray, List.set_cons_succ, List.set_cons_zero])) | (go_at_call 68; refine (shaped68 k _ HK.out.1 HK.out.2).mono ?_; rintro e w3 ⟨rfl, M3⟩; replace M2 := M2.call M3.below; clear M3))
    go_ret
    exact ⟨rfl, M2.sub (List.nil_sublist _)⟩
  · have HM := hid hm
    obtain ⟨b, hb⟩ : ∃ b, bs[i]? = some b := ⟨bs[i], List.getElem?_eq_getElem hi⟩
    rw [show hasM bs k = b from by rw [hasM, hm, if_pos (by omega), Int.toNat_natCast, List.getD_eq_getElem?_getD, hb]; rfl]
    have HKB := hid (HKN.out i b hb)
    have hiI : (i : Int) < (bs.length : Int) := by omega
    clear h hk hm hb
    go_enter Try.func42, Try.ntmps42
    go_wp2_with (refine wpList_bxN 3 rfl rfl rfl rfl M0 (fun b3 w0 M1 => ?_); clear M0; (conv => arg 5; simp only [Act.put, List.setIfInBounds_toArray, List.set_cons_succ, List.set_cons_zero]))
    refine wp_region_planT (.free 0 (.free 1 (.free 2 (.free 3 (.free 4 (.one 5 (.free 6 (.done)))))))) (by kernel_rfl) (by kernel_rfl) (fun _ _ _ _ _ h => h) M1 (fun w1 M2 => ?_)
    clear M1
    iterate 3 (refine wpT_free rfl rfl (.inl ⟨rfl, fun w _ => by go_simp; rfl⟩) (by assumption) ?_; (conv => arg 6; simp only [Act.put, List.setIfInBounds_toArray, List.set_cons_succ, List.set_cons_zero]))
    refine wpT_free rfl rfl (.inl ⟨rfl, fun w hw => run_ld1 Try.underlying23 rfl rfl rfl (hw.cell0 H0.out)⟩) (by assumption) ?_; (conv => arg 6; simp only [Act.put, List.setIfInBounds_toArray, List.set_cons_succ, List.set_cons_zero])
    refine wpT_free rfl rfl (.inl ⟨rfl, fun w hw => run_ldrowN Try.underlying26 s26 rfl rfl rfl hw List.mem_cons_self HK.out.1⟩) (by assumption) ?_; (conv => arg 6; simp only [Act.put, List.setIfInBounds_toArray, List.set_cons_succ, List.set_cons_zero])
    refine wpT_op rfl ?_
    go_wp2_with (go_at_call 43; refine (number43 g bs.length c A k _ (M2.cell0 HT.out) HK.out.1 HK.out.2 hn).mono ?_; rintro e w2 ⟨rfl, M3⟩; replace M2 := M2.call M3.below; clear M3; rw [HM.out])
    refine PlanTQ.mk M2 ?_
    (refine wpT_free rfl rfl (.inl ⟨rfl, fun w _ => by go_simp; rfl⟩) (by assumption) ?_; (conv => arg 6; simp only [Act.put, List.setIfInBounds_toArray, List.set_cons_succ, List.set_cons_zero]))
    refine wpT_done ?_
    have c1 := M2.cell0 H1.out
    have ck := M2.cell0 HKB.out
    cases b
    · go_wp2_with (first | (apply wpList_want; (· rfl)))
      go_ret
      exact ⟨rfl, M2.sub (List.nil_sublist _)⟩
    · go_wp2_with (first | (apply wpList_want; (· rfl)))
      go_ret
      exact ⟨rfl, M2.sub (List.nil_sublist _)⟩
end Go.Proofs.Ytcapfnbmmdbcoaa
