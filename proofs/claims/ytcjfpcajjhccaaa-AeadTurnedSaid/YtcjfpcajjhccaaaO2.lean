/- Walks of the onetime layer's laws: OnetimeTags. -/
import Derived.Test.YtcjfpcajjhccaaaO1
set_option linter.unusedVariables false
set_option linter.unusedSimpArgs false
namespace Go.Proofs.Ytcjfpcajjhccaaa
open Go.RowKit
theorem joinAll_all (ps : List ByteArray) : bytesOf (joinAll ps) = bytesAll ps := joinAll_bytes ps
/-- The reference's tag, as the program's. -/
theorem Tag28k (key : List Int) (text : ByteArray) (w : World) (hk : key.length = 32) (hkb : digOk 256 key) (ht : text.size ≤ 17000) :
    Calls Try.prog 28 #[.agg (nums .u8 key).toArray, .string text] w fun e w' => e = .returned (.string (strOfNums (tagK key (bytesOf text)))) ∧ Below w.heap.size w w' := by
  rw [tag_eq key _ hk hkb (fun x hx => bytesOf_all text x hx)]
  exact Tag28 key text w hk hkb ht
set_option maxRecDepth 100000 in
theorem OnetimeTags8 (key : List Int) (A : Option Addr) (cap : Nat) (ps : List ByteArray) (w : World) (hk : key.length = 32) (hkb : digOk 256 key) (hA : RowS w A ps) (hn : ps.length ≤ maxLen) (hs : ∀ p ∈ ps, p.size ≤ maxLen) :
    Calls Try.prog 8 #[.agg (nums .u8 key).toArray, .slice A ps.length cap] w fun e w' => e = .returned (.bool true) ∧ Below w.heap.size w w' := by
  have M0 := Mem.start w
  have HG := hid (fun w' (h : RowS w' A ps) => great26 A cap ps w' h hn hs)
  go_enter Try.func8, Try.ntmps8
  go_wp2_with (first | (go_at_call 25; refine (alive25 _).mono ?_; rintro e w' ⟨rfl, hb⟩; replace M' := M'.call hb) | (apply wpList_bxN 2; (· rfl); (· rfl); (· rfl); (· rfl); (· assumption); intro b2 w' M'; (conv => arg 5; simp only [Act.put, List.setIfInBounds_toArray, List.set_cons_succ, List.set_cons_zero])) | (apply wpList_wantLd; (· rfl)) | (apply wpList_ldrowN Try.underlying23 s23; (· rfl); (· rfl); (· rfl); (· rfl); (· assumption); (· (repeat (first | exact List.mem_cons_self | refine List.mem_cons_of_mem _ ?_))); (· (first | with_reducible assumption | omega | (simp only [nums_length, List.length_set, List.length_replicate]; first | with_reducible assumption | omega) | rfl | (simp [*]; done) | (simp [*]; omega))); (conv => arg 5; simp only [Act.put, List.setIfInBounds_toArray, List.set_cons_succ, List.set_cons_zero])))
  refine (HG.out _ (hA.kept (M'.sub (List.nil_sublist _)))).mono ?_
  rintro e w2 ⟨g, rfl, rfl, hg⟩
  cases g with
  | true =>
    clear hg
    go_wp2_with (go_at_call 25; refine (alive25 _).mono ?_; rintro e w' ⟨rfl, hb⟩; replace M' := M'.call hb)
    go_ret
    exact ⟨rfl, M'.below⟩
  | false =>
    obtain ⟨hl, hp⟩ := hg rfl
    have hsz := joinAll_size ps 500 hp
    have hjs : (joinAll ps).size ≤ 17000 := by have := Nat.mul_le_mul_right 500 hl; omega
    have H27 := hid (fun w' (h : RowS w' A ps) => Tag27 key (.slice A ps.length cap) ps w' hk hkb (fun b hb => h.strs b hb) (by omega) (fun p h => Nat.le_trans (hp p h) (by decide)))
    have H29 := hid (fun w' (h : RowS w' A ps) => Join29 A cap ps w' h (by omega) (fun p h => Nat.le_trans (hp p h) (by decide)))
    have H28 := hid (fun w' => Tag28k key (joinAll ps) w' hk hkb hjs)
    rw [joinAll_all] at H28
    obtain ⟨tg, htg⟩ : ∃ x, x = strOfNums (tagK key (bytesAll ps)) := ⟨_, rfl⟩
    obtain ⟨jn, hjn⟩ : ∃ x, x = joinAll ps := ⟨_, rfl⟩
    rw [← htg] at H27 H28
    rw [← hjn] at H28 H29
    clear hg htg hjn hjs hsz hl hp
    go_wp2_with fail
    refine wp_region_planH [(false, 0), (true, 1), (true, 2), (true, 3), (true, 5), (true, 6), (false, 4), (false, 7), (false, 8), (true, 9), (true, 10), (true, 11)] (by kernel_rfl) (by kernel_rfl) (fun _ _ _ _ _ h => h) M' (fun w1 M1 => ?_)
    clear M'
    have hA1 := hA.kept (M1.sub (List.nil_sublist _))
    refine wpPlan_op rfl ?_
    go_wp2_with (go_at_call 25; refine (alive25 _).mono ?_; rintro e w' ⟨rfl, hb⟩; replace M1 := M1.call hb)
    refine PlanQ.mk M1 ?_
    (refine wpPlan_free rfl rfl (.inl ⟨rfl, fun w _ => by go_simp; rfl⟩) (by assumption) ?_; (conv => arg 6; simp only [Act.put, List.setIfInBounds_toArray, List.set_cons_succ, List.set_cons_zero]))
    refine wpPlan_free rfl rfl (.inl ⟨rfl, fun w hw => run_ldrowN Try.underlying23 s23 rfl rfl rfl hw List.mem_cons_self hk⟩) (by assumption) ?_; (conv => arg 6; simp only [Act.put, List.setIfInBounds_toArray, List.set_cons_succ, List.set_cons_zero])
    (refine wpPlan_free rfl rfl (.inl ⟨rfl, fun w _ => by go_simp; rfl⟩) (by assumption) ?_; (conv => arg 6; simp only [Act.put, List.setIfInBounds_toArray, List.set_cons_succ, List.set_cons_zero]))
    refine wpPlan_free rfl rfl (.inl ⟨rfl, fun w hw => run_ldrowN Try.underlying23 s23 rfl rfl rfl hw List.mem_cons_self hk⟩) (by assumption) ?_; (conv => arg 6; simp only [Act.put, List.setIfInBounds_toArray, List.set_cons_succ, List.set_cons_zero])
    (refine wpPlan_free rfl rfl (.inl ⟨rfl, fun w _ => by go_simp; rfl⟩) (by assumption) ?_; (conv => arg 6; simp only [Act.put, List.setIfInBounds_toArray, List.set_cons_succ, List.set_cons_zero]))
    refine wpPlan_op rfl ?_
    go_wp2_with (go_at_call 27; refine (H27.out _ (hA.kept (M1.sub (List.nil_sublist _)))).mono ?_; rintro e w' ⟨rfl, hb⟩; replace M1 := M1.call hb)
    refine PlanQ.mk M1 (wpPlan_op rfl ?_)
    go_wp2_with (go_at_call 29; refine (H29.out _ (hA.kept (M1.sub (List.nil_sublist _)))).mono ?_; rintro e w' ⟨rfl, rfl⟩)
    refine PlanQ.mk M1 (wpPlan_op rfl ?_)
    go_wp2_with (go_at_call 28; refine (H28.out _).mono ?_; rintro e w' ⟨rfl, hb⟩; replace M1 := M1.call hb)
    refine PlanQ.mk M1 ?_
    (refine wpPlan_free rfl rfl (.inl ⟨rfl, fun w _ => by go_simp; rfl⟩) (by assumption) ?_; (conv => arg 6; simp only [Act.put, List.setIfInBounds_toArray, List.set_cons_succ, List.set_cons_zero]))
    (refine wpPlan_free rfl rfl (.inl ⟨rfl, fun w _ => by go_simp; rfl⟩) (by assumption) ?_; (conv => arg 6; simp only [Act.put, List.setIfInBounds_toArray, List.set_cons_succ, List.set_cons_zero]))
    (refine wpPlan_free rfl rfl (.inl ⟨rfl, fun w _ => by go_simp; rfl⟩) (by assumption) ?_; (conv => arg 6; simp only [Act.put, List.setIfInBounds_toArray, List.set_cons_succ, List.set_cons_zero]))
    refine wpPlan_nil ?_
    go_wp2_with fail
    go_ret
    exact ⟨rfl, M1.below⟩
end Go.Proofs.Ytcjfpcajjhccaaa
