/- Walks of the term layer's laws: TermMeets. -/
import Derived.Test.YtcapfnbmmdbcoaaCU
set_option linter.unusedVariables false
set_option linter.unusedSimpArgs false
namespace Go.Proofs.Ytcapfnbmmdbcoaa
open Go.RowKit
/-- A law's call returns true and writes no old memory. -/
def TrueR (w : World) (e : Ending) (w' : World) : Prop := e = .returned (.bool true) ∧ Mem w [] w' []
def atomT (a : ByteArray) : Tm := ⟨1, a, []⟩
/-- What TermMeets's steps come to. -/
structure MeetS (a b : ByteArray) (x y u v k : List Int) (t1 t2 t3 t4 t5 : List Tm) (ta : Tm) : Prop where
  kx : KeyOk x
  ky : KeyOk y
  ku : KeyOk u
  kv : KeyOk v
  kk : KeyOk k
  uz : u ≠ zK
  vz : v ≠ zK
  p1 : nm [] (atomT a) = x ∧ putL [] (atomT a) = t1
  p2 : nm t1 (atomT b) = y ∧ putL t1 (atomT b) = t2
  p3 : nm t2 (pubT x) = u ∧ putL t2 (pubT x) = t3
  p4 : nm t3 (pubT y) = v ∧ putL t3 (pubT y) = t4
  a1 : agreeT t4 x v = ta
  p5 : nm t4 ta = k ∧ putL t4 ta = t5
  a2 : agreeT t5 y u = ta
  p6 : nm t5 ta = k ∧ putL t5 ta = t5
  w4 : ∀ t ∈ t4, TmW t
  w5 : ∀ t ∈ t5, TmW t
  l : t1.length ≤ 100 ∧ t2.length ≤ 100 ∧ t3.length ≤ 100 ∧ t4.length ≤ 100 ∧ t5.length ≤ 100
  f1 : ∀ bs, Follows t5 [x, v] bs → hasM bs k = true
  f2 : ∀ bs, Follows t5 [y, u] bs → hasM bs k = true
  f3 : ∀ bs, Follows t5 [u, v] bs → hasM bs k = false
  f4 : ∀ bs, Follows t5 [x] bs → hasM bs k = !decide (a ≠ b)
theorem str_beq (s t : ByteArray) : (s.toList == t.toList) = decide (s = t) := by
  by_cases h : s = t
  · subst h; simp
  · rw [decide_eq_false h]
    have : s.toList ≠ t.toList := fun e => h (by
      rw [ByteArray.toList_eq, ByteArray.toList_eq] at e
      exact ByteArray.ext (Array.toList_inj.1 e))
    simpa using this
set_option maxRecDepth 100000 in
set_option maxHeartbeats 8000000 in
theorem meets5 (a b : ByteArray) (w : World) (ha : a.size ≤ 300) (hb : b.size ≤ 300) {x y u v k : List Int} {t1 t2 t3 t4 t5 : List Tm} {ta : Tm} (S : MeetS a b x y u v k t1 t2 t3 t4 t5 ta) :
    Calls Try.prog 5 #[.string a, .string b] w (TrueR w) := by
  have HS := hid S
  have l1 := S.l.1
  have l2 := S.l.2.1
  have l3 := S.l.2.2.1
  have l4 := S.l.2.2.2.1
  have l5 := S.l.2.2.2.2
  clear S
  go_enter Try.func5, Try.ntmps5
  go_upto_region 7 with (first
    | (go_at_call 10; refine (alive10 _).mono ?_; rintro e w1 ⟨rfl, M1⟩)
    | (go_at_call 11; refine (New11 _).mono ?_; rintro e w2 ⟨g, mb, rfl, T, M2⟩; have H := TS.new (M := M1) T M2; clear T M2 M1)
    | (go_at_call 12; refine (DrawN H HS.out.p1 (by omega) (by simp)).mono ?_; clear H; rintro e w3 ⟨rfl, H⟩)
    | (go_at_call 12; refine (DrawN H HS.out.p2 (by omega) (by omega)).mono ?_; clear H; rintro e w4 ⟨rfl, H⟩)
    | (refine wpH_al 6 H (tabR_ok _ _) z26 rfl rfl rfl ?_; clear H; intro b6 w5 H; (conv => arg 5; simp only [Act.put, List.setIfInBounds_toArray, List.set_cons_succ, List.set_cons_zero]))
    | (refine wpH_al 7 H (tabR_ok _ _) z26 rfl rfl rfl ?_; clear H; intro b7 w6 H; (conv => arg 5; simp only [Act.put, List.setIfInBounds_toArray, List.set_cons_succ, List.set_cons_zero]))
    | (refine wpH_st (ys := x) H (tabR_ok _ _) s26 rfl rfl rfl rfl (Swap.tail Swap.head) (by simp) HS.out.kx.1 ?_; clear H; intro w7 H; (conv => arg 5; simp only [Act.put, List.setIfInBounds_toArray, List.set_cons_succ, List.set_cons_zero]))
    | (refine wpH_st (ys := y) H (tabR_ok _ _) s26 rfl rfl rfl rfl Swap.head (by simp) HS.out.ky.1 ?_; clear H; intro w8 H; (conv => arg 5; simp only [Act.put, List.setIfInBounds_toArray, List.set_cons_succ, List.set_cons_zero])))
  go_cut [8, 9] from 32 (fun s8 s9 wx => ∃ b8 b9, s8 = .pointer (some ⟨b8, 0, none⟩) ∧ s9 = .pointer (some ⟨b9, 0, none⟩) ∧ TS (tabR g t4) w wx [.blk b9 (rowO .u8 26 v), .blk b8 (rowO .u8 26 u), .blk b7 (rowO .u8 26 y), .blk b6 (rowO .u8 26 x)])
  case first =>
    refine wp_region_planTS (.free 0 (.free 1 (.free 3 (.free 4 (.three 2 (.three 5 (.two 6 (.one 7 (.one 8 (.one 9 (.done)))) 7 (.one 6 (.one 8 (.one 9 (.done))))) 6 (.two 5 (.one 7 (.one 8 (.one 9 (.done)))) 7 (.one 5 (.one 8 (.one 9 (.done))))) 7 (.two 5 (.one 6 (.one 8 (.one 9 (.done)))) 6 (.one 5 (.one 8 (.one 9 (.done)))))) 6 (.two 2 (.two 5 (.one 7 (.one 8 (.one 9 (.done)))) 7 (.one 5 (.one 8 (.one 9 (.done))))) 7 (.one 2 (.one 5 (.one 8 (.one 9 (.done)))))) 7 (.two 2 (.two 5 (.one 6 (.one 8 (.one 9 (.done)))) 6 (.one 5 (.one 8 (.one 9 (.done))))) 6 (.one 2 (.one 5 (.one 8 (.one 9 (.done))))))))))) (by kernel_rfl) (by kernel_rfl) (fun _ _ _ _ _ h => h) H (tabR_ok _ _) ?_
    clear H
    intro w9 H
    have M9 := H.mem
    (refine wpT_free rfl rfl (.inl ⟨rfl, fun w _ => by go_simp; rfl⟩) (by assumption) ?_; (conv => arg 6; simp only [Act.put, List.setIfInBounds_toArray, List.set_cons_succ, List.set_cons_zero]))
    refine wpT_free rfl rfl (.inl ⟨rfl, fun w hw => run_ldrowN Try.underlying26 s26 rfl rfl rfl hw (by (repeat (first | exact List.mem_cons_self | refine List.mem_cons_of_mem _ ?_))) HS.out.kx.1⟩) (by assumption) ?_; (conv => arg 6; simp only [Act.put, List.setIfInBounds_toArray, List.set_cons_succ, List.set_cons_zero])
    (refine wpT_free rfl rfl (.inl ⟨rfl, fun w _ => by go_simp; rfl⟩) (by assumption) ?_; (conv => arg 6; simp only [Act.put, List.setIfInBounds_toArray, List.set_cons_succ, List.set_cons_zero]))
    refine wpT_free rfl rfl (.inl ⟨rfl, fun w hw => run_ldrowN Try.underlying26 s26 rfl rfl rfl hw (by (repeat (first | exact List.mem_cons_self | refine List.mem_cons_of_mem _ ?_))) HS.out.ky.1⟩) (by assumption) ?_; (conv => arg 6; simp only [Act.put, List.setIfInBounds_toArray, List.set_cons_succ, List.set_cons_zero])
    clear M9
    repeat' (first
      | (refine wpT_three rfl rfl rfl ?_ ?_ ?_ <;> (go_wp2_with (first | (go_at_call 27; refine (PubN H HS.out.p3 HS.out.kx (by omega)).mono ?_; clear H; rintro e wn ⟨rfl, H⟩) | (go_at_call 27; refine (PubN H HS.out.p4 HS.out.ky (by omega)).mono ?_; clear H; rintro e wn ⟨rfl, H⟩) | (refine wpH_al 8 H (tabR_ok _ _) z26 rfl rfl rfl ?_; clear H; intro b8 wn H; (conv => arg 5; simp only [Act.put, List.setIfInBounds_toArray, List.set_cons_succ, List.set_cons_zero])) | (refine wpH_al 9 H (tabR_ok _ _) z26 rfl rfl rfl ?_; clear H; intro b9 wn H; (conv => arg 5; simp only [Act.put, List.setIfInBounds_toArray, List.set_cons_succ, List.set_cons_zero])) | (refine wpH_st0 (ys := u) rfl H (tabR_ok _ _) s26 rfl rfl rfl rfl (by (repeat (first | exact Swap.head | apply Swap.tail))) (by simp) HS.out.ku.1 ?_; clear H; intro wn H) | (refine wpH_st0 (ys := v) rfl H (tabR_ok _ _) s26 rfl rfl rfl rfl (by (repeat (first | exact Swap.head | apply Swap.tail))) (by simp) HS.out.kv.1 ?_; clear H; intro wn H)); refine PlanTQ.mk (H.mem.sub (by (repeat (first | exact List.Sublist.refl _ | apply List.Sublist.cons_cons | apply List.Sublist.cons)))) ?_))
      | (refine wpT_two rfl rfl ?_ ?_ <;> (go_wp2_with (first | (go_at_call 27; refine (PubN H HS.out.p3 HS.out.kx (by omega)).mono ?_; clear H; rintro e wn ⟨rfl, H⟩) | (go_at_call 27; refine (PubN H HS.out.p4 HS.out.ky (by omega)).mono ?_; clear H; rintro e wn ⟨rfl, H⟩) | (refine wpH_al 8 H (tabR_ok _ _) z26 rfl rfl rfl ?_; clear H; intro b8 wn H; (conv => arg 5; simp only [Act.put, List.setIfInBounds_toArray, List.set_cons_succ, List.set_cons_zero])) | (refine wpH_al 9 H (tabR_ok _ _) z26 rfl rfl rfl ?_; clear H; intro b9 wn H; (conv => arg 5; simp only [Act.put, List.setIfInBounds_toArray, List.set_cons_succ, List.set_cons_zero])) | (refine wpH_st0 (ys := u) rfl H (tabR_ok _ _) s26 rfl rfl rfl rfl (by (repeat (first | exact Swap.head | apply Swap.tail))) (by simp) HS.out.ku.1 ?_; clear H; intro wn H) | (refine wpH_st0 (ys := v) rfl H (tabR_ok _ _) s26 rfl rfl rfl rfl (by (repeat (first | exact Swap.head | apply Swap.tail))) (by simp) HS.out.kv.1 ?_; clear H; intro wn H)); refine PlanTQ.mk (H.mem.sub (by (repeat (first | exact List.Sublist.refl _ | apply List.Sublist.cons_cons | apply List.Sublist.cons)))) ?_))
      | (refine wpT_op rfl ?_; (go_wp2_with (first | (go_at_call 27; refine (PubN H HS.out.p3 HS.out.kx (by omega)).mono ?_; clear H; rintro e wn ⟨rfl, H⟩) | (go_at_call 27; refine (PubN H HS.out.p4 HS.out.ky (by omega)).mono ?_; clear H; rintro e wn ⟨rfl, H⟩) | (refine wpH_al 8 H (tabR_ok _ _) z26 rfl rfl rfl ?_; clear H; intro b8 wn H; (conv => arg 5; simp only [Act.put, List.setIfInBounds_toArray, List.set_cons_succ, List.set_cons_zero])) | (refine wpH_al 9 H (tabR_ok _ _) z26 rfl rfl rfl ?_; clear H; intro b9 wn H; (conv => arg 5; simp only [Act.put, List.setIfInBounds_toArray, List.set_cons_succ, List.set_cons_zero])) | (refine wpH_st0 (ys := u) rfl H (tabR_ok _ _) s26 rfl rfl rfl rfl (by (repeat (first | exact Swap.head | apply Swap.tail))) (by simp) HS.out.ku.1 ?_; clear H; intro wn H) | (refine wpH_st0 (ys := v) rfl H (tabR_ok _ _) s26 rfl rfl rfl rfl (by (repeat (first | exact Swap.head | apply Swap.tail))) (by simp) HS.out.kv.1 ?_; clear H; intro wn H)); refine PlanTQ.mk (H.mem.sub (by (repeat (first | exact List.Sublist.refl _ | apply List.Sublist.cons_cons | apply List.Sublist.cons)))) ?_)))
    all_goals
      refine wpT_done ?_
      go_wp2_with fail
      go_meet
      exact ⟨b8, b9, rfl, rfl, by first | exact H | exact H.swap⟩
  case rest =>
    obtain ⟨b8, b9, rfl, rfl, H⟩ := hcut
    go_upto_region 12 with (first
      | (apply wpList_want; (· rfl))
      | (refine wpList_ldrowN (xs := k) Try.underlying26 s26 rfl rfl rfl rfl H.mem (by (repeat (first | exact List.mem_cons_self | refine List.mem_cons_of_mem _ ?_))) HS.out.kk.1 ?_; (conv => arg 5; simp only [Act.put, List.setIfInBounds_toArray, List.set_cons_succ, List.set_cons_zero]))
      | (refine wpList_ldrowN (xs := x) Try.underlying26 s26 rfl rfl rfl rfl H.mem (by (repeat (first | exact List.mem_cons_self | refine List.mem_cons_of_mem _ ?_))) HS.out.kx.1 ?_; (conv => arg 5; simp only [Act.put, List.setIfInBounds_toArray, List.set_cons_succ, List.set_cons_zero]))
      | (refine wpList_ldrowN (xs := y) Try.underlying26 s26 rfl rfl rfl rfl H.mem (by (repeat (first | exact List.mem_cons_self | refine List.mem_cons_of_mem _ ?_))) HS.out.ky.1 ?_; (conv => arg 5; simp only [Act.put, List.setIfInBounds_toArray, List.set_cons_succ, List.set_cons_zero]))
      | (refine wpList_ldrowN (xs := u) Try.underlying26 s26 rfl rfl rfl rfl H.mem (by (repeat (first | exact List.mem_cons_self | refine List.mem_cons_of_mem _ ?_))) HS.out.ku.1 ?_; (conv => arg 5; simp only [Act.put, List.setIfInBounds_toArray, List.set_cons_succ, List.set_cons_zero]))
      | (refine wpList_ldrowN (xs := v) Try.underlying26 s26 rfl rfl rfl rfl H.mem (by (repeat (first | exact List.mem_cons_self | refine List.mem_cons_of_mem _ ?_))) HS.out.kv.1 ?_; (conv => arg 5; simp only [Act.put, List.setIfInBounds_toArray, List.set_cons_succ, List.set_cons_zero]))
      | (go_at_call 28; refine (AgreeN H HS.out.a1 HS.out.p5 HS.out.w4 HS.out.kx HS.out.kv (by omega) HS.out.vz).mono ?_; clear H; rintro e wn ⟨rfl, H⟩)
      | (go_at_call 28; refine (AgreeN H HS.out.a2 HS.out.p6 HS.out.w5 HS.out.ky HS.out.ku (by omega) HS.out.uz).mono ?_; clear H; rintro e wn ⟨rfl, H⟩)
      | (refine wpH_al 10 H (tabR_ok _ _) z26 rfl rfl rfl ?_; clear H; intro b10 wn H; (conv => arg 5; simp only [Act.put, List.setIfInBounds_toArray, List.set_cons_succ, List.set_cons_zero]))
      | (refine wpH_al 12 H (tabR_ok _ _) z26 rfl rfl rfl ?_; clear H; intro b12 wn H; (conv => arg 5; simp only [Act.put, List.setIfInBounds_toArray, List.set_cons_succ, List.set_cons_zero]))
      | (refine wpH_st0 (ys := k) rfl H (tabR_ok _ _) s26 rfl rfl rfl rfl Swap.head (by simp) HS.out.kk.1 ?_; clear H; intro wn H)
      | (refine wpList_neq26 61 rfl rfl rfl rfl rfl HS.out.kk.1 HS.out.kk.1 ?_; rw [decide_eq_true (rfl : k = k)]; (conv => arg 5; simp only [Act.put, List.setIfInBounds_toArray, List.set_cons_succ, List.set_cons_zero])))
    refine wp_region_planTS (.one 0 (.free 1 (.free 2 (.free 3 (.free 4 (.free 7 (.one 5 (.one 6 (.one 8 (.free 9 (.free 10 (.free 11 (.free 12 (.free 13 (.free 16 (.one 14 (.one 15 (.one 17 (.free 18 (.free 19 (.free 20 (.free 21 (.free 22 (.free 25 (.one 23 (.one 24 (.one 26 (.free 27 (.free 28 (.free 29 (.free 30 (.free 31 (.free 34 (.free 37 (.free 38 (.free 39 (.one 32 (.one 33 (.one 35 (.free 36 (.free 40 (.free 41 (.free 42 (.done)))))))))))))))))))))))))))))))))))))))))))) (by kernel_rfl) (by kernel_rfl) (fun _ _ _ _ _ h => h) H (tabR_ok _ _) ?_
    clear H
    intro w9 H
    refine wpT_op rfl ?_
    go_wp2_with (go_at_call 10; refine (alive10 _).mono ?_; rintro e wn ⟨rfl, M1⟩; replace H := H.call0 (tabR_ok _ _) M1; clear M1)
    refine PlanTQ.mk H.mem ?_
    iterate 2 (refine wpT_free rfl rfl (.inl ⟨rfl, fun w _ => by go_simp; rfl⟩) (by exact H.mem.sub (by (repeat (first | exact List.Sublist.refl _ | apply List.Sublist.cons_cons | apply List.Sublist.cons)))) ?_; (conv => arg 6; simp only [Act.put, List.setIfInBounds_toArray, List.set_cons_succ, List.set_cons_zero]))
    refine wpT_free rfl rfl (.inl ⟨rfl, fun w hw => run_ldrowN Try.underlying26 s26 rfl rfl rfl hw (by (repeat (first | exact List.mem_cons_self | refine List.mem_cons_of_mem _ ?_))) HS.out.kx.1⟩) (by exact H.mem.sub (by (repeat (first | exact List.Sublist.refl _ | apply List.Sublist.cons_cons | apply List.Sublist.cons)))) ?_; (conv => arg 6; simp only [Act.put, List.setIfInBounds_toArray, List.set_cons_succ, List.set_cons_zero])
    refine wpT_free rfl rfl (.inl ⟨rfl, fun w hw => run_ldrowN Try.underlying26 s26 rfl rfl rfl hw (by (repeat (first | exact List.mem_cons_self | refine List.mem_cons_of_mem _ ?_))) HS.out.kv.1⟩) (by exact H.mem.sub (by (repeat (first | exact List.Sublist.refl _ | apply List.Sublist.cons_cons | apply List.Sublist.cons)))) ?_; (conv => arg 6; simp only [Act.put, List.setIfInBounds_toArray, List.set_cons_succ, List.set_cons_zero])
    refine wpT_free rfl rfl (.inl ⟨rfl, fun w hw => run_ldrowN Try.underlying26 s26 rfl rfl rfl hw (by (repeat (first | exact List.mem_cons_self | refine List.mem_cons_of_mem _ ?_))) HS.out.kk.1⟩) (by exact H.mem.sub (by (repeat (first | exact List.Sublist.refl _ | apply List.Sublist.cons_cons | apply List.Sublist.cons)))) ?_; (conv => arg 6; simp only [Act.put, List.setIfInBounds_toArray, List.set_cons_succ, List.set_cons_zero])
    refine wpT_op rfl ?_
    refine wpList_want rfl ?_
    refine wpH_bsK2 68 H (tabR_ok _ _) rfl rfl rfl rfl rfl HS.out.kx HS.out.kv ?_; clear H; intro b68 wn H; (conv => arg 5; simp only [Act.put, List.setIfInBounds_toArray, List.set_cons_succ, List.set_cons_zero])
    go_wp2_with fail
    refine PlanTQ.mk (H.mem.sub (by (repeat (first | exact List.Sublist.refl _ | apply List.Sublist.cons_cons | apply List.Sublist.cons)))) (wpT_op rfl ?_)
    go_wp2_with (first | (apply wpList_want; (· rfl)) | (go_at_call 16; refine (Follow16T H HS.out.w5 (seen := [x, v]) (by simpa using ⟨HS.out.kx, HS.out.kv⟩) (by simp) (H.mem.blkT List.mem_cons_self)).mono ?_; rintro e wn ⟨f, h, kb, mf, Af, bs, rfl, FF, M16⟩; replace H := H.call (tabR_ok _ _) M16; clear M16))
    refine PlanTQ.mk (H.mem.sub (by (repeat (first | exact List.Sublist.refl _ | apply List.Sublist.cons_cons | apply List.Sublist.cons)))) (wpT_op rfl ?_)
    go_wp2_with (first | (apply wpList_want; (· rfl)) | (go_at_call 42; refine (has42 f h kb _ Af bs k _ (H.mem.fp (fun x hx => List.mem_append_left _ hx)) HS.out.kk (by rw [FF.len]; omega)).mono ?_; rintro e wn ⟨rfl, M17⟩; replace H := H.call0 (tabR_ok _ _) M17; rw [HS.out.f1 _ FF]; clear M17 FF))
    refine PlanTQ.mk (H.mem.sub (by (repeat (first | exact List.Sublist.refl _ | apply List.Sublist.cons_cons | apply List.Sublist.cons)))) ?_
    iterate 3 (refine wpT_free rfl rfl (.inl ⟨rfl, fun w _ => by go_simp; rfl⟩) (by exact H.mem.sub (by (repeat (first | exact List.Sublist.refl _ | apply List.Sublist.cons_cons | apply List.Sublist.cons)))) ?_; (conv => arg 6; simp only [Act.put, List.setIfInBounds_toArray, List.set_cons_succ, List.set_cons_zero]))
    refine wpT_free rfl rfl (.inl ⟨rfl, fun w hw => run_ldrowN Try.underlying26 s26 rfl rfl rfl hw (by (repeat (first | exact List.mem_cons_self | refine List.mem_cons_of_mem _ ?_))) HS.out.ky.1⟩) (by exact H.mem.sub (by (repeat (first | exact List.Sublist.refl _ | apply List.Sublist.cons_cons | apply List.Sublist.cons)))) ?_; (conv => arg 6; simp only [Act.put, List.setIfInBounds_toArray, List.set_cons_succ, List.set_cons_zero])
    refine wpT_free rfl rfl (.inl ⟨rfl, fun w hw => run_ldrowN Try.underlying26 s26 rfl rfl rfl hw (by (repeat (first | exact List.mem_cons_self | refine List.mem_cons_of_mem _ ?_))) HS.out.ku.1⟩) (by exact H.mem.sub (by (repeat (first | exact List.Sublist.refl _ | apply List.Sublist.cons_cons | apply List.Sublist.cons)))) ?_; (conv => arg 6; simp only [Act.put, List.setIfInBounds_toArray, List.set_cons_succ, List.set_cons_zero])
    refine wpT_free rfl rfl (.inl ⟨rfl, fun w hw => run_ldrowN Try.underlying26 s26 rfl rfl rfl hw (by (repeat (first | exact List.mem_cons_self | refine List.mem_cons_of_mem _ ?_))) HS.out.kk.1⟩) (by exact H.mem.sub (by (repeat (first | exact List.Sublist.refl _ | apply List.Sublist.cons_cons | apply List.Sublist.cons)))) ?_; (conv => arg 6; simp only [Act.put, List.setIfInBounds_toArray, List.set_cons_succ, List.set_cons_zero])
    refine wpT_op rfl ?_
    refine wpList_want rfl ?_
    refine wpH_bsK2 77 H (tabR_ok _ _) rfl rfl rfl rfl rfl HS.out.ky HS.out.ku ?_; clear H; intro b77 wn H; (conv => arg 5; simp only [Act.put, List.setIfInBounds_toArray, List.set_cons_succ, List.set_cons_zero])
    go_wp2_with fail
    refine PlanTQ.mk (H.mem.sub (by (repeat (first | exact List.Sublist.refl _ | apply List.Sublist.cons_cons | apply List.Sublist.cons)))) (wpT_op rfl ?_)
    go_wp2_with (first | (apply wpList_want; (· rfl)) | (go_at_call 16; refine (Follow16T H HS.out.w5 (seen := [y, u]) (by simpa using ⟨HS.out.ky, HS.out.ku⟩) (by simp) (H.mem.blkT List.mem_cons_self)).mono ?_; rintro e wn ⟨f, h, kb, mf, Af, bs, rfl, FF, M16⟩; replace H := H.call (tabR_ok _ _) M16; clear M16))
    refine PlanTQ.mk (H.mem.sub (by (repeat (first | exact List.Sublist.refl _ | apply List.Sublist.cons_cons | apply List.Sublist.cons)))) (wpT_op rfl ?_)
    go_wp2_with (first | (apply wpList_want; (· rfl)) | (go_at_call 42; refine (has42 f h kb _ Af bs k _ (H.mem.fp (fun x hx => List.mem_append_left _ hx)) HS.out.kk (by rw [FF.len]; omega)).mono ?_; rintro e wn ⟨rfl, M17⟩; replace H := H.call0 (tabR_ok _ _) M17; rw [HS.out.f2 _ FF]; clear M17 FF))
    refine PlanTQ.mk (H.mem.sub (by (repeat (first | exact List.Sublist.refl _ | apply List.Sublist.cons_cons | apply List.Sublist.cons)))) ?_
    iterate 3 (refine wpT_free rfl rfl (.inl ⟨rfl, fun w _ => by go_simp; rfl⟩) (by exact H.mem.sub (by (repeat (first | exact List.Sublist.refl _ | apply List.Sublist.cons_cons | apply List.Sublist.cons)))) ?_; (conv => arg 6; simp only [Act.put, List.setIfInBounds_toArray, List.set_cons_succ, List.set_cons_zero]))
    refine wpT_free rfl rfl (.inl ⟨rfl, fun w hw => run_ldrowN Try.underlying26 s26 rfl rfl rfl hw (by (repeat (first | exact List.mem_cons_self | refine List.mem_cons_of_mem _ ?_))) HS.out.ku.1⟩) (by exact H.mem.sub (by (repeat (first | exact List.Sublist.refl _ | apply List.Sublist.cons_cons | apply List.Sublist.cons)))) ?_; (conv => arg 6; simp only [Act.put, List.setIfInBounds_toArray, List.set_cons_succ, List.set_cons_zero])
    refine wpT_free rfl rfl (.inl ⟨rfl, fun w hw => run_ldrowN Try.underlying26 s26 rfl rfl rfl hw (by (repeat (first | exact List.mem_cons_self | refine List.mem_cons_of_mem _ ?_))) HS.out.kv.1⟩) (by exact H.mem.sub (by (repeat (first | exact List.Sublist.refl _ | apply List.Sublist.cons_cons | apply List.Sublist.cons)))) ?_; (conv => arg 6; simp only [Act.put, List.setIfInBounds_toArray, List.set_cons_succ, List.set_cons_zero])
    refine wpT_free rfl rfl (.inl ⟨rfl, fun w hw => run_ldrowN Try.underlying26 s26 rfl rfl rfl hw (by (repeat (first | exact List.mem_cons_self | refine List.mem_cons_of_mem _ ?_))) HS.out.kk.1⟩) (by exact H.mem.sub (by (repeat (first | exact List.Sublist.refl _ | apply List.Sublist.cons_cons | apply List.Sublist.cons)))) ?_; (conv => arg 6; simp only [Act.put, List.setIfInBounds_toArray, List.set_cons_succ, List.set_cons_zero])
    refine wpT_op rfl ?_
    refine wpList_want rfl ?_
    refine wpH_bsK2 86 H (tabR_ok _ _) rfl rfl rfl rfl rfl HS.out.ku HS.out.kv ?_; clear H; intro b86 wn H; (conv => arg 5; simp only [Act.put, List.setIfInBounds_toArray, List.set_cons_succ, List.set_cons_zero])
    go_wp2_with fail
    refine PlanTQ.mk (H.mem.sub (by (repeat (first | exact List.Sublist.refl _ | apply List.Sublist.cons_cons | apply List.Sublist.cons)))) (wpT_op rfl ?_)
    go_wp2_with (first | (apply wpList_want; (· rfl)) | (go_at_call 16; refine (Follow16T H HS.out.w5 (seen := [u, v]) (by simpa using ⟨HS.out.ku, HS.out.kv⟩) (by simp) (H.mem.blkT List.mem_cons_self)).mono ?_; rintro e wn ⟨f, h, kb, mf, Af, bs, rfl, FF, M16⟩; replace H := H.call (tabR_ok _ _) M16; clear M16))
    refine PlanTQ.mk (H.mem.sub (by (repeat (first | exact List.Sublist.refl _ | apply List.Sublist.cons_cons | apply List.Sublist.cons)))) (wpT_op rfl ?_)
    go_wp2_with (first | (apply wpList_want; (· rfl)) | (go_at_call 42; refine (has42 f h kb _ Af bs k _ (H.mem.fp (fun x hx => List.mem_append_left _ hx)) HS.out.kk (by rw [FF.len]; omega)).mono ?_; rintro e wn ⟨rfl, M17⟩; replace H := H.call0 (tabR_ok _ _) M17; rw [HS.out.f3 _ FF]; clear M17 FF))
    refine PlanTQ.mk (H.mem.sub (by (repeat (first | exact List.Sublist.refl _ | apply List.Sublist.cons_cons | apply List.Sublist.cons)))) ?_
    iterate 4 (refine wpT_free rfl rfl (.inl ⟨rfl, fun w _ => by go_simp; rfl⟩) (by exact H.mem.sub (by (repeat (first | exact List.Sublist.refl _ | apply List.Sublist.cons_cons | apply List.Sublist.cons)))) ?_; (conv => arg 6; simp only [Act.put, List.setIfInBounds_toArray, List.set_cons_succ, List.set_cons_zero]))
    refine wpT_free rfl rfl (.inl ⟨rfl, fun w hw => run_ldrowN Try.underlying26 s26 rfl rfl rfl hw (by (repeat (first | exact List.mem_cons_self | refine List.mem_cons_of_mem _ ?_))) HS.out.kx.1⟩) (by exact H.mem.sub (by (repeat (first | exact List.Sublist.refl _ | apply List.Sublist.cons_cons | apply List.Sublist.cons)))) ?_; (conv => arg 6; simp only [Act.put, List.setIfInBounds_toArray, List.set_cons_succ, List.set_cons_zero])
    refine wpT_free rfl rfl (.inl ⟨rfl, fun w hw => run_ldrowN Try.underlying26 s26 rfl rfl rfl hw (by (repeat (first | exact List.mem_cons_self | refine List.mem_cons_of_mem _ ?_))) HS.out.kk.1⟩) (by exact H.mem.sub (by (repeat (first | exact List.Sublist.refl _ | apply List.Sublist.cons_cons | apply List.Sublist.cons)))) ?_; (conv => arg 6; simp only [Act.put, List.setIfInBounds_toArray, List.set_cons_succ, List.set_cons_zero])
    iterate 2 (refine wpT_free rfl rfl (.inl ⟨rfl, fun w _ => by go_simp; rfl⟩) (by exact H.mem.sub (by (repeat (first | exact List.Sublist.refl _ | apply List.Sublist.cons_cons | apply List.Sublist.cons)))) ?_; (conv => arg 6; simp only [Act.put, List.setIfInBounds_toArray, List.set_cons_succ, List.set_cons_zero]))
    refine wpT_free (v := .bool (decide (a ≠ b))) rfl rfl (.inl ⟨rfl, fun w _ => by go_simp; exact str_beq a b⟩) (by exact H.mem.sub (by (repeat (first | exact List.Sublist.refl _ | apply List.Sublist.cons_cons | apply List.Sublist.cons)))) ?_; (conv => arg 6; simp only [Act.put, List.setIfInBounds_toArray, List.set_cons_succ, List.set_cons_zero])
    refine wpT_op rfl ?_
    refine wpList_want rfl ?_
    refine wpH_bsK1 95 H (tabR_ok _ _) rfl rfl rfl rfl HS.out.kx ?_; clear H; intro b95 wn H; (conv => arg 5; simp only [Act.put, List.setIfInBounds_toArray, List.set_cons_succ, List.set_cons_zero])
    go_wp2_with fail
    refine PlanTQ.mk (H.mem.sub (by (repeat (first | exact List.Sublist.refl _ | apply List.Sublist.cons_cons | apply List.Sublist.cons)))) (wpT_op rfl ?_)
    go_wp2_with (first | (apply wpList_want; (· rfl)) | (go_at_call 16; refine (Follow16T H HS.out.w5 (seen := [x]) (by simpa using HS.out.kx) (by simp) (H.mem.blkT List.mem_cons_self)).mono ?_; rintro e wn ⟨f, h, kb, mf, Af, bs, rfl, FF, M16⟩; replace H := H.call (tabR_ok _ _) M16; clear M16))
    refine PlanTQ.mk (H.mem.sub (by (repeat (first | exact List.Sublist.refl _ | apply List.Sublist.cons_cons | apply List.Sublist.cons)))) (wpT_op rfl ?_)
    go_wp2_with (first | (apply wpList_want; (· rfl)) | (go_at_call 42; refine (has42 f h kb _ Af bs k _ (H.mem.fp (fun x hx => List.mem_append_left _ hx)) HS.out.kk (by rw [FF.len]; omega)).mono ?_; rintro e wn ⟨rfl, M17⟩; replace H := H.call0 (tabR_ok _ _) M17; rw [HS.out.f4 _ FF]; clear M17 FF))
    refine PlanTQ.mk (H.mem.sub (by (repeat (first | exact List.Sublist.refl _ | apply List.Sublist.cons_cons | apply List.Sublist.cons)))) ?_
    (refine wpT_free rfl rfl (.inl ⟨rfl, fun w _ => by go_simp; rfl⟩) (by exact H.mem.sub (by (repeat (first | exact List.Sublist.refl _ | apply List.Sublist.cons_cons | apply List.Sublist.cons)))) ?_; (conv => arg 6; simp only [Act.put, List.setIfInBounds_toArray, List.set_cons_succ, List.set_cons_zero]))
    refine wpT_free (v := .bool true) rfl rfl (.inl ⟨rfl, fun w _ => by (go_simp <;> (cases decide (a = b) <;> rfl))⟩) (by exact H.mem.sub (by (repeat (first | exact List.Sublist.refl _ | apply List.Sublist.cons_cons | apply List.Sublist.cons)))) ?_; (conv => arg 6; simp only [Act.put, List.setIfInBounds_toArray, List.set_cons_succ, List.set_cons_zero])
    iterate 2 (refine wpT_free rfl rfl (.inl ⟨rfl, fun w _ => by go_simp; rfl⟩) (by exact H.mem.sub (by (repeat (first | exact List.Sublist.refl _ | apply List.Sublist.cons_cons | apply List.Sublist.cons)))) ?_; (conv => arg 6; simp only [Act.put, List.setIfInBounds_toArray, List.set_cons_succ, List.set_cons_zero]))
    refine wpT_done ?_
    go_wp2_with fail
    go_ret
    exact ⟨rfl, H.mem.sub (List.nil_sublist _)⟩
end Go.Proofs.Ytcapfnbmmdbcoaa
