/- Walks of the term layer's laws: TermHides. -/
import Derived.Test.YtcapfnbmmdbcoaaCB2
set_option linter.unusedVariables false
set_option linter.unusedSimpArgs false
namespace Go.Proofs.Ytcapfnbmmdbcoaa
open Go.RowKit
def hashT (t : ByteArray) (i : Nat) : Tm := ⟨2, t, [kn i]⟩
def sealT (t : ByteArray) (i : Nat) : Tm := ⟨6, t, [kn i, kn 2, kn 0]⟩
def hAll (a b t : ByteArray) : List Tm := [atomT a, atomT b, hashT t 0, sealT t 1, hashT t 1, sealT t 4]
section
variable (a b t : ByteArray) (h : a ≠ b)
theorem hd1 : nm [] (atomT a) = kn 0 ∧ putL [] (atomT a) = [atomT a] := nm_new (by simp)
include h in
theorem hd2 : nm [atomT a] (atomT b) = kn 1 ∧ putL [atomT a] (atomT b) = [atomT a, atomT b] := nm_new (by simp [atomT, Ne.symm h])
theorem hd3 : nm [atomT a, atomT b] (hashT t 0) = kn 2 ∧ putL [atomT a, atomT b] (hashT t 0) = [atomT a, atomT b, hashT t 0] := nm_new (by simp [atomT, hashT])
theorem hd4 : nm [atomT a, atomT b, hashT t 0] (sealT t 1) = kn 3 ∧ putL [atomT a, atomT b, hashT t 0] (sealT t 1) = [atomT a, atomT b, hashT t 0, sealT t 1] := nm_new (by simp [atomT, hashT, sealT])
theorem hd5 : nm [atomT a, atomT b, hashT t 0, sealT t 1] (hashT t 1) = kn 4 ∧ putL [atomT a, atomT b, hashT t 0, sealT t 1] (hashT t 1) = [atomT a, atomT b, hashT t 0, sealT t 1, hashT t 1] := nm_new (by simp [atomT, hashT, sealT, kn_ne 1 0])
theorem hd6 : nm [atomT a, atomT b, hashT t 0, sealT t 1, hashT t 1] (sealT t 4) = kn 5 ∧ putL [atomT a, atomT b, hashT t 0, sealT t 1, hashT t 1] (sealT t 4) = hAll a b t := nm_new (by simp [atomT, hashT, sealT, kn_ne 4 1])
theorem tmw_seal (t : ByteArray) (i : Nat) : TmW (sealT t i) := ⟨fun h => absurd h (by simp [sealT]), fun _ => by simp [sealT]⟩
theorem hdW : ∀ u ∈ hAll a b t, TmW u := by
  intro u hu
  simp only [hAll, List.mem_cons, List.not_mem_nil, or_false] at hu
  rcases hu with rfl | rfl | rfl | rfl | rfl | rfl
  · exact tmw_atom a
  · exact tmw_atom b
  · exact tmw_any (by simp [hashT]) (by simp [hashT]) (by simp [hashT])
  · exact tmw_seal t 1
  · exact tmw_any (by simp [hashT]) (by simp [hashT]) (by simp [hashT])
  · exact tmw_seal t 4
theorem hdO : openM (hAll a b t) (kn 0) (kn 2) (strOfNums (kn 3)) = none := by kernel_rfl
theorem hdF0 {bs : List Bool} (F : Follows (hAll a b t) [kn 2, kn 3, kn 5] bs) : hasM bs (kn 0) = false :=
  hasK F.len (by simp [hAll]) (by simp [hAll]) (F.not [false, false, true, true, false, true] rfl (by kernel_rfl) (by kernel_rfl) rfl)
theorem hdF1 {bs : List Bool} (F : Follows (hAll a b t) [kn 2, kn 3, kn 5] bs) : hasM bs (kn 1) = false :=
  hasK F.len (by simp [hAll]) (by simp [hAll]) (F.not [false, false, true, true, false, true] rfl (by kernel_rfl) (by kernel_rfl) rfl)
theorem hdF2 {bs : List Bool} (F : Follows (hAll a b t) [kn 2, kn 3, kn 5] bs) : hasM bs (kn 2) = true :=
  hasK F.len (by simp [hAll]) (by simp [hAll]) (F.yes [false, false, true, true, false, true] (by kernel_rfl) rfl)
theorem hdG {bs : List Bool} (F : Follows (hAll a b t) [kn 2, kn 3, kn 5, kn 1] bs) : hasM bs (kn 0) = true :=
  hasK F.len (by simp [hAll]) (by simp [hAll]) (F.yes [true, true, true, true, true, true] (by kernel_rfl) rfl)
end
theorem run_cvKey {P : Program} {o : Oper} {a : Act} {w w0 : World} {E : List Nat} {L : List Item} {src dst e : TypeId} (hs : P.underlying src = some (.slice e)) (he : P.underlying e = some (.int .u8)) (hd : P.underlying dst = some .string) {x : Operand} (ho : o.op = .convert src dst x)
    {g cap : Nat} (hx : a.eval x = .slice (some ⟨g, 0, none⟩) 32 cap) (M : Mem w0 E w L) {t : TypeId} {xs : List Int} (hin : .blk g (rowO .u8 t xs) ∈ L) (hl : xs.length = 32) :
    (execOp a.eval o).run P w = .ok (.value (.string (strOfNums xs))) w := by
  have := run_cvS hs he hd ho hx M hin (by omega)
  rw [List.drop_zero, List.take_of_length_le (by omega)] at this
  exact this
set_option maxRecDepth 100000 in
set_option maxHeartbeats 8000000 in
theorem hides3 (a b t : ByteArray) (w : World) (ha : a.size ≤ 300) (hb : b.size ≤ 300) (ht : t.size ≤ 300) (h : a ≠ b) :
    Calls Try.prog 3 #[.string a, .string b, .string t] w (TrueR w) := by
  have hne : (a.toList == b.toList) = false := by rw [str_beq]; exact decide_eq_false h
  have HD2 := hid (hd2 a b h)
  have HW := hid (hdW a b t)
  clear h
  go_enter Try.func3, Try.ntmps3
  go_upto_region 9 with (first
    | (apply wpList_want; (· rfl))
    | (go_at_call 10; refine (alive10 _).mono ?_; rintro e w1 ⟨rfl, M1⟩)
    | (go_at_call 11; refine (New11 _).mono ?_; rintro e w2 ⟨g, mb, rfl, T, M2⟩; have H := TS.new (M := M1) T M2; clear T M2 M1)
    | (go_at_call 12; refine (DrawN H (hd1 a) (by omega) (by simp)).mono ?_; clear H; rintro e w3 ⟨rfl, H⟩)
    | (go_at_call 12; refine (DrawN H HD2.out (by omega) (by simp)).mono ?_; clear H; rintro e w4 ⟨rfl, H⟩)
    | (go_at_call 13; refine (HashN H (hd3 a b t) (by omega) (by simpa using kn_ok 0) (by simp) (H.mem.blkT List.mem_cons_self) (fun h => by cases h) (by simp)).mono ?_; clear H; rintro e w4 ⟨rfl, H⟩)
    | (go_at_call 15; refine (SealN H (hd4 a b t) (by omega) (kn_ok 1) (kn_ok 2) (by simpa using kn_ok 0) (by simp) (H.mem.blkT List.mem_cons_self) (fun h => by cases h) (by simp)).mono ?_; clear H; rintro e w4 ⟨rfl, H⟩)
    | (go_at_call 14; refine (key14k _ (kn_ok 3)).mono ?_; rintro e w10 ⟨rfl, M10⟩; replace H := H.call0 (tabR_ok _ _) M10; clear M10)
    | (refine wpH_al 8 H (tabR_ok _ _) z26 rfl rfl rfl ?_; clear H; intro b8 wn H; (conv => arg 5; simp only [Act.put, List.setIfInBounds_toArray, List.set_cons_succ, List.set_cons_zero])) | (refine wpH_al 9 H (tabR_ok _ _) z26 rfl rfl rfl ?_; clear H; intro b9 wn H; (conv => arg 5; simp only [Act.put, List.setIfInBounds_toArray, List.set_cons_succ, List.set_cons_zero])) | (refine wpH_al 10 H (tabR_ok _ _) z26 rfl rfl rfl ?_; clear H; intro b10 wn H; (conv => arg 5; simp only [Act.put, List.setIfInBounds_toArray, List.set_cons_succ, List.set_cons_zero])) | (refine wpH_al 11 H (tabR_ok _ _) z26 rfl rfl rfl ?_; clear H; intro b11 wn H; (conv => arg 5; simp only [Act.put, List.setIfInBounds_toArray, List.set_cons_succ, List.set_cons_zero]))
    | (refine wpH_st0 (ys := kn 0) rfl H (tabR_ok _ _) s26 rfl rfl rfl rfl (by (repeat (first | exact Swap.head | apply Swap.tail))) (by simp) (kn_len 0) ?_; clear H; intro wn H) | (refine wpH_st0 (ys := kn 1) rfl H (tabR_ok _ _) s26 rfl rfl rfl rfl (by (repeat (first | exact Swap.head | apply Swap.tail))) (by simp) (kn_len 1) ?_; clear H; intro wn H) | (refine wpH_st0 (ys := kn 2) rfl H (tabR_ok _ _) s26 rfl rfl rfl rfl (by (repeat (first | exact Swap.head | apply Swap.tail))) (by simp) (kn_len 2) ?_; clear H; intro wn H) | (refine wpH_st0 (ys := kn 3) rfl H (tabR_ok _ _) s26 rfl rfl rfl rfl (by (repeat (first | exact Swap.head | apply Swap.tail))) (by simp) (kn_len 3) ?_; clear H; intro wn H)
    | (refine wpH_bsK1 51 H (tabR_ok _ _) rfl rfl rfl rfl (kn_ok 0) ?_; clear H; intro b51 wn H; (conv => arg 5; simp only [Act.put, List.setIfInBounds_toArray, List.set_cons_succ, List.set_cons_zero]))
    | (refine wpH_bsK1 59 H (tabR_ok _ _) rfl rfl rfl rfl (kn_ok 0) ?_; clear H; intro b59 wn H; (conv => arg 5; simp only [Act.put, List.setIfInBounds_toArray, List.set_cons_succ, List.set_cons_zero]))
    | (refine wpList_ldrowN Try.underlying26 s26 rfl rfl rfl rfl H.mem (by (repeat (first | exact List.mem_cons_self | refine List.mem_cons_of_mem _ ?_))) (by exact kn_len _) ?_; (conv => arg 5; simp only [Act.put, List.setIfInBounds_toArray, List.set_cons_succ, List.set_cons_zero])))
  replace H := H.sub (L' := [.blk b11 (rowO .u8 26 (kn 3)), .blk b10 (rowO .u8 26 (kn 2)), .blk b9 (rowO .u8 26 (kn 1)), .blk b8 (rowO .u8 26 (kn 0))]) (by (repeat (first | exact List.Sublist.refl _ | apply List.Sublist.cons_cons | apply List.Sublist.cons)))
  go_cut [13, 14] from 64 (fun s13 s14 wx => ∃ b13, s13 = .pointer (some ⟨b13, 0, none⟩) ∧ s14 = .bool true ∧ TS (tabR g (hAll a b t)) w wx [.blk b13 (rowO .u8 26 (kn 5)), .blk b11 (rowO .u8 26 (kn 3)), .blk b10 (rowO .u8 26 (kn 2)), .blk b9 (rowO .u8 26 (kn 1)), .blk b8 (rowO .u8 26 (kn 0))])
  case first =>
    refine wp_region_planTG (.free 0 (.free 1 (.free 2 (.free 3 (.free 6 (.free 7 (.free 8 (.three 4 (.three 5 (.two 9 (.two 10 (.two 11 (.free 12 (.free 13 (.free 14 (.one 15 (.one 16 (.free 17 (.done))))))) 15 (.one 11 (.free 12 (.free 13 (.free 14 (.one 16 (.free 17 (.done)))))))) 15 (.one 10 (.one 11 (.free 12 (.free 13 (.free 14 (.one 16 (.free 17 (.done))))))))) 15 (.one 9 (.one 10 (.one 11 (.free 12 (.free 13 (.free 14 (.one 16 (.free 17 (.done)))))))))) 9 (.two 5 (.two 10 (.two 11 (.free 12 (.free 13 (.free 14 (.one 15 (.one 16 (.free 17 (.done))))))) 15 (.one 11 (.free 12 (.free 13 (.free 14 (.one 16 (.free 17 (.done)))))))) 15 (.one 10 (.one 11 (.free 12 (.free 13 (.free 14 (.one 16 (.free 17 (.done))))))))) 15 (.one 5 (.one 10 (.one 11 (.free 12 (.free 13 (.free 14 (.one 16 (.free 17 (.done)))))))))) 15 (.two 5 (.one 9 (.one 10 (.one 11 (.free 12 (.free 13 (.free 14 (.one 16 (.free 17 (.done))))))))) 9 (.one 5 (.one 10 (.one 11 (.free 12 (.free 13 (.free 14 (.one 16 (.free 17 (.done))))))))))) 9 (.two 4 (.two 5 (.two 10 (.two 11 (.free 12 (.free 13 (.free 14 (.one 15 (.one 16 (.free 17 (.done))))))) 15 (.one 11 (.free 12 (.free 13 (.free 14 (.one 16 (.free 17 (.done)))))))) 15 (.one 10 (.one 11 (.free 12 (.free 13 (.free 14 (.one 16 (.free 17 (.done))))))))) 15 (.one 5 (.one 10 (.one 11 (.free 12 (.free 13 (.free 14 (.one 16 (.free 17 (.done)))))))))) 15 (.one 4 (.one 5 (.one 10 (.one 11 (.free 12 (.free 13 (.free 14 (.one 16 (.free 17 (.done))))))))))) 15 (.two 4 (.two 5 (.one 9 (.one 10 (.one 11 (.free 12 (.free 13 (.free 14 (.one 16 (.free 17 (.done))))))))) 9 (.one 5 (.one 10 (.one 11 (.free 12 (.free 13 (.free 14 (.one 16 (.free 17 (.done)))))))))) 9 (.one 4 (.one 5 (.one 10 (.one 11 (.free 12 (.free 13 (.free 14 (.one 16 (.free 17 (.done))))))))))))))))))) (by kernel_rfl) (by kernel_rfl) (fun _ _ _ _ _ h => h) H (tabR_ok _ _) ?_
    clear H
    intro ops Q HO HQ w9 H
    iterate 3 (refine wpT_free (by rw [HO.out]; rfl) rfl (.inl ⟨rfl, fun w _ => by go_simp; rfl⟩) (by exact H.mem.sub (by (repeat (first | exact List.Sublist.refl _ | apply List.Sublist.cons_cons | apply List.Sublist.cons)))) ?_; (conv => arg 6; simp only [Act.put, List.setIfInBounds_toArray, List.set_cons_succ, List.set_cons_zero]))
    (refine wpT_free (by rw [HO.out]; rfl) rfl (.inl ⟨rfl, fun w hw => run_ldrowN (xs := kn 1) Try.underlying26 s26 rfl rfl rfl hw (by (repeat (first | exact List.mem_cons_self | refine List.mem_cons_of_mem _ ?_))) (kn_len 1)⟩) (by exact H.mem.sub (by (repeat (first | exact List.Sublist.refl _ | apply List.Sublist.cons_cons | apply List.Sublist.cons)))) ?_; (conv => arg 6; simp only [Act.put, List.setIfInBounds_toArray, List.set_cons_succ, List.set_cons_zero]))
    (refine wpT_free (by rw [HO.out]; rfl) rfl (.inl ⟨rfl, fun w hw => run_ldrowN (xs := kn 2) Try.underlying26 s26 rfl rfl rfl hw (by (repeat (first | exact List.mem_cons_self | refine List.mem_cons_of_mem _ ?_))) (kn_len 2)⟩) (by exact H.mem.sub (by (repeat (first | exact List.Sublist.refl _ | apply List.Sublist.cons_cons | apply List.Sublist.cons)))) ?_; (conv => arg 6; simp only [Act.put, List.setIfInBounds_toArray, List.set_cons_succ, List.set_cons_zero]))
    (refine wpT_free (by rw [HO.out]; rfl) rfl (.inl ⟨rfl, fun w _ => by go_simp; rfl⟩) (by exact H.mem.sub (by (repeat (first | exact List.Sublist.refl _ | apply List.Sublist.cons_cons | apply List.Sublist.cons)))) ?_; (conv => arg 6; simp only [Act.put, List.setIfInBounds_toArray, List.set_cons_succ, List.set_cons_zero]))
    (refine wpT_free (by rw [HO.out]; rfl) rfl (.inl ⟨rfl, fun w hw => run_ldrowN (xs := kn 0) Try.underlying26 s26 rfl rfl rfl hw (by (repeat (first | exact List.mem_cons_self | refine List.mem_cons_of_mem _ ?_))) (kn_len 0)⟩) (by exact H.mem.sub (by (repeat (first | exact List.Sublist.refl _ | apply List.Sublist.cons_cons | apply List.Sublist.cons)))) ?_; (conv => arg 6; simp only [Act.put, List.setIfInBounds_toArray, List.set_cons_succ, List.set_cons_zero]))
    repeat' (first
      | (refine wpT_three (by rw [HO.out]; rfl) (by rw [HO.out]; rfl) (by rw [HO.out]; rfl) ?_ ?_ ?_ <;> (go_wp2_with (first | (go_at_call 13; refine (HashN H (hd5 a b t) (by omega) (by simpa using kn_ok 1) (by simp) (H.mem.blkT (by (repeat (first | exact List.mem_cons_self | refine List.mem_cons_of_mem _ ?_)))) (fun h => by cases h) (by simp)).mono ?_; clear H; rintro e wn ⟨rfl, H⟩) | (go_at_call 15; refine (SealN H (hd6 a b t) (by omega) (kn_ok 4) (kn_ok 2) (by simpa using kn_ok 0) (by simp) (H.mem.blkT (by (repeat (first | exact List.mem_cons_self | refine List.mem_cons_of_mem _ ?_)))) (fun h => by cases h) (by simp)).mono ?_; clear H; rintro e wn ⟨rfl, H⟩) | (go_at_call 14; refine (key14k _ (kn_ok 5)).mono ?_; rintro e wn ⟨rfl, M10⟩; replace H := H.call0 (tabR_ok _ _) M10; clear M10) | (refine wpH_al 13 H (tabR_ok _ _) z26 rfl rfl rfl ?_; clear H; intro b13 wn H; (conv => arg 5; simp only [Act.put, List.setIfInBounds_toArray, List.set_cons_succ, List.set_cons_zero])) | (refine wpH_bsK1 69 H (tabR_ok _ _) rfl rfl rfl rfl (kn_ok 1) ?_; clear H; intro b69 wn H; (conv => arg 5; simp only [Act.put, List.setIfInBounds_toArray, List.set_cons_succ, List.set_cons_zero])) | (refine wpH_bsK1 74 H (tabR_ok _ _) rfl rfl rfl rfl (kn_ok 0) ?_; clear H; intro b74 wn H; (conv => arg 5; simp only [Act.put, List.setIfInBounds_toArray, List.set_cons_succ, List.set_cons_zero])) | (refine wpH_st0 (ys := kn 5) rfl H (tabR_ok _ _) s26 rfl rfl rfl rfl (by (repeat (first | exact Swap.head | apply Swap.tail))) (by simp) (kn_len 5) ?_; clear H; intro wn H)); refine PlanTQ.mk (H.mem.sub (by (repeat (first | exact List.Sublist.refl _ | apply List.Sublist.cons_cons | apply List.Sublist.cons)))) ?_))
      | (refine wpT_two (by rw [HO.out]; rfl) (by rw [HO.out]; rfl) ?_ ?_ <;> (go_wp2_with (first | (go_at_call 13; refine (HashN H (hd5 a b t) (by omega) (by simpa using kn_ok 1) (by simp) (H.mem.blkT (by (repeat (first | exact List.mem_cons_self | refine List.mem_cons_of_mem _ ?_)))) (fun h => by cases h) (by simp)).mono ?_; clear H; rintro e wn ⟨rfl, H⟩) | (go_at_call 15; refine (SealN H (hd6 a b t) (by omega) (kn_ok 4) (kn_ok 2) (by simpa using kn_ok 0) (by simp) (H.mem.blkT (by (repeat (first | exact List.mem_cons_self | refine List.mem_cons_of_mem _ ?_)))) (fun h => by cases h) (by simp)).mono ?_; clear H; rintro e wn ⟨rfl, H⟩) | (go_at_call 14; refine (key14k _ (kn_ok 5)).mono ?_; rintro e wn ⟨rfl, M10⟩; replace H := H.call0 (tabR_ok _ _) M10; clear M10) | (refine wpH_al 13 H (tabR_ok _ _) z26 rfl rfl rfl ?_; clear H; intro b13 wn H; (conv => arg 5; simp only [Act.put, List.setIfInBounds_toArray, List.set_cons_succ, List.set_cons_zero])) | (refine wpH_bsK1 69 H (tabR_ok _ _) rfl rfl rfl rfl (kn_ok 1) ?_; clear H; intro b69 wn H; (conv => arg 5; simp only [Act.put, List.setIfInBounds_toArray, List.set_cons_succ, List.set_cons_zero])) | (refine wpH_bsK1 74 H (tabR_ok _ _) rfl rfl rfl rfl (kn_ok 0) ?_; clear H; intro b74 wn H; (conv => arg 5; simp only [Act.put, List.setIfInBounds_toArray, List.set_cons_succ, List.set_cons_zero])) | (refine wpH_st0 (ys := kn 5) rfl H (tabR_ok _ _) s26 rfl rfl rfl rfl (by (repeat (first | exact Swap.head | apply Swap.tail))) (by simp) (kn_len 5) ?_; clear H; intro wn H)); refine PlanTQ.mk (H.mem.sub (by (repeat (first | exact List.Sublist.refl _ | apply List.Sublist.cons_cons | apply List.Sublist.cons)))) ?_))
      | (refine wpT_op (by rw [HO.out]; rfl) ?_; (go_wp2_with (first | (go_at_call 13; refine (HashN H (hd5 a b t) (by omega) (by simpa using kn_ok 1) (by simp) (H.mem.blkT (by (repeat (first | exact List.mem_cons_self | refine List.mem_cons_of_mem _ ?_)))) (fun h => by cases h) (by simp)).mono ?_; clear H; rintro e wn ⟨rfl, H⟩) | (go_at_call 15; refine (SealN H (hd6 a b t) (by omega) (kn_ok 4) (kn_ok 2) (by simpa using kn_ok 0) (by simp) (H.mem.blkT (by (repeat (first | exact List.mem_cons_self | refine List.mem_cons_of_mem _ ?_)))) (fun h => by cases h) (by simp)).mono ?_; clear H; rintro e wn ⟨rfl, H⟩) | (go_at_call 14; refine (key14k _ (kn_ok 5)).mono ?_; rintro e wn ⟨rfl, M10⟩; replace H := H.call0 (tabR_ok _ _) M10; clear M10) | (refine wpH_al 13 H (tabR_ok _ _) z26 rfl rfl rfl ?_; clear H; intro b13 wn H; (conv => arg 5; simp only [Act.put, List.setIfInBounds_toArray, List.set_cons_succ, List.set_cons_zero])) | (refine wpH_bsK1 69 H (tabR_ok _ _) rfl rfl rfl rfl (kn_ok 1) ?_; clear H; intro b69 wn H; (conv => arg 5; simp only [Act.put, List.setIfInBounds_toArray, List.set_cons_succ, List.set_cons_zero])) | (refine wpH_bsK1 74 H (tabR_ok _ _) rfl rfl rfl rfl (kn_ok 0) ?_; clear H; intro b74 wn H; (conv => arg 5; simp only [Act.put, List.setIfInBounds_toArray, List.set_cons_succ, List.set_cons_zero])) | (refine wpH_st0 (ys := kn 5) rfl H (tabR_ok _ _) s26 rfl rfl rfl rfl (by (repeat (first | exact Swap.head | apply Swap.tail))) (by simp) (kn_len 5) ?_; clear H; intro wn H)); refine PlanTQ.mk (H.mem.sub (by (repeat (first | exact List.Sublist.refl _ | apply List.Sublist.cons_cons | apply List.Sublist.cons)))) ?_))
      | (refine wpT_free (by rw [HO.out]; rfl) rfl (.inl ⟨rfl, fun w _ => by go_simp; rfl⟩) (by exact H.mem.sub (by (repeat (first | exact List.Sublist.refl _ | apply List.Sublist.cons_cons | apply List.Sublist.cons)))) ?_; (conv => arg 6; simp only [Act.put, List.setIfInBounds_toArray, List.set_cons_succ, List.set_cons_zero])))
    all_goals
      refine wpT_done ?_
      rw [HQ.out]
      go_wp2_with fail
      go_meet
      exact ⟨b13, rfl, rfl, H.sub (by (repeat (first | exact List.Sublist.refl _ | apply List.Sublist.cons_cons | apply List.Sublist.cons)))⟩
  case rest =>
    obtain ⟨b13, rfl, rfl, H⟩ := hcut
    go_upto_region 11 with (first
      | (refine wpList_ldrowN Try.underlying26 s26 rfl rfl rfl rfl H.mem (by (repeat (first | exact List.mem_cons_self | refine List.mem_cons_of_mem _ ?_))) (by exact kn_len _) ?_; (conv => arg 5; simp only [Act.put, List.setIfInBounds_toArray, List.set_cons_succ, List.set_cons_zero]))
      | (refine wpH_bsK3 83 H (tabR_ok _ _) rfl rfl rfl rfl rfl rfl (kn_ok 2) (kn_ok 3) (kn_ok 5) ?_; clear H; intro b83 wn H; (conv => arg 5; simp only [Act.put, List.setIfInBounds_toArray, List.set_cons_succ, List.set_cons_zero]))
      | (go_at_call 16; refine (Follow16T H HW.out (seen := [kn 2, kn 3, kn 5]) (by simpa using ⟨kn_ok 2, kn_ok 3, kn_ok 5⟩) (by simp) (H.mem.blkT List.mem_cons_self)).mono ?_; rintro e wn ⟨f, hf, kf, mf, Af, bf, rfl, FF, M16⟩; replace H := H.call (tabR_ok _ _) M16; clear M16))
    go_upto_region 12 with (first
      | (refine wpList_ldrowN Try.underlying26 s26 rfl rfl rfl rfl H.mem (by (repeat (first | exact List.mem_cons_self | refine List.mem_cons_of_mem _ ?_))) (by exact kn_len _) ?_; (conv => arg 5; simp only [Act.put, List.setIfInBounds_toArray, List.set_cons_succ, List.set_cons_zero]))
      | (refine wpH_bsK4 90 H (tabR_ok _ _) rfl rfl rfl rfl rfl rfl rfl (kn_ok 2) (kn_ok 3) (kn_ok 5) (kn_ok 1) ?_; clear H; intro b90 wn H; (conv => arg 5; simp only [Act.put, List.setIfInBounds_toArray, List.set_cons_succ, List.set_cons_zero]))
      | (go_at_call 16; refine (Follow16T H HW.out (seen := [kn 2, kn 3, kn 5, kn 1]) (by simpa using ⟨kn_ok 2, kn_ok 3, kn_ok 5, kn_ok 1⟩) (by simp) (H.mem.blkT List.mem_cons_self)).mono ?_; rintro e wn ⟨f2, hf2, kf2, mf2, Af2, bf2, rfl, GG, M16⟩; replace H := H.call (tabR_ok _ _) M16; clear M16))
    refine wp_region_planTS (.free 0 (.free 1 (.free 2 (.free 3 (.free 4 (.one 5 (.free 6 (.free 7 (.free 8 (.free 9 (.free 10 (.free 11 (.free 12 (.done)))))))))))))) (by kernel_rfl) (by kernel_rfl) (fun _ _ _ _ _ h => h) H (tabR_ok _ _) ?_
    clear H
    intro w9 H
    (refine wpT_free rfl rfl (.inl ⟨rfl, fun w _ => by go_simp; rfl⟩) (by exact H.mem.sub (by (repeat (first | exact List.Sublist.refl _ | apply List.Sublist.cons_cons | apply List.Sublist.cons)))) ?_; (conv => arg 6; simp only [Act.put, List.setIfInBounds_toArray, List.set_cons_succ, List.set_cons_zero]))
    (refine wpT_free rfl rfl (.inl ⟨rfl, fun w hw => run_ldrowN (xs := kn 0) Try.underlying26 s26 rfl rfl rfl hw (by (repeat (first | exact List.mem_cons_self | refine List.mem_cons_of_mem _ ?_))) (kn_len 0)⟩) (by exact H.mem.sub (by (repeat (first | exact List.Sublist.refl _ | apply List.Sublist.cons_cons | apply List.Sublist.cons)))) ?_; (conv => arg 6; simp only [Act.put, List.setIfInBounds_toArray, List.set_cons_succ, List.set_cons_zero]))
    (refine wpT_free rfl rfl (.inl ⟨rfl, fun w hw => run_ldrowN (xs := kn 2) Try.underlying26 s26 rfl rfl rfl hw (by (repeat (first | exact List.mem_cons_self | refine List.mem_cons_of_mem _ ?_))) (kn_len 2)⟩) (by exact H.mem.sub (by (repeat (first | exact List.Sublist.refl _ | apply List.Sublist.cons_cons | apply List.Sublist.cons)))) ?_; (conv => arg 6; simp only [Act.put, List.setIfInBounds_toArray, List.set_cons_succ, List.set_cons_zero]))
    refine wpT_free rfl rfl (.inl ⟨rfl, fun w _ => run_slW Try.underlying26 s5 (by decide) rfl rfl w⟩) (by exact H.mem.sub (by (repeat (first | exact List.Sublist.refl _ | apply List.Sublist.cons_cons | apply List.Sublist.cons)))) ?_; (conv => arg 6; simp only [Act.put, List.setIfInBounds_toArray, List.set_cons_succ, List.set_cons_zero])
    refine wpT_free rfl rfl (.inl ⟨rfl, fun w hw => run_cvKey (xs := kn 3) Try.underlying37 Try.underlying5 Try.underlying9 rfl rfl hw (by (repeat (first | exact List.mem_cons_self | refine List.mem_cons_of_mem _ ?_))) (kn_len 3)⟩) (by exact H.mem.sub (by (repeat (first | exact List.Sublist.refl _ | apply List.Sublist.cons_cons | apply List.Sublist.cons)))) ?_; (conv => arg 6; simp only [Act.put, List.setIfInBounds_toArray, List.set_cons_succ, List.set_cons_zero])
    refine wpT_op rfl ?_
    go_wp2_with (go_at_call 17; have HO := Open17T H HW.out (s := strOfNums (kn 3)) (kn_ok 0) (kn_ok 2); rw [hdO] at HO; refine HO.mono ?_; clear HO; rintro e wn ⟨rfl, M17⟩; replace H := H.call0 (tabR_ok _ _) M17; clear M17)
    refine PlanTQ.mk (H.mem.sub (by (repeat (first | exact List.Sublist.refl _ | apply List.Sublist.cons_cons | apply List.Sublist.cons)))) ?_
    iterate 7 (refine wpT_free rfl rfl (.inl ⟨rfl, fun w _ => by go_simp; rfl⟩) (by exact H.mem.sub (by (repeat (first | exact List.Sublist.refl _ | apply List.Sublist.cons_cons | apply List.Sublist.cons)))) ?_; (conv => arg 6; simp only [Act.put, List.setIfInBounds_toArray, List.set_cons_succ, List.set_cons_zero]))
    refine wpT_done ?_
    have HF0 := hid (hdF0 a b t FF)
    have HF1 := hid (hdF1 a b t FF)
    have HF2 := hid (hdF2 a b t FF)
    have HG := hid (hdG a b t GG)
    have hlf : bf.length ≤ 1000000 := by rw [FF.len]; simp [hAll]
    have hlg : bf2.length ≤ 1000000 := by rw [GG.len]; simp [hAll]
    have HLF := hid hlf
    have HLG := hid hlg
    clear hlf hlg FF GG
    have hinG : ∀ x ∈ folL f2 hf2 kf2 Af2 mf2 bf2, x ∈ folL f2 hf2 kf2 Af2 mf2 bf2 ++ Item.blk b90 (rowO .u8 26 [kn 2, kn 3, kn 5, kn 1].flatten) :: (folL f hf kf Af mf bf ++ [Item.blk b83 (rowO .u8 26 [kn 2, kn 3, kn 5].flatten), .blk b13 (rowO .u8 26 (kn 5)), .blk b11 (rowO .u8 26 (kn 3)), .blk b10 (rowO .u8 26 (kn 2)), .blk b9 (rowO .u8 26 (kn 1)), .blk b8 (rowO .u8 26 (kn 0))]) := fun x hx => List.mem_append_left _ hx
    have hinF : ∀ x ∈ folL f hf kf Af mf bf, x ∈ folL f2 hf2 kf2 Af2 mf2 bf2 ++ Item.blk b90 (rowO .u8 26 [kn 2, kn 3, kn 5, kn 1].flatten) :: (folL f hf kf Af mf bf ++ [Item.blk b83 (rowO .u8 26 [kn 2, kn 3, kn 5].flatten), .blk b13 (rowO .u8 26 (kn 5)), .blk b11 (rowO .u8 26 (kn 3)), .blk b10 (rowO .u8 26 (kn 2)), .blk b9 (rowO .u8 26 (kn 1)), .blk b8 (rowO .u8 26 (kn 0))]) := fun x hx => List.mem_append_right _ (List.mem_cons_of_mem _ (List.mem_append_left _ hx))
    have HIG := hid hinG
    have HIF := hid hinF
    clear hinG hinF
    go_wp2_with (first
      | (apply wpList_want; (· rfl))
      | (go_at_call 10; refine (alive10 _).mono ?_; rintro e wn ⟨rfl, M1⟩; replace H := H.call0 (tabR_ok _ _) M1; clear M1)
      | (refine wpList_ldrowN Try.underlying26 s26 rfl rfl rfl rfl H.mem (by (repeat (first | exact List.mem_cons_self | refine List.mem_cons_of_mem _ ?_))) (by exact kn_len _) ?_; (conv => arg 5; simp only [Act.put, List.setIfInBounds_toArray, List.set_cons_succ, List.set_cons_zero]))
      | (go_at_call 42; refine (has42 _ _ _ _ _ _ _ _ (by first | exact H.mem.fp HIF.out | exact H.mem.fp HIG.out) (by exact kn_ok _) (by first | exact HLF.out | exact HLG.out)).mono ?_; rintro e wn ⟨rfl, M17⟩; replace H := H.call0 (tabR_ok _ _) M17; clear M17; first | rw [HF0.out] | rw [HF1.out] | rw [HF2.out] | rw [HG.out]))
    go_ret
    exact ⟨rfl, H.mem.sub (List.nil_sublist _)⟩
end Go.Proofs.Ytcapfnbmmdbcoaa
