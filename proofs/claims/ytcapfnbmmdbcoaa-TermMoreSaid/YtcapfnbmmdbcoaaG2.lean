/- A play: the keys that a step names. -/
import Derived.Test.YtcapfnbmmdbcoaaG1
set_option linter.unusedVariables false
set_option linter.unusedSimpArgs false
namespace Go.Proofs.Ytcapfnbmmdbcoaa
open Go.RowKit
/-- The end of a function with two arrays as results. -/
theorem ret_cell2 {P : Program} {a : Act} {w w0 : World} {E : List Nat} {L : List Item} {fn : Func} {R : Ending → World → Prop} {ty : TypeId} {d : TypeDesc} {n : Nat} (hu : P.underlying ty = some d) (hsz : (P.info? ty).map (·.size) = some n) {p q : Tmp} (hres : fn.results = #[.cell p ty, .cell q ty]) (hd : d.isRow = true) {g g2 : Nat}
    (hp : a.tmps.getD p undef = .pointer (some ⟨g, 0, none⟩)) (hq : a.tmps.getD q undef = .pointer (some ⟨g2, 0, none⟩)) (hdef : a.defers = []) (M : Mem w0 E w L) {k : IntKind} {t t2 : TypeId} {xs ys : List Int} (hin : .blk g (rowO k t xs) ∈ L) (hin2 : .blk g2 (rowO k t2 ys) ∈ L) (hn : xs.length = n) (hn2 : ys.length = n)
    (hR : R (.returned (.tuple #[.agg (nums k xs).toArray, .agg (nums k ys).toArray])) w) : bodyPost P fn R .ret a w := by
  have hl := run_loadVar_row (P := P) w g t ty (nums k xs).toArray (0, 0) d (M.holds _ hin) hu (by cases d <;> simp_all [TypeDesc.isRow]) (by rw [hsz]; simp [nums_length, hn])
  have hl2 := run_loadVar_row (P := P) w g2 t2 ty (nums k ys).toArray (0, 0) d (M.holds _ hin2) hu (by cases d <;> simp_all [TypeDesc.isRow]) (by rw [hsz]; simp [nums_length, hn2])
  have hp' : a.tmps[p]?.getD undef = .pointer (some ⟨g, 0, none⟩) := by simpa using hp
  have hq' : a.tmps[q]?.getD undef = .pointer (some ⟨g2, 0, none⟩) := by simpa using hq
  exact bodyPost_ret (by simp [results, hres, hp', hq', asAddr, hl, hl2]) hdef hR
theorem at31K {K : Nat → Prop} {w : World} {p g m : Nat} {keys : List (List Int)} {n : Int} {k : List Int} (he : atK keys n = k) (h : playR p g m keys K w) (h1 : 1 ≤ keys.length) (hl : keys.length ≤ 100000) :
    Calls Try.prog 31 #[.pointer (some ⟨p, 0, none⟩), .int .i64 n] w (KeyR k w) := by
  subst he
  exact at31 h h1 hl n
def TwoR (a b : List Int) (w : World) (e : Ending) (w' : World) : Prop := e = .returned (.tuple #[.agg (nums .u8 a).toArray, .agg (nums .u8 b).toArray]) ∧ Mem w [] w' []
set_option maxRecDepth 100000 in
set_option maxHeartbeats 4000000 in
theorem two51 {K : Nat → Prop} {w : World} {p g m : Nat} {keys : List (List Int)} (h : playR p g m keys K w) (h1 : 1 ≤ keys.length) (hl : keys.length ≤ 100000) {c : Sp} {I : Option Addr} {ic : Nat} (hr : KeyOk c.raw) (hI : RowC w I (nums .i64 c.keys)) :
    Calls Try.prog 51 #[.pointer (some ⟨p, 0, none⟩), .agg (spCells c I ic).toArray] w (TwoR (atK keys c.at_) (atK keys (c.keys.getD 0 0)) w) := by
  have M0 := Mem.start w
  have HH := hid h
  have HR := hid hr
  have hok : ∀ k ∈ keys, KeyOk k := by obtain ⟨A, c, T⟩ := h; exact T.ok
  have HA := hid (atK_ok h1 hok c.at_)
  have HZ := hid (atK_ok h1 hok 0)
  have HB := hid (atK_ok h1 hok (c.keys.getD 0 0))
  by_cases hk : 0 < c.keys.length
  · have hkI : (0 : Int) < (c.keys.length : Int) := by omega
    obtain ⟨a0, ha0⟩ : ∃ a, c.keys[0]? = some a := ⟨_, List.getElem?_eq_getElem hk⟩
    obtain ⟨bi, oi, hIe, hcell⟩ := hI.cell (i := 0) (v := .int .i64 a0) (by simp [nums, ha0])
    subst hIe
    have hgd : c.keys.getD 0 0 = a0 := by rw [List.getD_eq_getElem?_getD, ha0]; rfl
    rw [hgd] at HB ⊢
    rw [Nat.add_zero] at hcell
    have HCI := hid hcell
    obtain ⟨ka, hka⟩ : ∃ k, k = atK keys c.at_ := ⟨_, rfl⟩
    obtain ⟨kz, hkz⟩ : ∃ k, k = atK keys 0 := ⟨_, rfl⟩
    obtain ⟨kb, hkb⟩ : ∃ k, k = atK keys a0 := ⟨_, rfl⟩
    have EA := hid hka.symm
    have EZ := hid hkz.symm
    have EB := hid hkb.symm
    rw [← hka] at HA ⊢
    rw [← hkz] at HZ
    rw [← hkb] at HB ⊢
    clear h hr hI hok hcell ha0 hgd hka hkz hkb
    go_enter Try.func51, Try.ntmps51
    go_wp2_with (first | (refine wpList_bx (cs := spCells c _ ic) rfl rfl M0 rfl rfl (fun b3 w1 M1 => ?_); have M := M1; clear M0 M1; have c1 := M.cell (i := 1) (g := b3) (v := .int .i64 c.at_) (by (repeat (first | exact List.mem_cons_self | refine List.mem_cons_of_mem _ ?_))) rfl; have c35 := M.cell (i := 35) (g := b3) (v := .slice _ c.keys.length ic) (by (repeat (first | exact List.mem_cons_self | refine List.mem_cons_of_mem _ ?_))) (sp_keys HR.out); have ci := M.cell0 HCI.out; (conv => arg 5; simp only [Act.put, List.setIfInBounds_toArray, List.set_cons_succ, List.set_cons_zero])) | (refine wpList_alN z26 4 rfl rfl rfl M (fun b4 w2 M2 => ?_); clear M c1 c35 ci; have M := M2; clear M2; have c1 := M.cell (i := 1) (g := b3) (v := .int .i64 c.at_) (by (repeat (first | exact List.mem_cons_self | refine List.mem_cons_of_mem _ ?_))) rfl; have c35 := M.cell (i := 35) (g := b3) (v := .slice _ c.keys.length ic) (by (repeat (first | exact List.mem_cons_self | refine List.mem_cons_of_mem _ ?_))) (sp_keys HR.out); have ci := M.cell0 HCI.out; (conv => arg 5; simp only [Act.put, List.setIfInBounds_toArray, List.set_cons_succ, List.set_cons_zero])) | (refine wpList_alN z26 5 rfl rfl rfl M (fun b5 w2 M2 => ?_); clear M c1 c35 ci; have M := M2; clear M2; have c1 := M.cell (i := 1) (g := b3) (v := .int .i64 c.at_) (by (repeat (first | exact List.mem_cons_self | refine List.mem_cons_of_mem _ ?_))) rfl; have c35 := M.cell (i := 35) (g := b3) (v := .slice _ c.keys.length ic) (by (repeat (first | exact List.mem_cons_self | refine List.mem_cons_of_mem _ ?_))) (sp_keys HR.out); have ci := M.cell0 HCI.out; (conv => arg 5; simp only [Act.put, List.setIfInBounds_toArray, List.set_cons_succ, List.set_cons_zero])) | (go_at_call 31; refine (at31K (by first | exact EA.out | exact EZ.out | exact EB.out) ((playR_ok _ _ _ _).keep HH.out (fun b hb hl => M.old b hl (by simp))) h1 hl).mono ?_; rintro e wn ⟨rfl, MM⟩; have M9 := M.call MM.below; clear MM M c1 c35 ci; have M := M9; clear M9; have c1 := M.cell (i := 1) (g := b3) (v := .int .i64 c.at_) (by (repeat (first | exact List.mem_cons_self | refine List.mem_cons_of_mem _ ?_))) rfl; have c35 := M.cell (i := 35) (g := b3) (v := .slice _ c.keys.length ic) (by (repeat (first | exact List.mem_cons_self | refine List.mem_cons_of_mem _ ?_))) (sp_keys HR.out); have ci := M.cell0 HCI.out) | (refine wpList_alN z26 6 rfl rfl rfl M (fun b6 w2 M2 => ?_); clear M c1 c35 ci; have M := M2; clear M2; have c1 := M.cell (i := 1) (g := b3) (v := .int .i64 c.at_) (by (repeat (first | exact List.mem_cons_self | refine List.mem_cons_of_mem _ ?_))) rfl; have c35 := M.cell (i := 35) (g := b3) (v := .slice _ c.keys.length ic) (by (repeat (first | exact List.mem_cons_self | refine List.mem_cons_of_mem _ ?_))) (sp_keys HR.out); have ci := M.cell0 HCI.out; (conv => arg 5; simp only [Act.put, List.setIfInBounds_toArray, List.set_cons_succ, List.set_cons_zero])) | (refine wpList_alN z26 7 rfl rfl rfl M (fun b7 w2 M2 => ?_); clear M c1 c35 ci; have M := M2; clear M2; have c1 := M.cell (i := 1) (g := b3) (v := .int .i64 c.at_) (by (repeat (first | exact List.mem_cons_self | refine List.mem_cons_of_mem _ ?_))) rfl; have c35 := M.cell (i := 35) (g := b3) (v := .slice _ c.keys.length ic) (by (repeat (first | exact List.mem_cons_self | refine List.mem_cons_of_mem _ ?_))) (sp_keys HR.out); have ci := M.cell0 HCI.out; (conv => arg 5; simp only [Act.put, List.setIfInBounds_toArray, List.set_cons_succ, List.set_cons_zero])) | (refine wpList_strowN (ys := ka) s26 rfl rfl rfl rfl M (by (repeat (first | exact Swap.head | apply Swap.tail))) (by first | simp | exact HA.out.1 | exact HZ.out.1) (by first | exact HA.out.1 | exact HZ.out.1 | exact HB.out.1) (fun w3 M3 => ?_); clear M c1 c35 ci; have M := M3; clear M3; have c1 := M.cell (i := 1) (g := b3) (v := .int .i64 c.at_) (by (repeat (first | exact List.mem_cons_self | refine List.mem_cons_of_mem _ ?_))) rfl; have c35 := M.cell (i := 35) (g := b3) (v := .slice _ c.keys.length ic) (by (repeat (first | exact List.mem_cons_self | refine List.mem_cons_of_mem _ ?_))) (sp_keys HR.out); have ci := M.cell0 HCI.out; (try (conv => arg 5; simp only [Act.put, List.setIfInBounds_toArray, List.set_cons_succ, List.set_cons_zero]))) | (refine wpList_strowN (ys := kz) s26 rfl rfl rfl rfl M (by (repeat (first | exact Swap.head | apply Swap.tail))) (by first | simp | exact HA.out.1 | exact HZ.out.1) (by first | exact HA.out.1 | exact HZ.out.1 | exact HB.out.1) (fun w3 M3 => ?_); clear M c1 c35 ci; have M := M3; clear M3; have c1 := M.cell (i := 1) (g := b3) (v := .int .i64 c.at_) (by (repeat (first | exact List.mem_cons_self | refine List.mem_cons_of_mem _ ?_))) rfl; have c35 := M.cell (i := 35) (g := b3) (v := .slice _ c.keys.length ic) (by (repeat (first | exact List.mem_cons_self | refine List.mem_cons_of_mem _ ?_))) (sp_keys HR.out); have ci := M.cell0 HCI.out; (try (conv => arg 5; simp only [Act.put, List.setIfInBounds_toArray, List.set_cons_succ, List.set_cons_zero]))) | (refine wpList_strowN (ys := kb) s26 rfl rfl rfl rfl M (by (repeat (first | exact Swap.head | apply Swap.tail))) (by first | simp | exact HA.out.1 | exact HZ.out.1) (by first | exact HA.out.1 | exact HZ.out.1 | exact HB.out.1) (fun w3 M3 => ?_); clear M c1 c35 ci; have M := M3; clear M3; have c1 := M.cell (i := 1) (g := b3) (v := .int .i64 c.at_) (by (repeat (first | exact List.mem_cons_self | refine List.mem_cons_of_mem _ ?_))) rfl; have c35 := M.cell (i := 35) (g := b3) (v := .slice _ c.keys.length ic) (by (repeat (first | exact List.mem_cons_self | refine List.mem_cons_of_mem _ ?_))) (sp_keys HR.out); have ci := M.cell0 HCI.out; (try (conv => arg 5; simp only [Act.put, List.setIfInBounds_toArray, List.set_cons_succ, List.set_cons_zero]))))
    refine wp_region_planS (fun w' => ∃ v E, Mem v E w' [.blk b7 (rowO .u8 26 kb), .blk b6 (rowO .u8 26 ka)]) (.free 0 (.free 1 (.one 2 (.one 3 (.done))))) (by kernel_rfl) (by kernel_rfl) (fun _ _ _ _ _ h => h) ?_
    intro w9 hbl
    have M9 := M.call hbl
    clear M c1 c35 ci
    have M := M9
    clear M9
    (refine wpT_free rfl rfl (.inl ⟨rfl, fun w hw => by obtain ⟨_, _, N⟩ := hw; exact run_ldrowN (xs := ka) Try.underlying26 s26 rfl rfl rfl N (by (repeat (first | exact List.mem_cons_self | refine List.mem_cons_of_mem _ ?_))) HA.out.1⟩) (by exact ⟨_, _, M.sub (by (repeat (first | exact List.Sublist.refl _ | apply List.Sublist.cons_cons | apply List.Sublist.cons)))⟩) ?_; (conv => arg 6; simp only [Act.put, List.setIfInBounds_toArray, List.set_cons_succ, List.set_cons_zero]))
    (refine wpT_free rfl rfl (.inl ⟨rfl, fun w hw => by obtain ⟨_, _, N⟩ := hw; exact run_ldrowN (xs := kb) Try.underlying26 s26 rfl rfl rfl N (by (repeat (first | exact List.mem_cons_self | refine List.mem_cons_of_mem _ ?_))) HB.out.1⟩) (by exact ⟨_, _, M.sub (by (repeat (first | exact List.Sublist.refl _ | apply List.Sublist.cons_cons | apply List.Sublist.cons)))⟩) ?_; (conv => arg 6; simp only [Act.put, List.setIfInBounds_toArray, List.set_cons_succ, List.set_cons_zero]))
    refine wpT_op rfl ?_
    go_wp2_with (refine wpList_strowN (ys := ka) s26 rfl rfl rfl rfl M (by (repeat (first | exact Swap.head | apply Swap.tail))) (by simp) HA.out.1 (fun w3 M3 => ?_); clear M; have M := M3; clear M3; (try (conv => arg 5; simp only [Act.put, List.setIfInBounds_toArray, List.set_cons_succ, List.set_cons_zero])))
    refine PlanTQ.mk (by exact ⟨_, _, M.sub (by (repeat (first | exact List.Sublist.refl _ | apply List.Sublist.cons_cons | apply List.Sublist.cons)))⟩) ?_
    refine wpT_op rfl ?_
    go_wp2_with (refine wpList_strowN (ys := kb) s26 rfl rfl rfl rfl M (by (repeat (first | exact Swap.head | apply Swap.tail))) (by simp) HB.out.1 (fun w3 M3 => ?_); clear M; have M := M3; clear M3; (try (conv => arg 5; simp only [Act.put, List.setIfInBounds_toArray, List.set_cons_succ, List.set_cons_zero])))
    refine PlanTQ.mk (by exact ⟨_, _, M.sub (by (repeat (first | exact List.Sublist.refl _ | apply List.Sublist.cons_cons | apply List.Sublist.cons)))⟩) ?_
    refine wpT_done ?_
    go_wp2_with fail
    (try simp only [Exit.inBlock, Exit.then])
    refine ret_cell2 Try.underlying26 s26 rfl rfl rfl rfl rfl M (xs := ka) (ys := kb) (by (repeat (first | exact List.mem_cons_self | refine List.mem_cons_of_mem _ ?_))) (by (repeat (first | exact List.mem_cons_self | refine List.mem_cons_of_mem _ ?_))) HA.out.1 HB.out.1 ?_
    exact ⟨rfl, M.sub (List.nil_sublist _)⟩
  · have hkI : ¬ (0 : Int) < (c.keys.length : Int) := by omega
    have hgd : c.keys.getD 0 0 = 0 := by rw [List.getD_eq_getElem?_getD, List.getElem?_eq_none (by omega)]; rfl
    rw [hgd]
    obtain ⟨ka, hka⟩ : ∃ k, k = atK keys c.at_ := ⟨_, rfl⟩
    obtain ⟨kz, hkz⟩ : ∃ k, k = atK keys 0 := ⟨_, rfl⟩
    have EA := hid hka.symm
    have EZ := hid hkz.symm
    rw [← hka] at HA ⊢
    rw [← hkz] at HZ ⊢
    clear h hr hI hok hgd hka hkz HB
    go_enter Try.func51, Try.ntmps51
    go_wp2_with (first | (refine wpList_bx (cs := spCells c _ ic) rfl rfl M0 rfl rfl (fun b3 w1 M1 => ?_); have M := M1; clear M0 M1; have c1 := M.cell (i := 1) (g := b3) (v := .int .i64 c.at_) (by (repeat (first | exact List.mem_cons_self | refine List.mem_cons_of_mem _ ?_))) rfl; have c35 := M.cell (i := 35) (g := b3) (v := .slice _ c.keys.length ic) (by (repeat (first | exact List.mem_cons_self | refine List.mem_cons_of_mem _ ?_))) (sp_keys HR.out); (conv => arg 5; simp only [Act.put, List.setIfInBounds_toArray, List.set_cons_succ, List.set_cons_zero])) | (refine wpList_alN z26 4 rfl rfl rfl M (fun b4 w2 M2 => ?_); clear M c1 c35; have M := M2; clear M2; have c1 := M.cell (i := 1) (g := b3) (v := .int .i64 c.at_) (by (repeat (first | exact List.mem_cons_self | refine List.mem_cons_of_mem _ ?_))) rfl; have c35 := M.cell (i := 35) (g := b3) (v := .slice _ c.keys.length ic) (by (repeat (first | exact List.mem_cons_self | refine List.mem_cons_of_mem _ ?_))) (sp_keys HR.out); (conv => arg 5; simp only [Act.put, List.setIfInBounds_toArray, List.set_cons_succ, List.set_cons_zero])) | (refine wpList_alN z26 5 rfl rfl rfl M (fun b5 w2 M2 => ?_); clear M c1 c35; have M := M2; clear M2; have c1 := M.cell (i := 1) (g := b3) (v := .int .i64 c.at_) (by (repeat (first | exact List.mem_cons_self | refine List.mem_cons_of_mem _ ?_))) rfl; have c35 := M.cell (i := 35) (g := b3) (v := .slice _ c.keys.length ic) (by (repeat (first | exact List.mem_cons_self | refine List.mem_cons_of_mem _ ?_))) (sp_keys HR.out); (conv => arg 5; simp only [Act.put, List.setIfInBounds_toArray, List.set_cons_succ, List.set_cons_zero])) | (go_at_call 31; refine (at31K (by first | exact EA.out | exact EZ.out) ((playR_ok _ _ _ _).keep HH.out (fun b hb hl => M.old b hl (by simp))) h1 hl).mono ?_; rintro e wn ⟨rfl, MM⟩; have M9 := M.call MM.below; clear MM M c1 c35; have M := M9; clear M9; have c1 := M.cell (i := 1) (g := b3) (v := .int .i64 c.at_) (by (repeat (first | exact List.mem_cons_self | refine List.mem_cons_of_mem _ ?_))) rfl; have c35 := M.cell (i := 35) (g := b3) (v := .slice _ c.keys.length ic) (by (repeat (first | exact List.mem_cons_self | refine List.mem_cons_of_mem _ ?_))) (sp_keys HR.out)) | (refine wpList_alN z26 6 rfl rfl rfl M (fun b6 w2 M2 => ?_); clear M c1 c35; have M := M2; clear M2; have c1 := M.cell (i := 1) (g := b3) (v := .int .i64 c.at_) (by (repeat (first | exact List.mem_cons_self | refine List.mem_cons_of_mem _ ?_))) rfl; have c35 := M.cell (i := 35) (g := b3) (v := .slice _ c.keys.length ic) (by (repeat (first | exact List.mem_cons_self | refine List.mem_cons_of_mem _ ?_))) (sp_keys HR.out); (conv => arg 5; simp only [Act.put, List.setIfInBounds_toArray, List.set_cons_succ, List.set_cons_zero])) | (refine wpList_alN z26 7 rfl rfl rfl M (fun b7 w2 M2 => ?_); clear M c1 c35; have M := M2; clear M2; have c1 := M.cell (i := 1) (g := b3) (v := .int .i64 c.at_) (by (repeat (first | exact List.mem_cons_self | refine List.mem_cons_of_mem _ ?_))) rfl; have c35 := M.cell (i := 35) (g := b3) (v := .slice _ c.keys.length ic) (by (repeat (first | exact List.mem_cons_self | refine List.mem_cons_of_mem _ ?_))) (sp_keys HR.out); (conv => arg 5; simp only [Act.put, List.setIfInBounds_toArray, List.set_cons_succ, List.set_cons_zero])) | (refine wpList_strowN (ys := ka) s26 rfl rfl rfl rfl M (by (repeat (first | exact Swap.head | apply Swap.tail))) (by first | simp | exact HA.out.1 | exact HZ.out.1) (by first | exact HA.out.1 | exact HZ.out.1) (fun w3 M3 => ?_); clear M c1 c35; have M := M3; clear M3; have c1 := M.cell (i := 1) (g := b3) (v := .int .i64 c.at_) (by (repeat (first | exact List.mem_cons_self | refine List.mem_cons_of_mem _ ?_))) rfl; have c35 := M.cell (i := 35) (g := b3) (v := .slice _ c.keys.length ic) (by (repeat (first | exact List.mem_cons_self | refine List.mem_cons_of_mem _ ?_))) (sp_keys HR.out); (try (conv => arg 5; simp only [Act.put, List.setIfInBounds_toArray, List.set_cons_succ, List.set_cons_zero]))) | (refine wpList_strowN (ys := kz) s26 rfl rfl rfl rfl M (by (repeat (first | exact Swap.head | apply Swap.tail))) (by first | simp | exact HA.out.1 | exact HZ.out.1) (by first | exact HA.out.1 | exact HZ.out.1) (fun w3 M3 => ?_); clear M c1 c35; have M := M3; clear M3; have c1 := M.cell (i := 1) (g := b3) (v := .int .i64 c.at_) (by (repeat (first | exact List.mem_cons_self | refine List.mem_cons_of_mem _ ?_))) rfl; have c35 := M.cell (i := 35) (g := b3) (v := .slice _ c.keys.length ic) (by (repeat (first | exact List.mem_cons_self | refine List.mem_cons_of_mem _ ?_))) (sp_keys HR.out); (try (conv => arg 5; simp only [Act.put, List.setIfInBounds_toArray, List.set_cons_succ, List.set_cons_zero]))))
    refine wp_region_planS (fun w' => ∃ v E, Mem v E w' [.blk b7 (rowO .u8 26 kz), .blk b6 (rowO .u8 26 ka)]) (.free 0 (.free 1 (.one 2 (.one 3 (.done))))) (by kernel_rfl) (by kernel_rfl) (fun _ _ _ _ _ h => h) ?_
    intro w9 hbl
    have M9 := M.call hbl
    clear M c1 c35
    have M := M9
    clear M9
    (refine wpT_free rfl rfl (.inl ⟨rfl, fun w hw => by obtain ⟨_, _, N⟩ := hw; exact run_ldrowN (xs := ka) Try.underlying26 s26 rfl rfl rfl N (by (repeat (first | exact List.mem_cons_self | refine List.mem_cons_of_mem _ ?_))) HA.out.1⟩) (by exact ⟨_, _, M.sub (by (repeat (first | exact List.Sublist.refl _ | apply List.Sublist.cons_cons | apply List.Sublist.cons)))⟩) ?_; (conv => arg 6; simp only [Act.put, List.setIfInBounds_toArray, List.set_cons_succ, List.set_cons_zero]))
    (refine wpT_free rfl rfl (.inl ⟨rfl, fun w hw => by obtain ⟨_, _, N⟩ := hw; exact run_ldrowN (xs := kz) Try.underlying26 s26 rfl rfl rfl N (by (repeat (first | exact List.mem_cons_self | refine List.mem_cons_of_mem _ ?_))) HZ.out.1⟩) (by exact ⟨_, _, M.sub (by (repeat (first | exact List.Sublist.refl _ | apply List.Sublist.cons_cons | apply List.Sublist.cons)))⟩) ?_; (conv => arg 6; simp only [Act.put, List.setIfInBounds_toArray, List.set_cons_succ, List.set_cons_zero]))
    refine wpT_op rfl ?_
    go_wp2_with (refine wpList_strowN (ys := ka) s26 rfl rfl rfl rfl M (by (repeat (first | exact Swap.head | apply Swap.tail))) (by simp) HA.out.1 (fun w3 M3 => ?_); clear M; have M := M3; clear M3; (try (conv => arg 5; simp only [Act.put, List.setIfInBounds_toArray, List.set_cons_succ, List.set_cons_zero])))
    refine PlanTQ.mk (by exact ⟨_, _, M.sub (by (repeat (first | exact List.Sublist.refl _ | apply List.Sublist.cons_cons | apply List.Sublist.cons)))⟩) ?_
    refine wpT_op rfl ?_
    go_wp2_with (refine wpList_strowN (ys := kz) s26 rfl rfl rfl rfl M (by (repeat (first | exact Swap.head | apply Swap.tail))) (by simp) HZ.out.1 (fun w3 M3 => ?_); clear M; have M := M3; clear M3; (try (conv => arg 5; simp only [Act.put, List.setIfInBounds_toArray, List.set_cons_succ, List.set_cons_zero])))
    refine PlanTQ.mk (by exact ⟨_, _, M.sub (by (repeat (first | exact List.Sublist.refl _ | apply List.Sublist.cons_cons | apply List.Sublist.cons)))⟩) ?_
    refine wpT_done ?_
    go_wp2_with fail
    (try simp only [Exit.inBlock, Exit.then])
    refine ret_cell2 Try.underlying26 s26 rfl rfl rfl rfl rfl M (xs := ka) (ys := kz) (by (repeat (first | exact List.mem_cons_self | refine List.mem_cons_of_mem _ ?_))) (by (repeat (first | exact List.mem_cons_self | refine List.mem_cons_of_mem _ ?_))) HA.out.1 HZ.out.1 ?_
    exact ⟨rfl, M.sub (List.nil_sublist _)⟩
end Go.Proofs.Ytcapfnbmmdbcoaa
