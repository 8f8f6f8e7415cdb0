/- Walks of the onetime layer, fifth part: begin, New. -/
import Derived.Test.YtcjfpcajjhccaaaP6
import Derived.Laws.IdiomCopy
set_option linter.unusedVariables false
set_option linter.unusedSimpArgs false
namespace Go.Proofs.Ytcjfpcajjhccaaa
open Go.RowKit
section
variable {P : Program} {ops : Array Oper} {rest : List Oper} {o : Oper} {a : Act} {w w0 : World} {Q : Exit → Act → World → Prop} {E : List Nat} {L L' : List Item}
/-- copy(d, s) within blocks that are known. -/
theorem wpList_cp (pre us vs post pre2 post2 : List Value) {dT sT e : TypeId} (hu : P.underlying dT = some (.slice e)) (hsz : (P.info? e).map (·.size) = some 1) (hgd : o.guard = none) {d s : Operand}
    (ho : o.op = .call { callee := .builtin .copy, args := #[d, s], argTypes := #[dT, sT] }) {g off dLen dCap gs os sLen sCap : Nat} (hd : a.eval d = .slice (some ⟨g, off, none⟩) dLen dCap) (hs : a.eval s = .slice (some ⟨gs, os, none⟩) sLen sCap)
    (M : Mem w0 E w L) {t ts : TypeId} (hsw : Swap (.blk g (cellsO t (pre ++ us ++ post))) (.blk g (cellsO t (pre ++ vs ++ post))) L L') (hin : .blk gs (cellsO ts (pre2 ++ vs ++ post2)) ∈ L)
    (hoff : off = pre.length) (hos : os = pre2.length) (hl : us.length = vs.length) (hn : vs.length = Nat.min sLen dLen) (h1 : ∀ v ∈ vs, v.oneCell' = true)
    (h : ∀ w', Mem w0 E w' L' → wpList P ops Q rest (a.put o.dst (goInt vs.length)) w') : wpList P ops Q (o :: rest) a w :=
  wpList_plain hgd fun K hK => by
    have hsrc : ∀ j v, vs[j]? = some v → w.cell? ((⟨gs, os, none⟩ : Addr).add j) = some v := fun j v hv => by
      rw [Addr.add_mid]
      exact M.range hin hos j v hv
    have hc : ∀ j, j < vs.length → w.cell? ⟨g, off + j, none⟩ = some (us.getD j undef) := fun j hj => by
      have e : us[j]? = some (us.getD j undef) := by rw [List.getD_eq_getElem?_getD, List.getElem?_eq_getElem (by omega)]; rfl
      exact M.range hsw.mem hoff j _ e
    have hr := run_copy_cells (P := P) w dT sT o.type e g off dLen dCap ⟨gs, os, none⟩ sLen sCap vs hu hsz hn hsrc (fun j hj => by rw [hc j hj]; rfl) (fun j hj => M.free hsw.mem _) h1
    unfold Oper.wp execOp
    simp only [ho, resolve, invoke, builtin, Sem.run_bind, Sem.run_pure, Result.andThen_ok, List.map_toArray, List.map_cons, List.map_nil, hd, hs, hr]
    exact hK _ _ (h _ (M.setCells hsw hoff hl))
end
def and15 (xs : List Int) (i : Nat) : List Int := xs.set i (bits .and .u8 (rd xs i) 15)
def and252 (xs : List Int) (i : Nat) : List Int := xs.set i (bits .and .u8 (rd xs i) 252)
def at3 (k : Nat) : List Nat := [3, 7, 11, 15].take k
def at4 (k : Nat) : List Nat := [4, 8, 12].take k
def clamp1 (b : List Int) (k : Nat) : List Int := (at3 k).foldl and15 b
def clamp2 (b : List Int) (k : Nat) : List Int := (at4 k).foldl and252 b
/-- The 17 bytes of r. -/
def clampP (key : List Int) : List Int := clamp2 (clamp1 (key.take 16 ++ [0]) 4) 3
theorem fold_and15_length (l : List Nat) (b : List Int) : (l.foldl and15 b).length = b.length := by
  induction l generalizing b with
  | nil => rfl
  | cons i l ih => rw [List.foldl_cons, ih, and15, List.length_set]
theorem fold_and252_length (l : List Nat) (b : List Int) : (l.foldl and252 b).length = b.length := by
  induction l generalizing b with
  | nil => rfl
  | cons i l ih => rw [List.foldl_cons, ih, and252, List.length_set]
theorem clamp1_length (b : List Int) (k : Nat) : (clamp1 b k).length = b.length := fold_and15_length _ _
theorem clamp2_length (b : List Int) (k : Nat) : (clamp2 b k).length = b.length := fold_and252_length _ _
theorem and_u8_range (x y : Int) : 0 ≤ bits .and .u8 x y ∧ bits .and .u8 x y < 256 := by
  unfold bits
  rw [IntKind.wrap_u8]
  omega
theorem fold_and15_ok (l : List Nat) (b : List Int) (h : digOk 256 b) : digOk 256 (l.foldl and15 b) := by
  induction l generalizing b with
  | nil => exact h
  | cons i l ih => exact ih _ (digOk_set h i (and_u8_range _ _))
theorem fold_and252_ok (l : List Nat) (b : List Int) (h : digOk 256 b) : digOk 256 (l.foldl and252 b) := by
  induction l generalizing b with
  | nil => exact h
  | cons i l ih => exact ih _ (digOk_set h i (and_u8_range _ _))
theorem clampP_ok (key : List Int) (h : digOk 256 key) : digOk 256 (clampP key) :=
  fold_and252_ok _ _ (fold_and15_ok _ _ (digOk_append (digOk_take h 16) (fun x hx => by simp at hx; omega)))
theorem clampP_length (key : List Int) (h : key.length = 32) : (clampP key).length = 17 := by rw [clampP, clamp2_length, clamp1_length]; simp [h]
theorem clamp1_succ (b : List Int) (k : Nat) (h : k < 4) : clamp1 b (k + 1) = and15 (clamp1 b k) (4 * k + 3) := by
  have : k = 0 ∨ k = 1 ∨ k = 2 ∨ k = 3 := by omega
  rcases this with rfl | rfl | rfl | rfl <;> rfl
theorem clamp2_succ (b : List Int) (k : Nat) (h : k < 3) : clamp2 b (k + 1) = and252 (clamp2 b k) (4 * k + 4) := by
  have : k = 0 ∨ k = 1 ∨ k = 2 := by omega
  rcases this with rfl | rfl | rfl <;> rfl
theorem idx3_0 : ∀ w : World, (Instr.index 75 (.agg #[.int .i64 3, .int .i64 7, .int .i64 11, .int .i64 15]) (.int .i64 0)).run Try.prog w = .ok (.int .i64 3) w := fun w => by kernel_rfl
theorem idx3_1 : ∀ w : World, (Instr.index 75 (.agg #[.int .i64 3, .int .i64 7, .int .i64 11, .int .i64 15]) (.int .i64 1)).run Try.prog w = .ok (.int .i64 7) w := fun w => by kernel_rfl
theorem idx3_2 : ∀ w : World, (Instr.index 75 (.agg #[.int .i64 3, .int .i64 7, .int .i64 11, .int .i64 15]) (.int .i64 2)).run Try.prog w = .ok (.int .i64 11) w := fun w => by kernel_rfl
theorem idx3_3 : ∀ w : World, (Instr.index 75 (.agg #[.int .i64 3, .int .i64 7, .int .i64 11, .int .i64 15]) (.int .i64 3)).run Try.prog w = .ok (.int .i64 15) w := fun w => by kernel_rfl
theorem idx3 (k : Nat) (h : k < 4) (w : World) : (Instr.index 75 (.agg #[.int .i64 3, .int .i64 7, .int .i64 11, .int .i64 15]) (.int .i64 (k : Int))).run Try.prog w = .ok (.int .i64 ((4 * k + 3 : Nat) : Int)) w := by
  have : k = 0 ∨ k = 1 ∨ k = 2 ∨ k = 3 := by omega
  rcases this with rfl | rfl | rfl | rfl
  · exact idx3_0 w
  · exact idx3_1 w
  · exact idx3_2 w
  · exact idx3_3 w
theorem idx4_0 : ∀ w : World, (Instr.index 93 (.agg #[.int .i64 4, .int .i64 8, .int .i64 12]) (.int .i64 0)).run Try.prog w = .ok (.int .i64 4) w := fun w => by kernel_rfl
theorem idx4_1 : ∀ w : World, (Instr.index 93 (.agg #[.int .i64 4, .int .i64 8, .int .i64 12]) (.int .i64 1)).run Try.prog w = .ok (.int .i64 8) w := fun w => by kernel_rfl
theorem idx4_2 : ∀ w : World, (Instr.index 93 (.agg #[.int .i64 4, .int .i64 8, .int .i64 12]) (.int .i64 2)).run Try.prog w = .ok (.int .i64 12) w := fun w => by kernel_rfl
theorem idx4 (k : Nat) (h : k < 3) (w : World) : (Instr.index 93 (.agg #[.int .i64 4, .int .i64 8, .int .i64 12]) (.int .i64 (k : Int))).run Try.prog w = .ok (.int .i64 ((4 * k + 4 : Nat) : Int)) w := by
  have : k = 0 ∨ k = 1 ∨ k = 2 := by omega
  rcases this with rfl | rfl | rfl
  · exact idx4_0 w
  · exact idx4_1 w
  · exact idx4_2 w
set_option maxRecDepth 100000 in
set_option maxHeartbeats 2000000 in
theorem begin46 (g : Nat) (t : TypeId) (a r s rest : List Int) (many : Nat) (key : List Int) (w : World) (hp : PolyOk a r s rest) (hk : key.length = 32) (hkb : digOk 256 key) (hg : w.heap[g]? = some (cellsO t (polyC a r s rest many))) :
    Calls Try.prog 46 #[.pointer (some ⟨g, 0, none⟩), .agg (nums .u8 key).toArray] w fun e w' => e = .returned (.tuple #[]) ∧ w.grownBy w' (some g) ∧
      w'.heap[g]? = some (cellsO t (polyC a (limbsL (clampP key)) (key.drop 16) rest many)) := by
  have M0 := Mem.start1 hg
  have HL := hid (fun w => limbs57 (clampP key) w (clampP_length key hk) (clampP_ok key hkb))
  have ll := limbsL_length (clampP key)
  obtain ⟨lm, hlm⟩ : ∃ x, x = limbsL (clampP key) := ⟨_, rfl⟩
  rw [← hlm] at HL ll ⊢
  clear hlm hkb
  go_enter Try.func46, Try.ntmps46
  go_wp2_with (first | (apply wpList_bxN 3; (· rfl); (· rfl); (· rfl); (· rfl); (· assumption); intro b3 w' M'; (conv => arg 5; simp only [Act.put, List.setIfInBounds_toArray, List.set_cons_succ, List.set_cons_zero])) | (apply wpList_alN z81 4; (· rfl); (· rfl); (· rfl); (· assumption); intro b4 w' M'; (conv => arg 5; simp only [Act.put, List.setIfInBounds_toArray, List.set_cons_succ, List.set_cons_zero])) | (apply wpList_ldN Try.underlying5; (· rfl); (· rfl); (· rfl); (· rfl); (· assumption); (· (repeat (first | exact List.mem_cons_self | refine List.mem_cons_of_mem _ ?_))); (· (first | with_reducible assumption | omega | (simp only [nums_length, List.length_set, List.length_replicate]; first | with_reducible assumption | omega) | rfl | (simp [*]; done) | (simp [*]; omega))); (conv => arg 5; simp only [Act.put, List.setIfInBounds_toArray, List.set_cons_succ, List.set_cons_zero])) | (apply wpList_stN s5; (· rfl); (· rfl); (· rfl); (· rfl); (· assumption); (· (repeat (first | exact Swap.head | apply Swap.tail))); (· (first | with_reducible assumption | omega | (simp only [nums_length, List.length_set, List.length_replicate]; first | with_reducible assumption | omega) | rfl | (simp [*]; done) | (simp [*]; omega))); intro w' M'; (conv => arg 5; simp only [Act.put, List.setIfInBounds_toArray, List.set_cons_succ, List.set_cons_zero])) | (apply wpList_ldrowN Try.underlying81 s81; (· rfl); (· rfl); (· rfl); (· rfl); (· assumption); (· (repeat (first | exact List.mem_cons_self | refine List.mem_cons_of_mem _ ?_))); (· (first | with_reducible assumption | omega | (simp only [nums_length, List.length_set, List.length_replicate]; first | with_reducible assumption | omega) | rfl | (simp [*]; done) | (simp [*]; omega))); (conv => arg 5; simp only [Act.put, List.setIfInBounds_toArray, List.set_cons_succ, List.set_cons_zero])) | (apply wpList_nc; (· rfl); (· rfl); (· rfl); (conv => arg 5; simp only [Act.put, List.setIfInBounds_toArray, List.set_cons_succ, List.set_cons_zero])) | (apply wpList_strowN s80; (· rfl); (· rfl); (· rfl); (· rfl); (· assumption); (· (repeat (first | exact Swap.head | apply Swap.tail))); (· (first | with_reducible assumption | omega | (simp only [nums_length, List.length_set, List.length_replicate]; first | with_reducible assumption | omega) | rfl | (simp [*]; done) | (simp [*]; omega))); (· (first | with_reducible assumption | omega | (simp only [nums_length, List.length_set, List.length_replicate]; first | with_reducible assumption | omega) | rfl | (simp [*]; done) | (simp [*]; omega))); intro w' M'; (conv => arg 5; simp only [Act.put, List.setIfInBounds_toArray, List.set_cons_succ, List.set_cons_zero])) | (apply wpList_slW Try.underlying49 s5 (by decide); (· rfl); (· rfl); (· rfl); (conv => arg 5; simp only [Act.put, List.setIfInBounds_toArray, List.set_cons_succ, List.set_cons_zero, IntWalk.toNatUp, Nat.add_sub_cancel_left, Nat.add_sub_cancel, Nat.zero_add, Nat.add_zero, Nat.sub_zero])) | (apply wpList_slE Try.underlying23 s5; (· rfl); (· rfl); (· rfl); (· rfl); (· omega); (· omega); (conv => arg 5; simp only [Act.put, List.setIfInBounds_toArray, List.set_cons_succ, List.set_cons_zero, IntWalk.toNatUp, Nat.add_sub_cancel_left, Nat.add_sub_cancel, Nat.zero_add, Nat.add_zero, Nat.sub_zero])))
  refine wp_region_planM [0, 1] [2] [] (by kernel_rfl) (by kernel_rfl) (fun _ _ _ _ _ h => h) M' (fun w1 M1 => ?_)
  iterate 2 (refine wpPure_step rfl rfl rfl (fun w => by go_simp; rfl) ?_)
  refine wpPure_nil ?_
  simp only [pick, List.filterMap_cons, List.filterMap_nil, List.getElem?_toArray, List.getElem?_cons_succ, List.getElem?_cons_zero]
  clear M'
  (conv => arg 5; simp only [Act.put, List.setIfInBounds_toArray, List.set_cons_succ, List.set_cons_zero])
  have e1 : nums .u8 (List.replicate 17 0) = [] ++ nums .u8 (List.replicate 16 0) ++ [.int .u8 0] := rfl
  have e2 : nums .u8 key = [] ++ nums .u8 (key.take 16) ++ nums .u8 (key.drop 16) := by rw [List.nil_append, ← nums_append, List.take_append_drop]
  have e3 : [] ++ nums .u8 (key.take 16) ++ [Value.int .u8 0] = nums .u8 (key.take 16 ++ [0]) := by rw [nums_append]; rfl
  have M2 : Mem w [g] w1 [.blk b4 (cellsO 81 ([] ++ nums .u8 (List.replicate 16 0) ++ [.int .u8 0])), .blk b3 (cellsO 23 ([] ++ nums .u8 (key.take 16) ++ nums .u8 (key.drop 16))), .blk g (cellsO t (polyC a r s rest many))] := by
    rw [← e1, ← e2]; exact M1
  have l16 : (nums .u8 (key.take 16)).length = 16 := by simp [nums_length, hk]
  refine wpList_cp [] (nums .u8 (List.replicate 16 0)) (nums .u8 (key.take 16)) [.int .u8 0] [] (nums .u8 (key.drop 16)) Try.underlying47 s5 rfl rfl rfl rfl M2 Swap.head (List.mem_cons_of_mem _ List.mem_cons_self) rfl rfl (by rw [l16]; rfl) (by rw [l16]; rfl) (nums_one .u8 _) (fun w' M3 => ?_)
  rw [← e2, e3] at M3
  rw [l16]
  clear M1 M2 e1 e2 e3 l16
  obtain ⟨c0, hc0⟩ : ∃ x, x = key.take 16 ++ [0] := ⟨_, rfl⟩
  have lc0 : c0.length = 17 := by rw [hc0]; simp [hk]
  rw [← hc0] at M3
  have HC0 := hid hc0
  clear hc0
  (conv => arg 5; simp only [Act.put, List.setIfInBounds_toArray, List.set_cons_succ, List.set_cons_zero])
  refine Mid.mk ?_
  refine wpStill_nil ?_
  go_wp2_with fail
  go_loopw [13] (fun n wr => ∃ k : Nat, k ≤ 4 ∧ n = .int .i64 k ∧ Mem w [g] wr [.blk b4 (rowO .u8 81 (clamp1 c0 k)), .blk b3 (rowO .u8 23 key), .blk g (cellsO t (polyC a r s rest many))]) (fun n _ => 4 - (intOf n).toNat)
  case atStart => exact ⟨0, by omega, rfl, M3⟩
  case round =>
    obtain ⟨k, hk4, rfl, Mk⟩ := hrel
    clear M3
    by_cases hlt : k < 4
    · have hltI : (k : Int) < 4 := by omega
      have hs := clamp1_succ c0 k hlt
      obtain ⟨z, hz⟩ : ∃ z, z = clamp1 c0 k := ⟨_, rfl⟩
      have lz : z.length = 17 := by rw [hz, clamp1_length, lc0]
      rw [and15, ← hz] at hs
      rw [← hz] at Mk
      have hidx := idx3 k hlt
      obtain ⟨j, hj⟩ : ∃ j, j = 4 * k + 3 := ⟨_, rfl⟩
      rw [← hj] at hs
      simp only [← hj] at hidx
      have HS := hid hs
      have hj17 : j < 17 := by omega
      have hjI : (j : Int) < 17 := by omega
      clear hs hz hj
      go_wp2_with (first | (apply wpList_bxN 3; (· rfl); (· rfl); (· rfl); (· rfl); (· assumption); intro b3 w' M'; (conv => arg 5; simp only [Act.put, List.setIfInBounds_toArray, List.set_cons_succ, List.set_cons_zero])) | (apply wpList_alN z81 4; (· rfl); (· rfl); (· rfl); (· assumption); intro b4 w' M'; (conv => arg 5; simp only [Act.put, List.setIfInBounds_toArray, List.set_cons_succ, List.set_cons_zero])) | (apply wpList_ldN Try.underlying5; (· rfl); (· rfl); (· rfl); (· rfl); (· assumption); (· (repeat (first | exact List.mem_cons_self | refine List.mem_cons_of_mem _ ?_))); (· (first | with_reducible assumption | omega | (simp only [nums_length, List.length_set, List.length_replicate]; first | with_reducible assumption | omega) | rfl | (simp [*]; done) | (simp [*]; omega))); (conv => arg 5; simp only [Act.put, List.setIfInBounds_toArray, List.set_cons_succ, List.set_cons_zero])) | (apply wpList_stN s5; (· rfl); (· rfl); (· rfl); (· rfl); (· assumption); (· (repeat (first | exact Swap.head | apply Swap.tail))); (· (first | with_reducible assumption | omega | (simp only [nums_length, List.length_set, List.length_replicate]; first | with_reducible assumption | omega) | rfl | (simp [*]; done) | (simp [*]; omega))); intro w' M'; (conv => arg 5; simp only [Act.put, List.setIfInBounds_toArray, List.set_cons_succ, List.set_cons_zero])) | (apply wpList_ldrowN Try.underlying81 s81; (· rfl); (· rfl); (· rfl); (· rfl); (· assumption); (· (repeat (first | exact List.mem_cons_self | refine List.mem_cons_of_mem _ ?_))); (· (first | with_reducible assumption | omega | (simp only [nums_length, List.length_set, List.length_replicate]; first | with_reducible assumption | omega) | rfl | (simp [*]; done) | (simp [*]; omega))); (conv => arg 5; simp only [Act.put, List.setIfInBounds_toArray, List.set_cons_succ, List.set_cons_zero])) | (apply wpList_nc; (· rfl); (· rfl); (· rfl); (conv => arg 5; simp only [Act.put, List.setIfInBounds_toArray, List.set_cons_succ, List.set_cons_zero])) | (apply wpList_strowN s80; (· rfl); (· rfl); (· rfl); (· rfl); (· assumption); (· (repeat (first | exact Swap.head | apply Swap.tail))); (· (first | with_reducible assumption | omega | (simp only [nums_length, List.length_set, List.length_replicate]; first | with_reducible assumption | omega) | rfl | (simp [*]; done) | (simp [*]; omega))); (· (first | with_reducible assumption | omega | (simp only [nums_length, List.length_set, List.length_replicate]; first | with_reducible assumption | omega) | rfl | (simp [*]; done) | (simp [*]; omega))); intro w' M'; (conv => arg 5; simp only [Act.put, List.setIfInBounds_toArray, List.set_cons_succ, List.set_cons_zero])) | (apply wpList_slW Try.underlying49 s5 (by decide); (· rfl); (· rfl); (· rfl); (conv => arg 5; simp only [Act.put, List.setIfInBounds_toArray, List.set_cons_succ, List.set_cons_zero, IntWalk.toNatUp, Nat.add_sub_cancel_left, Nat.add_sub_cancel, Nat.zero_add, Nat.add_zero, Nat.sub_zero])) | (apply wpList_slE Try.underlying23 s5; (· rfl); (· rfl); (· rfl); (· rfl); (· omega); (· omega); (conv => arg 5; simp only [Act.put, List.setIfInBounds_toArray, List.set_cons_succ, List.set_cons_zero, IntWalk.toNatUp, Nat.add_sub_cancel_left, Nat.add_sub_cancel, Nat.zero_add, Nat.add_zero, Nat.sub_zero])))
      go_roundw
      case rel => exact ⟨k + 1, by omega, by go_num, by rw [HS.out]; exact M'⟩
      case measure => simp [intOf]; omega
    · obtain rfl : k = 4 := by omega
      rw [show ((4 : Nat) : Int) = 4 from rfl]
      obtain ⟨c1, hc1⟩ : ∃ x, x = clamp1 c0 4 := ⟨_, rfl⟩
      have lc1 : c1.length = 17 := by rw [hc1, clamp1_length, lc0]
      rw [← hc1] at Mk
      have HC1 := hid hc1
      clear hc1
      go_wp2_with fail
      go_loopw [23] (fun n wr => ∃ k : Nat, k ≤ 3 ∧ n = .int .i64 k ∧ Mem w [g] wr [.blk b4 (rowO .u8 81 (clamp2 c1 k)), .blk b3 (rowO .u8 23 key), .blk g (cellsO t (polyC a r s rest many))]) (fun n _ => 3 - (intOf n).toNat)
      case atStart => exact ⟨0, by omega, rfl, Mk⟩
      case round =>
        obtain ⟨k, hk3, rfl, Mk'⟩ := hrel
        clear Mk
        by_cases hlt : k < 3
        · have hltI : (k : Int) < 3 := by omega
          have hs := clamp2_succ c1 k hlt
          obtain ⟨z, hz⟩ : ∃ z, z = clamp2 c1 k := ⟨_, rfl⟩
          have lz : z.length = 17 := by rw [hz, clamp2_length, lc1]
          rw [and252, ← hz] at hs
          rw [← hz] at Mk'
          have hidx := idx4 k hlt
          obtain ⟨j, hj⟩ : ∃ j, j = 4 * k + 4 := ⟨_, rfl⟩
          rw [← hj] at hs
          simp only [← hj] at hidx
          have HS := hid hs
          have hj17 : j < 17 := by omega
          have hjI : (j : Int) < 17 := by omega
          clear hs hz hj
          go_wp2_with (first | (apply wpList_bxN 3; (· rfl); (· rfl); (· rfl); (· rfl); (· assumption); intro b3 w' M'; (conv => arg 5; simp only [Act.put, List.setIfInBounds_toArray, List.set_cons_succ, List.set_cons_zero])) | (apply wpList_alN z81 4; (· rfl); (· rfl); (· rfl); (· assumption); intro b4 w' M'; (conv => arg 5; simp only [Act.put, List.setIfInBounds_toArray, List.set_cons_succ, List.set_cons_zero])) | (apply wpList_ldN Try.underlying5; (· rfl); (· rfl); (· rfl); (· rfl); (· assumption); (· (repeat (first | exact List.mem_cons_self | refine List.mem_cons_of_mem _ ?_))); (· (first | with_reducible assumption | omega | (simp only [nums_length, List.length_set, List.length_replicate]; first | with_reducible assumption | omega) | rfl | (simp [*]; done) | (simp [*]; omega))); (conv => arg 5; simp only [Act.put, List.setIfInBounds_toArray, List.set_cons_succ, List.set_cons_zero])) | (apply wpList_stN s5; (· rfl); (· rfl); (· rfl); (· rfl); (· assumption); (· (repeat (first | exact Swap.head | apply Swap.tail))); (· (first | with_reducible assumption | omega | (simp only [nums_length, List.length_set, List.length_replicate]; first | with_reducible assumption | omega) | rfl | (simp [*]; done) | (simp [*]; omega))); intro w' M'; (conv => arg 5; simp only [Act.put, List.setIfInBounds_toArray, List.set_cons_succ, List.set_cons_zero])) | (apply wpList_ldrowN Try.underlying81 s81; (· rfl); (· rfl); (· rfl); (· rfl); (· assumption); (· (repeat (first | exact List.mem_cons_self | refine List.mem_cons_of_mem _ ?_))); (· (first | with_reducible assumption | omega | (simp only [nums_length, List.length_set, List.length_replicate]; first | with_reducible assumption | omega) | rfl | (simp [*]; done) | (simp [*]; omega))); (conv => arg 5; simp only [Act.put, List.setIfInBounds_toArray, List.set_cons_succ, List.set_cons_zero])) | (apply wpList_nc; (· rfl); (· rfl); (· rfl); (conv => arg 5; simp only [Act.put, List.setIfInBounds_toArray, List.set_cons_succ, List.set_cons_zero])) | (apply wpList_strowN s80; (· rfl); (· rfl); (· rfl); (· rfl); (· assumption); (· (repeat (first | exact Swap.head | apply Swap.tail))); (· (first | with_reducible assumption | omega | (simp only [nums_length, List.length_set, List.length_replicate]; first | with_reducible assumption | omega) | rfl | (simp [*]; done) | (simp [*]; omega))); (· (first | with_reducible assumption | omega | (simp only [nums_length, List.length_set, List.length_replicate]; first | with_reducible assumption | omega) | rfl | (simp [*]; done) | (simp [*]; omega))); intro w' M'; (conv => arg 5; simp only [Act.put, List.setIfInBounds_toArray, List.set_cons_succ, List.set_cons_zero])) | (apply wpList_slW Try.underlying49 s5 (by decide); (· rfl); (· rfl); (· rfl); (conv => arg 5; simp only [Act.put, List.setIfInBounds_toArray, List.set_cons_succ, List.set_cons_zero, IntWalk.toNatUp, Nat.add_sub_cancel_left, Nat.add_sub_cancel, Nat.zero_add, Nat.add_zero, Nat.sub_zero])) | (apply wpList_slE Try.underlying23 s5; (· rfl); (· rfl); (· rfl); (· rfl); (· omega); (· omega); (conv => arg 5; simp only [Act.put, List.setIfInBounds_toArray, List.set_cons_succ, List.set_cons_zero, IntWalk.toNatUp, Nat.add_sub_cancel_left, Nat.add_sub_cancel, Nat.zero_add, Nat.add_zero, Nat.sub_zero])))
          go_roundw
          case rel => exact ⟨k + 1, by omega, by go_num, by rw [HS.out]; exact M'⟩
          case measure => simp [intOf]; omega
        · obtain rfl : k = 3 := by omega
          rw [show ((3 : Nat) : Int) = 3 from rfl]
          have hcl : clamp2 c1 3 = clampP key := by rw [HC1.out, HC0.out]; rfl
          rw [hcl] at Mk'
          have lcl := clampP_length key hk
          obtain ⟨cp, hcp⟩ : ∃ x, x = clampP key := ⟨_, rfl⟩
          rw [← hcp] at Mk' lcl HL
          clear hcl hcp
          have hp' := hp
          obtain ⟨h1, h2, h3, h4⟩ := hp'
          go_wp2_with (first | (go_at_call 57; refine (HL.out _).mono ?_; rintro e w' ⟨rfl, hb⟩; replace Mk' := Mk'.call hb) | (apply wpList_stmid (nums .u64 a) (nums .u64 r) (nums .u64 lm) (nums .u8 s ++ (nums .u8 rest ++ [.int .i64 many])) s80; (· rfl); (· rfl); (· rfl); (· rfl); (· exact Mk'); (· rw [← polyC_r, ← polyC_r]; exact Swap.tail (Swap.tail Swap.head)); (· rw [nums_length, h1]); (· rw [nums_length]; exact h2); (· rw [nums_length]; exact ll); (· exact nums_one .u64 _); intro w' M5) | (apply wpList_bxN 3; (· rfl); (· rfl); (· rfl); (· rfl); (· assumption); intro b3 w' M'; (conv => arg 5; simp only [Act.put, List.setIfInBounds_toArray, List.set_cons_succ, List.set_cons_zero])) | (apply wpList_alN z81 4; (· rfl); (· rfl); (· rfl); (· assumption); intro b4 w' M'; (conv => arg 5; simp only [Act.put, List.setIfInBounds_toArray, List.set_cons_succ, List.set_cons_zero])) | (apply wpList_ldN Try.underlying5; (· rfl); (· rfl); (· rfl); (· rfl); (· assumption); (· (repeat (first | exact List.mem_cons_self | refine List.mem_cons_of_mem _ ?_))); (· (first | with_reducible assumption | omega | (simp only [nums_length, List.length_set, List.length_replicate]; first | with_reducible assumption | omega) | rfl | (simp [*]; done) | (simp [*]; omega))); (conv => arg 5; simp only [Act.put, List.setIfInBounds_toArray, List.set_cons_succ, List.set_cons_zero])) | (apply wpList_stN s5; (· rfl); (· rfl); (· rfl); (· rfl); (· assumption); (· (repeat (first | exact Swap.head | apply Swap.tail))); (· (first | with_reducible assumption | omega | (simp only [nums_length, List.length_set, List.length_replicate]; first | with_reducible assumption | omega) | rfl | (simp [*]; done) | (simp [*]; omega))); intro w' M'; (conv => arg 5; simp only [Act.put, List.setIfInBounds_toArray, List.set_cons_succ, List.set_cons_zero])) | (apply wpList_ldrowN Try.underlying81 s81; (· rfl); (· rfl); (· rfl); (· rfl); (· assumption); (· (repeat (first | exact List.mem_cons_self | refine List.mem_cons_of_mem _ ?_))); (· (first | with_reducible assumption | omega | (simp only [nums_length, List.length_set, List.length_replicate]; first | with_reducible assumption | omega) | rfl | (simp [*]; done) | (simp [*]; omega))); (conv => arg 5; simp only [Act.put, List.setIfInBounds_toArray, List.set_cons_succ, List.set_cons_zero])) | (apply wpList_nc; (· rfl); (· rfl); (· rfl); (conv => arg 5; simp only [Act.put, List.setIfInBounds_toArray, List.set_cons_succ, List.set_cons_zero])) | (apply wpList_strowN s80; (· rfl); (· rfl); (· rfl); (· rfl); (· assumption); (· (repeat (first | exact Swap.head | apply Swap.tail))); (· (first | with_reducible assumption | omega | (simp only [nums_length, List.length_set, List.length_replicate]; first | with_reducible assumption | omega) | rfl | (simp [*]; done) | (simp [*]; omega))); (· (first | with_reducible assumption | omega | (simp only [nums_length, List.length_set, List.length_replicate]; first | with_reducible assumption | omega) | rfl | (simp [*]; done) | (simp [*]; omega))); intro w' M'; (conv => arg 5; simp only [Act.put, List.setIfInBounds_toArray, List.set_cons_succ, List.set_cons_zero])) | (apply wpList_slW Try.underlying49 s5 (by decide); (· rfl); (· rfl); (· rfl); (conv => arg 5; simp only [Act.put, List.setIfInBounds_toArray, List.set_cons_succ, List.set_cons_zero, IntWalk.toNatUp, Nat.add_sub_cancel_left, Nat.add_sub_cancel, Nat.zero_add, Nat.add_zero, Nat.sub_zero])) | (apply wpList_slE Try.underlying23 s5; (· rfl); (· rfl); (· rfl); (· rfl); (· omega); (· omega); (conv => arg 5; simp only [Act.put, List.setIfInBounds_toArray, List.set_cons_succ, List.set_cons_zero, IntWalk.toNatUp, Nat.add_sub_cancel_left, Nat.add_sub_cancel, Nat.zero_add, Nat.add_zero, Nat.sub_zero])))
          clear Mk'
          refine wp_region_planM [0, 1, 2, 3, 4] [5] [] (by kernel_rfl) (by kernel_rfl) (fun _ _ _ _ _ h => h) M5 (fun w1 M1 => ?_)
          iterate 5 (refine wpPure_step rfl rfl rfl (fun w => by go_simp; rfl) ?_)
          refine wpPure_nil ?_
          simp only [pick, List.filterMap_cons, List.filterMap_nil, List.getElem?_toArray, List.getElem?_cons_succ, List.getElem?_cons_zero]
          clear M5
          (conv => arg 5; simp only [Act.put, List.setIfInBounds_toArray, List.set_cons_succ, List.set_cons_zero])
          have e2 : nums .u8 key = nums .u8 (key.take 16) ++ nums .u8 (key.drop 16) ++ [] := by rw [List.append_nil, ← nums_append, List.take_append_drop]
          have M2 : Mem w [g] w1 [.blk b4 (rowO .u8 81 cp), .blk b3 (cellsO 23 (nums .u8 (key.take 16) ++ nums .u8 (key.drop 16) ++ [])), .blk g (cellsO t ((nums .u64 a ++ nums .u64 lm) ++ nums .u8 s ++ (nums .u8 rest ++ [.int .i64 many])))] := by
            rw [← e2, ← polyC_s]; exact M1
          have l16 : (nums .u8 (key.drop 16)).length = 16 := by simp [nums_length, hk]
          refine wpList_cp (nums .u64 a ++ nums .u64 lm) (nums .u8 s) (nums .u8 (key.drop 16)) (nums .u8 rest ++ [.int .i64 many]) (nums .u8 (key.take 16)) [] Try.underlying47 s5 rfl rfl rfl rfl M2 (Swap.tail (Swap.tail Swap.head)) (List.mem_cons_of_mem _ List.mem_cons_self) (by simp [nums_length, h1, ll]) (by simp [nums_length, hk]) (by rw [l16, nums_length, h3]) (by rw [l16]; rfl) (nums_one .u8 _) (fun w' M3 => ?_)
          rw [← polyC_s] at M3
          clear M1 M2 e2
          refine Mid.mk ?_
          refine wpStill_nil ?_
          go_wp2_with fail
          go_end0
          exact ⟨rfl, M3.grown1, M3.holds _ (List.mem_cons_of_mem _ (List.mem_cons_of_mem _ List.mem_cons_self))⟩
end Go.Proofs.Ytcjfpcajjhccaaa
