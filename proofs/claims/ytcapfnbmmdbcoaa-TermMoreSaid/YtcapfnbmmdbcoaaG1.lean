/- A play: two tables and the keys that were made; a key that was made. -/
import Derived.Test.YtcapfnbmmdbcoaaSF
set_option linter.unusedVariables false
set_option linter.unusedSimpArgs false
namespace Go.Proofs.Ytcapfnbmmdbcoaa
open Go.RowKit
/-- A step of a play (caballaw08.Step). -/
structure Sp where
  kind : Int
  at_ : Int
  text : ByteArray
  raw : List Int
  keys : List Int
def spCells (c : Sp) (I : Option Addr) (ic : Nat) : List Value := [.int .i64 c.kind, .int .i64 c.at_, .string c.text] ++ nums .u8 c.raw ++ [.slice I c.keys.length ic]
theorem sz66 {c : Sp} {I : Option Addr} {ic : Nat} (h : KeyOk c.raw) : (Try.prog.info? 66).map (·.size) = some (spCells c I ic).length := by
  rw [spCells, List.length_append, List.length_append, nums_length, h.1]
  kernel_rfl
theorem sp_keys {c : Sp} {I : Option Addr} {ic : Nat} (h : KeyOk c.raw) : (spCells c I ic)[35]? = some (.slice I c.keys.length ic) := by
  rw [spCells, List.getElem?_append_right (by rw [List.length_append, nums_length, h.1]; exact Nat.le_refl 35), List.length_append, nums_length, h.1]
  rfl
theorem sp_raw {c : Sp} {I : Option Addr} {ic : Nat} {j : Nat} {v : Value} (hv : (nums .u8 c.raw)[j]? = some v) : (spCells c I ic)[3 + j]? = some v := by
  have hj := (List.getElem?_eq_some_iff.1 hv).1
  rw [spCells, List.getElem?_append_left (by rw [List.length_append]; simp only [List.length_cons, List.length_nil]; omega), List.getElem?_append_right (by simp only [List.length_cons, List.length_nil]; omega)]
  simpa using hv
/-- The play p: its tables g and m, the keys that were made. -/
structure PlayP (K : Nat → Prop) (w : World) (p g m : Nat) (A : Option Addr) (c : Nat) (keys : List (List Int)) : Prop where
  hp : w.heap[p]? = some (cellsO 70 [.pointer (some ⟨g, 0, none⟩), .pointer (some ⟨m, 0, none⟩), .slice A keys.length c])
  row : w.ownsRow 0 26 32 (.slice A keys.length c) keys.length (nums .u8 keys.flatten)
  ok : ∀ k ∈ keys, KeyOk k
  kp : K p
  kA : ∀ b ∈ blkA A, K b
def playR (p g m : Nat) (keys : List (List Int)) : Res := fun K w => ∃ A c, PlayP K w p g m A c keys
theorem PlayP.keep {K : Nat → Prop} {w w' : World} {p g m c : Nat} {A : Option Addr} {keys : List (List Int)} (h : PlayP K w p g m A c keys) (hk : Stays K w w') : PlayP K w' p g m A c keys :=
  ⟨by rw [hk p h.kp (Array.getElem?_eq_some_iff.1 h.hp).1, h.hp], own_keep h.row hk h.kA, h.ok, h.kp, h.kA⟩
theorem playR_ok (p g m : Nat) (keys : List (List Int)) : Ok (playR p g m keys) := ⟨fun ⟨A, c, T⟩ hs => ⟨A, c, T.keep hs⟩⟩
theorem PlayP.ne {K : Nat → Prop} {w : World} {p g m c : Nat} {A : Option Addr} {keys : List (List Int)} (h : PlayP K w p g m A c keys) : p ∉ blkA A := fun hin => by
  obtain ⟨arr, mm, hh⟩ := own_type h.row p hin
  rw [h.hp] at hh
  injection hh with hh
  injection hh with _ hh _
  exact absurd hh (by decide)
theorem PlayP.cells {K : Nat → Prop} {w : World} {p g m c : Nat} {A : Option Addr} {keys : List (List Int)} (h : PlayP K w p g m A c keys) :
    w.cell? ⟨p, 0, none⟩ = some (.pointer (some ⟨g, 0, none⟩)) ∧ w.cell? ⟨p, 1, none⟩ = some (.pointer (some ⟨m, 0, none⟩)) ∧ w.cell? ⟨p, 2, none⟩ = some (.slice A keys.length c) :=
  ⟨by rw [cell_of_row w p 0 _ 70 (0, 0) h.hp]; rfl, by rw [cell_of_row w p 1 _ 70 (0, 0) h.hp]; rfl, by rw [cell_of_row w p 2 _ 70 (0, 0) h.hp]; rfl⟩
/-- The play's blocks as items. -/
theorem PlayP.items {K : Nat → Prop} {w : World} {p g m c : Nat} {A : Option Addr} {keys : List (List Int)} (h : PlayP K w p g m A c keys) :
    Mem w (p :: blkA A) w [.blk p (cellsO 70 [.pointer (some ⟨g, 0, none⟩), .pointer (some ⟨m, 0, none⟩), .slice A keys.length c]), .vec A keys.length c 26 32 (nums .u8 keys.flatten)] := by
  refine ⟨rfl, rfl, rfl, Nat.le_refl _, fun _ _ _ => rfl, ?_, ?_, ?_⟩
  · intro x hx
    simp only [List.mem_cons, List.not_mem_nil, or_false] at hx
    rcases hx with rfl | rfl
    · exact h.hp
    · exact h.row
  · intro x hx b hb
    simp only [List.mem_cons, List.not_mem_nil, or_false] at hx
    rcases hx with rfl | rfl
    · simp only [Item.block, Option.some.injEq] at hb
      left; simp [hb]
    · left; simp [vec_block hb]
  · refine List.pairwise_cons.2 ⟨fun y hy b hb e => ?_, by simp⟩
    rw [List.mem_singleton] at hy
    subst hy
    simp only [Item.block, Option.some.injEq] at hb
    subst hb
    exact h.ne (vec_block e)
theorem PlayP.rowT {K : Nat → Prop} {w : World} {p g m c : Nat} {A : Option Addr} {keys : List (List Int)} (h : PlayP K w p g m A c keys) : RowT w 26 A (nums .u8 keys.flatten) := h.items.vecT (List.mem_cons_of_mem _ List.mem_cons_self)
/-! ### A key that was made -/
def atI (n : Int) (l : Nat) : Nat := ((n % 18446744073709551616) % (l : Int)).toNat
def atK (keys : List (List Int)) (n : Int) : List Int := keys.getD (atI n keys.length) []
theorem atI_lt {n : Int} {l : Nat} (h : 1 ≤ l) : atI n l < l := by
  unfold atI
  have h1 := Int.emod_lt_of_pos (n % 18446744073709551616) (show (0 : Int) < (l : Int) by omega)
  have h2 := Int.emod_nonneg (n % 18446744073709551616) (show (l : Int) ≠ 0 by omega)
  omega
theorem atK_at {keys : List (List Int)} (h : 1 ≤ keys.length) (n : Int) : keys[atI n keys.length]? = some (atK keys n) := by
  rw [atK, List.getD_eq_getElem?_getD, List.getElem?_eq_getElem (atI_lt h)]
  rfl
theorem atK_ok {keys : List (List Int)} (h : 1 ≤ keys.length) (hk : ∀ k ∈ keys, KeyOk k) (n : Int) : KeyOk (atK keys n) := hk _ (List.mem_of_getElem? (atK_at h n))
theorem wrap_u64 (n : Int) : IntKind.u64.wrap n = n % 18446744073709551616 := by simp [IntKind.wrap, IntKind.signed, IntKind.bits]
theorem wrap_len {l : Nat} (h : l ≤ 1000000) : IntKind.u64.wrap (l : Int) = l := by rw [wrap_u64]; omega
theorem wrap_i64n {j : Nat} (h : j ≤ 1000000) : IntKind.i64.wrap (j : Int) = j := by simp [IntKind.wrap, IntKind.signed, IntKind.bits]; omega
theorem at_mod (n : Int) {l : Nat} (h : 1 ≤ l) : (n % 18446744073709551616).tmod (l : Int) = (atI n l : Nat) := by
  have h0 : 0 ≤ n % 18446744073709551616 := by omega
  unfold atI
  rw [Int.tmod_eq_emod_of_nonneg h0]
  have h2 := Int.emod_nonneg (n % 18446744073709551616) (show (l : Int) ≠ 0 by omega)
  omega
set_option maxRecDepth 100000 in
set_option maxHeartbeats 4000000 in
theorem at31 {K : Nat → Prop} {w : World} {p g m : Nat} {keys : List (List Int)} (h : playR p g m keys K w) (h1 : 1 ≤ keys.length) (hl : keys.length ≤ 100000) (n : Int) :
    Calls Try.prog 31 #[.pointer (some ⟨p, 0, none⟩), .int .i64 n] w (KeyR (atK keys n) w) := by
  obtain ⟨A, c, T⟩ := h
  have M0 := Mem.start w
  have HT := hid T
  have HK := hid (atK_ok h1 T.ok n)
  obtain ⟨b, o, hA, hc⟩ := keys_at T.ok T.rowT (atK_at h1 n)
  subst hA
  have HC := hid hc
  have hi := atI_lt (n := n) h1
  have HW := hid (wrap_u64 n)
  have HL := hid (wrap_len (l := keys.length) (by omega))
  have HM := hid (at_mod n h1)
  have hw0 : 0 ≤ n % 18446744073709551616 := by omega
  obtain ⟨j, hj⟩ : ∃ j, j = atI n keys.length := ⟨_, rfl⟩
  rw [← hj] at HC hi HM
  obtain ⟨u, hu⟩ : ∃ u, u = n % 18446744073709551616 := ⟨_, rfl⟩
  rw [← hu] at HW HM hw0
  obtain ⟨key, hkey⟩ : ∃ k, k = atK keys n := ⟨_, rfl⟩
  rw [← hkey] at HC HK ⊢
  have hne : ¬ keys = [] := fun e => by rw [e] at h1; simp at h1
  clear T hc hj hu hkey
  go_enter Try.func31, Try.ntmps31
  go_wp2_with (refine wpList_alN z26 4 rfl rfl rfl M0 (fun b4 w1 M1 => ?_); clear M0; (conv => arg 5; simp only [Act.put, List.setIfInBounds_toArray, List.set_cons_succ, List.set_cons_zero]))
  refine wp_region_planS (fun w' => (w'.cell? ⟨p, 2, none⟩ = some (.slice (some ⟨b, o, none⟩) keys.length c)) ∧ ∀ (i : Nat) (v : Value), (nums .u8 key)[i]? = some v → w'.cell? ⟨b, o + j * 32 + i, none⟩ = some v) (.free 0 (.free 1 (.free 2 (.free 3 (.free 4 (.free 5 (.free 6 (.free 7 (.free 8 (.free 9 (.free 10 (.free 11 (.free 12 (.free 13 (.free 14 (.free 15 (.one 16 (.done)))))))))))))))))) (by kernel_rfl) (by kernel_rfl) (fun _ _ _ _ _ h => h) ?_
  intro w2 hb
  have M := (M1.call hb)
  clear M1
  (refine wpT_free rfl rfl (.inl ⟨rfl, fun w _ => by go_simp; rfl⟩) (by exact ⟨M.cell0 HT.out.cells.2.2, M.cells0 HC.out⟩) ?_; (conv => arg 6; simp only [Act.put, List.setIfInBounds_toArray, List.set_cons_succ, List.set_cons_zero]))
  (refine wpT_free rfl rfl (.inl ⟨rfl, fun w _ => by go_simp; rfl⟩) (by exact ⟨M.cell0 HT.out.cells.2.2, M.cells0 HC.out⟩) ?_; (conv => arg 6; simp only [Act.put, List.setIfInBounds_toArray, List.set_cons_succ, List.set_cons_zero]))
  (refine wpT_free rfl rfl (.inl ⟨rfl, fun w _ => by go_simp; rfl⟩) (by exact ⟨M.cell0 HT.out.cells.2.2, M.cells0 HC.out⟩) ?_; (conv => arg 6; simp only [Act.put, List.setIfInBounds_toArray, List.set_cons_succ, List.set_cons_zero]))
  (refine wpT_free rfl rfl (.inl ⟨rfl, fun w hw => run_ld1 Try.underlying34 rfl rfl rfl hw.1⟩) (by exact ⟨M.cell0 HT.out.cells.2.2, M.cells0 HC.out⟩) ?_; (conv => arg 6; simp only [Act.put, List.setIfInBounds_toArray, List.set_cons_succ, List.set_cons_zero]))
  (refine wpT_free rfl rfl (.inl ⟨rfl, fun w _ => by go_simp; rfl⟩) (by exact ⟨M.cell0 HT.out.cells.2.2, M.cells0 HC.out⟩) ?_; (conv => arg 6; simp only [Act.put, List.setIfInBounds_toArray, List.set_cons_succ, List.set_cons_zero]))
  (refine wpT_free (v := .int .u64 u) rfl rfl (.inl ⟨rfl, fun w _ => by have := HW.out; go_simp⟩) (by exact ⟨M.cell0 HT.out.cells.2.2, M.cells0 HC.out⟩) ?_; (conv => arg 6; simp only [Act.put, List.setIfInBounds_toArray, List.set_cons_succ, List.set_cons_zero]))
  (refine wpT_free rfl rfl (.inl ⟨rfl, fun w _ => by go_simp; rfl⟩) (by exact ⟨M.cell0 HT.out.cells.2.2, M.cells0 HC.out⟩) ?_; (conv => arg 6; simp only [Act.put, List.setIfInBounds_toArray, List.set_cons_succ, List.set_cons_zero]))
  (refine wpT_free rfl rfl (.inl ⟨rfl, fun w _ => by go_simp; rfl⟩) (by exact ⟨M.cell0 HT.out.cells.2.2, M.cells0 HC.out⟩) ?_; (conv => arg 6; simp only [Act.put, List.setIfInBounds_toArray, List.set_cons_succ, List.set_cons_zero]))
  (refine wpT_free rfl rfl (.inl ⟨rfl, fun w _ => by go_simp; rfl⟩) (by exact ⟨M.cell0 HT.out.cells.2.2, M.cells0 HC.out⟩) ?_; (conv => arg 6; simp only [Act.put, List.setIfInBounds_toArray, List.set_cons_succ, List.set_cons_zero]))
  (refine wpT_free rfl rfl (.inl ⟨rfl, fun w hw => run_ld1 Try.underlying34 rfl rfl rfl hw.1⟩) (by exact ⟨M.cell0 HT.out.cells.2.2, M.cells0 HC.out⟩) ?_; (conv => arg 6; simp only [Act.put, List.setIfInBounds_toArray, List.set_cons_succ, List.set_cons_zero]))
  (refine wpT_free rfl rfl (.inl ⟨rfl, fun w _ => by go_simp; rfl⟩) (by exact ⟨M.cell0 HT.out.cells.2.2, M.cells0 HC.out⟩) ?_; (conv => arg 6; simp only [Act.put, List.setIfInBounds_toArray, List.set_cons_succ, List.set_cons_zero]))
  (refine wpT_free (v := .int .u64 keys.length) rfl rfl (.inl ⟨rfl, fun w _ => by have := HL.out; go_simp⟩) (by exact ⟨M.cell0 HT.out.cells.2.2, M.cells0 HC.out⟩) ?_; (conv => arg 6; simp only [Act.put, List.setIfInBounds_toArray, List.set_cons_succ, List.set_cons_zero]))
  (refine wpT_free (v := .int .u64 (j : Nat)) rfl rfl (.inl ⟨rfl, fun w _ => by have := HM.out; go_simp⟩) (by exact ⟨M.cell0 HT.out.cells.2.2, M.cells0 HC.out⟩) ?_; (conv => arg 6; simp only [Act.put, List.setIfInBounds_toArray, List.set_cons_succ, List.set_cons_zero]))
  (refine wpT_free (v := .int .i64 (j : Nat)) rfl rfl (.inl ⟨rfl, fun w _ => by go_simp; exact wrap_i64n (by omega)⟩) (by exact ⟨M.cell0 HT.out.cells.2.2, M.cells0 HC.out⟩) ?_; (conv => arg 6; simp only [Act.put, List.setIfInBounds_toArray, List.set_cons_succ, List.set_cons_zero]))
  (refine wpT_free (v := .pointer (some ⟨b, o + j * 32, none⟩)) rfl rfl (.inl ⟨rfl, fun w _ => by go_simp⟩) (by exact ⟨M.cell0 HT.out.cells.2.2, M.cells0 HC.out⟩) ?_; (conv => arg 6; simp only [Act.put, List.setIfInBounds_toArray, List.set_cons_succ, List.set_cons_zero]))
  (refine wpT_free rfl rfl (.inl ⟨rfl, fun w hw => run_ldK Try.underlying26 rfl rfl rfl hw.2 (s26k HK.out)⟩) (by exact ⟨M.cell0 HT.out.cells.2.2, M.cells0 HC.out⟩) ?_; (conv => arg 6; simp only [Act.put, List.setIfInBounds_toArray, List.set_cons_succ, List.set_cons_zero]))
  refine wpT_op rfl ?_
  go_wp2_with (refine wpList_strowN (ys := key) s26 rfl rfl rfl rfl M Swap.head (by simp) HK.out.1 (fun w3 M3 => ?_); clear M; rename Mem _ _ _ _ => M; (try (conv => arg 5; simp only [Act.put, List.setIfInBounds_toArray, List.set_cons_succ, List.set_cons_zero])))
  refine PlanTQ.mk (by exact ⟨M.cell0 HT.out.cells.2.2, M.cells0 HC.out⟩) ?_
  refine wpT_done ?_
  go_wp2_with fail
  (try simp only [Exit.inBlock, Exit.then])
  refine ret_rowN Try.underlying26 s26 rfl rfl rfl rfl M List.mem_cons_self HK.out.1 ?_
  exact ⟨rfl, M.sub (List.nil_sublist _)⟩
end Go.Proofs.Ytcapfnbmmdbcoaa
