/- Walks of the onetime layer, fourth part: a tag under way as a block; take. -/
import Derived.Test.YtcjfpcajjhccaaaP5
set_option linter.unusedVariables false
set_option linter.unusedSimpArgs false
namespace Go.Proofs.Ytcjfpcajjhccaaa
open Go.RowKit
/-- The cells of a tag under way. -/
def polyC (a r s rest : List Int) (many : Nat) : List Value := nums .u64 a ++ (nums .u64 r ++ (nums .u8 s ++ (nums .u8 rest ++ [.int .i64 many])))
theorem polyC_r (a r s rest : List Int) (many : Nat) : polyC a r s rest many = nums .u64 a ++ nums .u64 r ++ (nums .u8 s ++ (nums .u8 rest ++ [.int .i64 many])) := by simp [polyC]
theorem polyC_s (a r s rest : List Int) (many : Nat) : polyC a r s rest many = (nums .u64 a ++ nums .u64 r) ++ nums .u8 s ++ (nums .u8 rest ++ [.int .i64 many]) := by simp [polyC]
theorem polyC_rest (a r s rest : List Int) (many : Nat) : polyC a r s rest many = (nums .u64 a ++ nums .u64 r ++ nums .u8 s) ++ nums .u8 rest ++ [.int .i64 many] := by simp [polyC]
theorem polyC_many (a r s rest : List Int) (many : Nat) : polyC a r s rest many = (nums .u64 a ++ nums .u64 r ++ nums .u8 s ++ nums .u8 rest) ++ nums .i64 [(many : Int)] ++ [] := by simp [polyC, nums]
theorem polyC_length (a r s rest : List Int) (many : Nat) (ha : a.length = 5) (hr : r.length = 5) (hs : s.length = 16) (ht : rest.length = 17) : (polyC a r s rest many).length = 44 := by simp [polyC, nums_length, ha, hr, hs, ht]
def PolyOk (a r s rest : List Int) : Prop := a.length = 5 ∧ r.length = 5 ∧ s.length = 16 ∧ rest.length = 17
section
variable {w w0 : World} {E : List Nat} {L L' : List Item} {g : Nat} {t : TypeId} {a r s rest : List Int} {many : Nat}
theorem Mem.polyA (M : Mem w0 E w L) (hin : .blk g (cellsO t (polyC a r s rest many)) ∈ L) (h : PolyOk a r s rest) {i : Nat} (hi : i < 5) : w.cell? ⟨g, i, none⟩ = some (.int .u64 (rd a i)) := M.cellH hin (by have := h.1; omega)
theorem Mem.polyR (M : Mem w0 E w L) (hin : .blk g (cellsO t (polyC a r s rest many)) ∈ L) (h : PolyOk a r s rest) {i : Nat} (hi : i < 5) : w.cell? ⟨g, 5 + i, none⟩ = some (.int .u64 (rd r i)) := by
  obtain ⟨h1, h2, h3, h4⟩ := h
  rw [polyC_r] at hin
  exact M.cell hin (nums_at _ _ _ _ _ i (by rw [nums_length, h1]) (by omega))
theorem Mem.polyS (M : Mem w0 E w L) (hin : .blk g (cellsO t (polyC a r s rest many)) ∈ L) (h : PolyOk a r s rest) {i : Nat} (hi : i < 16) : w.cell? ⟨g, 10 + i, none⟩ = some (.int .u8 (rd s i)) := by
  obtain ⟨h1, h2, h3, h4⟩ := h
  rw [polyC_s] at hin
  exact M.cell hin (nums_at _ _ _ _ _ i (by simp [nums_length, h1, h2]) (by omega))
theorem Mem.polyT (M : Mem w0 E w L) (hin : .blk g (cellsO t (polyC a r s rest many)) ∈ L) (h : PolyOk a r s rest) {i : Nat} (hi : i < 17) : w.cell? ⟨g, 26 + i, none⟩ = some (.int .u8 (rd rest i)) := by
  obtain ⟨h1, h2, h3, h4⟩ := h
  rw [polyC_rest] at hin
  exact M.cell hin (nums_at _ _ _ _ _ i (by simp [nums_length, h1, h2, h3]) (by omega))
theorem Mem.polyN (M : Mem w0 E w L) (hin : .blk g (cellsO t (polyC a r s rest many)) ∈ L) (h : PolyOk a r s rest) : w.cell? ⟨g, 43, none⟩ = some (.int .i64 many) := by
  obtain ⟨h1, h2, h3, h4⟩ := h
  rw [polyC_many] at hin
  exact M.cell hin (nums_at _ _ _ _ _ 0 (by simp [nums_length, h1, h2, h3, h4]) (by simp))
end
section
variable {P : Program} {ops : Array Oper} {rest' : List Oper} {o : Oper} {ac : Act} {w w0 : World} {Q : Exit → Act → World → Prop} {E : List Nat} {L L' : List Item} {g : Nat} {t : TypeId} {a r s rest : List Int} {many : Nat}
/-- A byte of what is in rest is written. -/
theorem wpList_stT {ty : TypeId} (hsz : (P.info? ty).map (·.size) = some 1) (hgd : o.guard = none) {x y : Operand} (ho : o.op = .store ty x y) {i : Nat} (hx : ac.eval x = .pointer (some ⟨g, 26 + i, none⟩))
    {v : Int} (hy : ac.eval y = .int .u8 v) (M : Mem w0 E w L) (hs : Swap (.blk g (cellsO t (polyC a r s rest many))) (.blk g (cellsO t (polyC a r s (rest.set i v) many))) L L') (hp : PolyOk a r s rest) (hi : i < 17)
    (h : ∀ w', Mem w0 E w' L' → wpList P ops Q rest' (ac.put o.dst undef) w') : wpList P ops Q (o :: rest') ac w := by
  obtain ⟨h1, h2, h3, h4⟩ := hp
  rw [polyC_rest, polyC_rest] at hs
  exact wpList_stX hsz hgd ho hx hy M hs (by simp [nums_length, h1, h2, h3]) (by omega) h
/-- How many are in rest is written. -/
theorem wpList_stM' (v : Nat) {ty : TypeId} (hsz : (P.info? ty).map (·.size) = some 1) (hgd : o.guard = none) {x y : Operand} (ho : o.op = .store ty x y) (hx : ac.eval x = .pointer (some ⟨g, 43, none⟩))
    (hy : ac.eval y = .int .i64 v) (M : Mem w0 E w L) (hs : Swap (.blk g (cellsO t (polyC a r s rest many))) (.blk g (cellsO t (polyC a r s rest v))) L L') (hp : PolyOk a r s rest)
    (h : ∀ w', Mem w0 E w' L' → wpList P ops Q rest' (ac.put o.dst undef) w') : wpList P ops Q (o :: rest') ac w := by
  obtain ⟨h1, h2, h3, h4⟩ := hp
  rw [polyC_many, polyC_many] at hs
  exact wpList_stX (i := 0) hsz hgd ho hx hy M hs (by simp [nums_length, h1, h2, h3, h4]) (by simp) h
end
theorem addM (g : Nat) (t : TypeId) (xs m : List Int) (X : List Value) (w : World) (hl : xs.length = 5) (hm : m.length = 5) {w0 : World} {E : List Nat} {L L' : List Item} (M : Mem w0 E w L)
    (hs : Swap (.blk g (cellsO t (nums .u64 xs ++ X))) (.blk g (cellsO t (nums .u64 (addTo xs m 5) ++ X))) L L') :
    Calls Try.prog 58 #[.pointer (some ⟨g, 0, none⟩), .agg (nums .u64 m).toArray] w fun e w' => e = .returned (.tuple #[]) ∧ Mem w0 E w' L' :=
  (add58 g t xs m X w hl hm (M.holds _ hs.mem)).mono fun e w' ⟨he, hg, hh⟩ => ⟨he, M.swap hs hg (.inr rfl) hh (fun b hb => .inl hb)⟩
theorem timesM (g : Nat) (t : TypeId) (xs m : List Int) (X : List Value) (w : World) (hl : xs.length = 5) (hm : m.length = 5) {w0 : World} {E : List Nat} {L L' : List Item} (M : Mem w0 E w L)
    (hs : Swap (.blk g (cellsO t (nums .u64 xs ++ X))) (.blk g (cellsO t (nums .u64 (timesL xs m) ++ X))) L L') :
    Calls Try.prog 59 #[.pointer (some ⟨g, 0, none⟩), .agg (nums .u64 m).toArray] w fun e w' => e = .returned (.tuple #[]) ∧ Mem w0 E w' L' :=
  (times59 g t xs m X w hl hm (M.holds _ hs.mem)).mono fun e w' ⟨he, hg, hh⟩ => ⟨he, M.swap hs hg (.inr rfl) hh (fun b hb => .inl hb)⟩
set_option maxRecDepth 100000 in
set_option maxHeartbeats 1000000 in
theorem take49 (g : Nat) (t : TypeId) (a r s rest : List Int) (many : Nat) (w : World) (hp : PolyOk a r s rest) (hm : many < 17) (hrest : digOk 256 rest) (hg : w.heap[g]? = some (cellsO t (polyC a r s rest many))) :
    Calls Try.prog 49 #[.pointer (some ⟨g, 0, none⟩)] w fun e w' => e = .returned (.tuple #[]) ∧ w.grownBy w' (some g) ∧
      w'.heap[g]? = some (cellsO t (polyC (timesL (addTo a (limbsL (rest.set many 1)) 5) r) r s (List.replicate 17 0) 0)) := by
  have M0 := Mem.start1 hg
  have hmI : (many : Int) < 17 := by omega
  go_enter Try.func49, Try.ntmps49
  go_wp2_with fail
  refine wp_region_tailM 8 (by kernel_rfl) (by kernel_rfl) M0 (fun w1 M1 => ?_)
  simp only [List.take_succ_cons, List.take_zero, List.drop_succ_cons, List.drop_zero]
  have c1 := M1.polyN List.mem_cons_self hp
  repeat still_step
  refine wpStill_nil ?_
  clear c1 M0
  go_wp2_with (apply wpList_stT s5; (· rfl); (· rfl); (· rfl); (· rfl); (· exact M1); (· exact Swap.head); (· exact hp); (· exact hm); intro w' M')
  obtain ⟨rest1, hr1⟩ : ∃ x, x = rest.set many 1 := ⟨_, rfl⟩
  have hp1 : PolyOk a r s rest1 := by obtain ⟨h1, h2, h3, h4⟩ := hp; exact ⟨h1, h2, h3, by rw [hr1, List.length_set, h4]⟩
  have hd1 : digOk 256 rest1 := by rw [hr1]; exact digOk_set hrest many (by decide)
  rw [← hr1] at M'
  have HR := hid hr1
  clear hr1 M1 hp hrest
  obtain ⟨h1, h2, h3, h4⟩ := hp1
  refine wp_region_planM [0, 1, 2, 3, 4, 5] [6, 7, 8] [] (by kernel_rfl) (by kernel_rfl) (fun _ _ _ _ _ h => h) M' (fun w1 M1 => ?_)
  iterate 6 (refine wpPure_step rfl rfl rfl (fun w => by go_simp; rfl) ?_)
  refine wpPure_nil ?_
  simp only [pick, List.filterMap_cons, List.filterMap_nil, List.getElem?_toArray, List.getElem?_cons_succ, List.getElem?_cons_zero]
  clear M'
  have ll := limbsL_length rest1
  have HL := hid (fun w => limbs57 rest1 w h4 hd1)
  obtain ⟨lm, hlm⟩ : ∃ x, x = limbsL rest1 := ⟨_, rfl⟩
  rw [← hlm] at HL ll
  have HLM := hid hlm
  clear hlm hd1
  refine wpList_ldmid (nums .u64 a ++ nums .u64 r ++ nums .u8 s) (nums .u8 rest1) [.int .i64 many] Try.underlying81 s81 rfl rfl rfl rfl M1 (by rw [← polyC_rest]; exact List.mem_cons_self) (by simp [nums_length, h1, h2, h3]) (by rw [nums_length]; exact h4) ?_
  (conv => arg 5; simp only [Act.put, List.setIfInBounds_toArray, List.set_cons_succ, List.set_cons_zero])
  go_wp2_with (first | (go_at_call 57; refine (HL.out _).mono ?_; rintro e w' ⟨rfl, hb⟩; replace M1 := M1.call hb) | (go_at_call 58; refine (addM g t a lm _ _ h1 ll M1 Swap.head).mono ?_; rintro e w' ⟨rfl, M'⟩))
  refine Mid.mk ?_
  refine wpStill_nil ?_
  clear M1
  have la : (addTo a lm 5).length = 5 := by rw [addTo_length, h1]
  obtain ⟨a1, ha1⟩ : ∃ x, x = addTo a lm 5 := ⟨_, rfl⟩
  rw [← ha1] at M' la
  have HA := hid ha1
  clear ha1
  go_wp2_with fail
  refine wp_region_tailM 7 (by kernel_rfl) (by kernel_rfl) M' (fun w1 M1 => ?_)
  simp only [List.take_succ_cons, List.take_zero, List.drop_succ_cons, List.drop_zero]
  iterate 6 still_step
  refine wpStill_ldmid (nums .u64 a1) (nums .u64 r) (nums .u8 s ++ (nums .u8 rest1 ++ [.int .i64 many])) Try.underlying80 s80 rfl rfl rfl rfl M1 (by rw [List.append_assoc]; exact List.mem_cons_self) (by rw [nums_length, la]) (by rw [nums_length]; exact h2) ?_
  repeat still_step
  refine wpStill_nil ?_
  have lA : (timesL a1 r).length = 5 := timesL_length a1 r
  have HT := hid (show timesL (addTo a (limbsL (rest.set many 1)) 5) r = timesL a1 r by rw [HA.out, HLM.out, HR.out])
  go_wp2_with (first | (go_at_call 59; refine (timesM g t a1 r _ _ la h2 M1 Swap.head).mono ?_; rintro e w' ⟨rfl, M2⟩; obtain ⟨a2, ha2⟩ : ∃ x, x = timesL a1 r := ⟨_, rfl⟩; rw [← ha2] at M2 lA HT; clear ha2 M1 M') | (apply wpList_nc; (· rfl); (· rfl); (· rfl); (conv => arg 5; simp only [Act.put, List.setIfInBounds_toArray, List.set_cons_succ, List.set_cons_zero])) | (apply wpList_stmid (nums .u64 a2 ++ nums .u64 r ++ nums .u8 s) (nums .u8 rest1) (nums .u8 (List.replicate 17 0)) [.int .i64 many] s81; (· rfl); (· rfl); (· rfl); (· rfl); (· exact M2); (· rw [← polyC_rest, ← polyC_rest]; exact Swap.head); (· simp [nums_length, lA, h2, h3]); (· rw [nums_length]; exact h4); (· simp [nums_length]); (· exact nums_one .u8 _); intro w' M3) | (apply wpList_stM' 0 s3; (· rfl); (· rfl); (· rfl); (· rfl); (· exact M3); (· exact Swap.head); (· exact ⟨lA, h2, h3, by simp⟩); intro w' M4))
  go_end0
  rw [HT.out]
  exact ⟨rfl, M4.grown1, M4.holds _ List.mem_cons_self⟩
end Go.Proofs.Ytcjfpcajjhccaaa
