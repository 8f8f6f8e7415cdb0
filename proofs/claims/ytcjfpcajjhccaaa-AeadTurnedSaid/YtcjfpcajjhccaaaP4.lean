/- Memory: a row of numbers at the beginning, or in the middle, of a block. Plain laws; no program is named. -/
import Derived.Test.YtcjfpcajjhccaaaM5
set_option linter.unusedVariables false
set_option linter.unusedSimpArgs false
namespace Go.Proofs.Ytcjfpcajjhccaaa
open Go.RowKit
theorem nums_at (k : IntKind) (pre post : List Value) (xs : List Int) (j i : Nat) (hj : j = pre.length + i) (h : i < xs.length) : (pre ++ nums k xs ++ post)[j]? = some (.int k (rd xs i)) := by
  subst hj
  rw [List.getElem?_append_left (by simp [nums_length]; omega), List.getElem?_append_right (by omega), Nat.add_sub_cancel_left, nums_get k xs i h]
theorem nums_set_at (k : IntKind) (pre post : List Value) (xs : List Int) (j i : Nat) (hj : j = pre.length + i) (h : i < xs.length) (v : Int) : (pre ++ nums k xs ++ post).set j (.int k v) = pre ++ nums k (xs.set i v) ++ post := by
  subst hj
  rw [List.set_append_left _ _ (by simp [nums_length]; omega), List.set_append_right _ _ (by omega), Nat.add_sub_cancel_left, nums_set]
section
variable {P : Program} {ops : Array Oper} {rest : List Oper} {o : Oper} {a : Act} {w w0 : World} {Q : Exit → Act → World → Prop} {E : List Nat} {L L' : List Item}
theorem heap_setCells_mid (t : TypeId) (post : List Value) (g : Nat) : ∀ (vs us pre : List Value) (w : World) (off : Nat), off = pre.length → us.length = vs.length → w.heap[g]? = some (cellsO t (pre ++ us ++ post)) →
    (w.setCells g off vs).heap[g]? = some (cellsO t (pre ++ vs ++ post)) ∧ w.grownBy (w.setCells g off vs) (some g)
  | [], us, pre, w, off, _, hl, h => by
    obtain rfl : us = [] := List.length_eq_zero_iff.1 hl
    exact ⟨h, grownBy_refl _ _⟩
  | v :: vs, [], pre, w, off, _, hl, h => by simp at hl
  | v :: vs, u :: us, pre, w, off, ho, hl, h => by
    have h1 := heap_setCell_at w g off (pre ++ u :: us ++ post) t v h
    have e1 : (pre ++ u :: us ++ post).set off v = (pre ++ [v]) ++ us ++ post := by
      subst ho
      simp
    rw [e1] at h1
    have h2 := heap_setCells_mid t post g vs us (pre ++ [v]) (w.setCell ⟨g, off, none⟩ v) (off + 1) (by simp [ho]) (by simpa using hl) h1
    have e2 : pre ++ [v] ++ vs ++ post = pre ++ v :: vs ++ post := by simp
    rw [e2] at h2
    exact ⟨h2.1, (grown_setCell w g off v).trans h2.2⟩
/-- Some cells in the middle of a block are written. -/
theorem Mem.setCells {g off : Nat} {t : TypeId} {pre us vs post : List Value} (M : Mem w0 E w L) (hs : Swap (.blk g (cellsO t (pre ++ us ++ post))) (.blk g (cellsO t (pre ++ vs ++ post))) L L') (ho : off = pre.length) (hl : us.length = vs.length) :
    Mem w0 E (w.setCells g off vs) L' :=
  have h := heap_setCells_mid t post g vs us pre w off ho hl (M.holds _ hs.mem)
  M.swap hs h.2 (.inr rfl) h.1 (fun b hb => .inl hb)
theorem Mem.range (M : Mem w0 E w L) {g off : Nat} {t : TypeId} {pre us post : List Value} (hin : .blk g (cellsO t (pre ++ us ++ post)) ∈ L) (ho : off = pre.length) : w.rangeAt g off us := fun j v hv => by
  refine M.cell hin ?_
  have hj := (List.getElem?_eq_some_iff.1 hv).1
  rw [List.getElem?_append_left (by simp; omega), List.getElem?_append_right (by omega), show off + j - pre.length = j from by omega, hv]
/-- A pointer that is not nil. -/
theorem wpList_nc (hgd : o.guard = none) {x : Operand} (ho : o.op = .nilCheck x) {ad : Addr} (hx : a.eval x = .pointer (some ad)) (h : wpList P ops Q rest (a.put o.dst (.pointer (some ad))) w) : wpList P ops Q (o :: rest) a w :=
  wpList_plain hgd fun K hK => by
    have hr : (execOp a.eval o).run P w = .ok (.value (.pointer (some ad))) w := by
      unfold execOp
      simp only [ho]
      rw [hx]
      rfl
    unfold Oper.wp
    rw [hr]
    exact hK _ _ h
/-- A part of a block is read whole. -/
theorem wpList_ldmid (pre us post : List Value) {ty : TypeId} {d : TypeDesc} {n : Nat} (hu : P.underlying ty = some d) (hsz : (P.info? ty).map (·.size) = some n) (hgd : o.guard = none) {x : Operand} (ho : o.op = .load ty x) (hd : d.isRow = true) {g off : Nat}
    (hx : a.eval x = .pointer (some ⟨g, off, none⟩)) (M : Mem w0 E w L) {t : TypeId} (hin : .blk g (cellsO t (pre ++ us ++ post)) ∈ L) (hoff : off = pre.length) (hn : us.length = n)
    (h : wpList P ops Q rest (a.put o.dst (.agg us.toArray)) w) : wpList P ops Q (o :: rest) a w :=
  wpList_load_mid hgd ty x ho g off hx us d (M.range hin hoff) hu hd (by rw [hsz, hn]) h
/-- A part of a block is written whole. -/
theorem wpList_stmid (pre us vs post : List Value) {ty : TypeId} {n : Nat} (hsz : (P.info? ty).map (·.size) = some n) (hgd : o.guard = none) {x y : Operand} (ho : o.op = .store ty x y) {g off : Nat}
    (hx : a.eval x = .pointer (some ⟨g, off, none⟩)) (hy : a.eval y = .agg vs.toArray) (M : Mem w0 E w L) {t : TypeId}
    (hs : Swap (.blk g (cellsO t (pre ++ us ++ post))) (.blk g (cellsO t (pre ++ vs ++ post))) L L') (hoff : off = pre.length) (hn : us.length = n) (hn' : vs.length = n) (h1 : ∀ v ∈ vs, v.oneCell' = true)
    (h : ∀ w', Mem w0 E w' L' → wpList P ops Q rest (a.put o.dst undef) w') : wpList P ops Q (o :: rest) a w :=
  wpList_plain hgd fun K hK => by
    have ht : w.there g off vs.toArray.size := fun j hj => by
      have hj' : j < vs.length := by simpa using hj
      have hc : (pre ++ us ++ post)[off + j]? = some us[j] := by
        rw [List.getElem?_append_left (by simp; omega), List.getElem?_append_right (by omega), show off + j - pre.length = j from by omega, List.getElem?_eq_getElem (by omega)]
      exact ⟨by rw [M.cell hs.mem hc]; rfl, M.free hs.mem _⟩
    have hr := run_storeVar_mid (P := P) w g off ty vs.toArray ht (by simpa [hn'] using hsz) (by simpa [Array.all_eq_true_iff_forall_mem] using h1)
    unfold Oper.wp execOp
    simp only [ho, hx, hy, Instr.storeAt, Instr.sureAddr, Sem.run_bind, Sem.run_pure, Result.andThen_ok, hr]
    exact hK _ _ (h _ (M.setCells hs hoff (by omega)))
theorem wpList_stHr (us vs : List Value) {ty : TypeId} {n : Nat} (hsz : (P.info? ty).map (·.size) = some n) (hgd : o.guard = none) {x y : Operand} (ho : o.op = .store ty x y) {g : Nat}
    (hx : a.eval x = .pointer (some ⟨g, 0, none⟩)) (hy : a.eval y = .agg vs.toArray) (M : Mem w0 E w L) {t : TypeId} {post : List Value}
    (hs : Swap (.blk g (cellsO t (us ++ post))) (.blk g (cellsO t (vs ++ post))) L L') (hn : us.length = n) (hn' : vs.length = n) (h1 : ∀ v ∈ vs, v.oneCell' = true)
    (h : ∀ w', Mem w0 E w' L' → wpList P ops Q rest (a.put o.dst undef) w') : wpList P ops Q (o :: rest) a w :=
  wpList_stmid [] us vs post hsz hgd ho hx hy M (by simpa using hs) rfl hn hn' h1 h
/-- A part of a block is read whole, in a region that draws its order. -/
theorem wpStill_ldmid (pre us post : List Value) {Q : Act → Prop} {ty : TypeId} {d : TypeDesc} {n : Nat} (hu : P.underlying ty = some d) (hsz : (P.info? ty).map (·.size) = some n) (hgd : o.guard = none) {x : Operand} (ho : o.op = .load ty x) (hd : d.isRow = true) {g off : Nat}
    (hx : a.eval x = .pointer (some ⟨g, off, none⟩)) (M : Mem w0 E w L) {t : TypeId} (hin : .blk g (cellsO t (pre ++ us ++ post)) ∈ L) (hoff : off = pre.length) (hn : us.length = n)
    (h : wpStill P ops w Q rest (a.put o.dst (.agg us.toArray))) : wpStill P ops w Q (o :: rest) a :=
  wpStill_plain hgd fun K hK => by
    have hr := run_loadVar_mid (P := P) w g off ty us d (M.range hin hoff) hu hd (by rw [hsz, hn])
    unfold Oper.still execOp
    simp only [ho, hx, Instr.loadAt, Instr.sureAddr, Sem.run_bind, Sem.run_pure, Result.andThen_ok, hr]
    exact (Oper.stillUpon_value o a w K _).symm ▸ hK _ h
/-- A number in a part of a block is read. -/
theorem wpList_ldX {ty : TypeId} {d : TypeDesc} (hu : P.underlying ty = some d) (hgd : o.guard = none) {x : Operand} (ho : o.op = .load ty x) (hd : d.isRow = false) {g j : Nat}
    (hx : a.eval x = .pointer (some ⟨g, j, none⟩)) (M : Mem w0 E w L) {k : IntKind} {t : TypeId} {pre post : List Value} {xs : List Int} (hin : .blk g (cellsO t (pre ++ nums k xs ++ post)) ∈ L) {i : Nat} (hj : j = pre.length + i) (hi : i < xs.length)
    (h : wpList P ops Q rest (a.put o.dst (.int k (rd xs i))) w) : wpList P ops Q (o :: rest) a w :=
  wpList_ld hgd ho hu hd hx (M.cell hin (nums_at k pre post xs j i hj hi)) h
/-- A number in a part of a block is written. -/
theorem wpList_stX {ty : TypeId} (hsz : (P.info? ty).map (·.size) = some 1) (hgd : o.guard = none) {x y : Operand} (ho : o.op = .store ty x y) {g j : Nat} (hx : a.eval x = .pointer (some ⟨g, j, none⟩))
    {k : IntKind} {v : Int} (hy : a.eval y = .int k v) (M : Mem w0 E w L) {t : TypeId} {pre post : List Value} {xs : List Int} {i : Nat} (hs : Swap (.blk g (cellsO t (pre ++ nums k xs ++ post))) (.blk g (cellsO t (pre ++ nums k (xs.set i v) ++ post))) L L')
    (hj : j = pre.length + i) (hi : i < xs.length) (h : ∀ w', Mem w0 E w' L' → wpList P ops Q rest (a.put o.dst undef) w') : wpList P ops Q (o :: rest) a w :=
  wpList_st hgd ho hsz hx hy rfl (M.cell hs.mem (nums_at k pre post xs j i hj hi)) (M.free hs.mem j) (h _ (M.setCell (by rw [nums_set_at k pre post xs j i hj hi]; exact hs)))
/-- At the beginning of a block. -/
theorem wpList_stH {ty : TypeId} (hsz : (P.info? ty).map (·.size) = some 1) (hgd : o.guard = none) {x y : Operand} (ho : o.op = .store ty x y) {g i : Nat} (hx : a.eval x = .pointer (some ⟨g, i, none⟩))
    {k : IntKind} {v : Int} (hy : a.eval y = .int k v) (M : Mem w0 E w L) {t : TypeId} {post : List Value} {xs : List Int} (hs : Swap (.blk g (cellsO t (nums k xs ++ post))) (.blk g (cellsO t (nums k (xs.set i v) ++ post))) L L')
    (hi : i < xs.length) (h : ∀ w', Mem w0 E w' L' → wpList P ops Q rest (a.put o.dst undef) w') : wpList P ops Q (o :: rest) a w :=
  wpList_stX (pre := []) hsz hgd ho hx hy M (by simpa using hs) (by simp) hi h
theorem Mem.cellH (M : Mem w0 E w L) {g i : Nat} {k : IntKind} {t : TypeId} {post : List Value} {xs : List Int} (hin : .blk g (cellsO t (nums k xs ++ post)) ∈ L) (hi : i < xs.length) : w.cell? ⟨g, i, none⟩ = some (.int k (rd xs i)) :=
  M.cell hin (by have := nums_at k [] post xs i i (by simp) hi; simpa using this)
end
end Go.Proofs.Ytcjfpcajjhccaaa
