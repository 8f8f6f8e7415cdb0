/- Rows that read as cells, each in a block of one type; append of such a row to the call's own slice; a region whose loads are taken where they come up. -/
import Derived.Test.YtcapfnbmmdbcoaaM8
import Derived.Lib.AppendZeros
set_option linter.unusedVariables false
set_option linter.unusedSimpArgs false
namespace Go.Proofs.Ytcapfnbmmdbcoaa
open Go.RowKit
/-! ### 1. A row that reads as some cells -/
def RowT (w : World) (t : TypeId) (A : Option Addr) (cs : List Value) : Prop :=
  ∀ (i : Nat) (v : Value), cs[i]? = some v → ∃ b off arr m, A = some ⟨b, off, none⟩ ∧ w.heap[b]? = some (.cells arr t m) ∧ arr[off + i]? = some v
section
variable {w w0 w' : World} {t : TypeId} {A : Option Addr} {cs : List Value} {E : List Nat} {L : List Item}
theorem RowT.nil : RowT w t A [] := fun i v h => by simp at h
theorem RowT.cell (h : RowT w t A cs) {i : Nat} {v : Value} (hi : cs[i]? = some v) : ∃ b off, A = some ⟨b, off, none⟩ ∧ w.cell? ⟨b, off + i, none⟩ = some v := by
  obtain ⟨b, off, arr, m, hA, hh, hv⟩ := h i v hi
  exact ⟨b, off, hA, by rw [cell_of_row w b (off + i) arr t m hh, hv]⟩
theorem RowT.at {b off : Nat} (h : RowT w t (some ⟨b, off, none⟩) cs) {i : Nat} {v : Value} (hi : cs[i]? = some v) : w.cell? ⟨b, off + i, none⟩ = some v := by
  obtain ⟨b', off', hA, hc⟩ := h.cell hi
  simp only [Option.some.injEq, Addr.mk.injEq, and_true] at hA
  obtain ⟨rfl, rfl⟩ := hA
  exact hc
theorem RowT.same (h : RowT w t A cs) (hk : ∀ b off arr m, A = some ⟨b, off, none⟩ → w.heap[b]? = some (.cells arr t m) → w'.heap[b]? = w.heap[b]?) : RowT w' t A cs := fun i v hi => by
  obtain ⟨b, off, arr, m, hA, hh, hv⟩ := h i v hi
  exact ⟨b, off, arr, m, hA, by rw [hk b off arr m hA hh, hh], hv⟩
theorem RowT.below (h : RowT w t A cs) (hb : Below w.heap.size w w') : RowT w' t A cs :=
  h.same fun b off arr m _ hh => hb.block b (Array.getElem?_eq_some_iff.1 hh).1
theorem RowT.grown (h : RowT w t A cs) {g : Nat} (hg : w.grownBy w' (some g)) {arr : Array Value} {t' : TypeId} {m : Nat × Nat} (h0 : w.heap[g]? = some (.cells arr t' m)) (ht : t' ≠ t) : RowT w' t A cs :=
  h.same fun b off arr' m' _ hh => hg.block b (Array.getElem?_eq_some_iff.1 hh).1 (fun e => by
    simp only [Option.some.injEq] at e
    subst e
    rw [h0] at hh
    injection hh with hh
    injection hh with _ hh _
    exact ht hh)
theorem RowT.mem (h : RowT w0 t A cs) (M : Mem w0 [] w L) : RowT w t A cs := h.below M.below
theorem RowT.memE {g : Nat} (h : RowT w0 t A cs) (M : Mem w0 [g] w L) {arr : Array Value} {t' : TypeId} {m : Nat × Nat} (h0 : w0.heap[g]? = some (.cells arr t' m)) (ht : t' ≠ t) : RowT w t A cs :=
  h.grown M.grown1 h0 ht
theorem RowT.take (h : RowT w t A cs) (k : Nat) : RowT w t A (cs.take k) := fun i v hi => by
  rw [List.getElem?_take] at hi
  split at hi
  · exact h i v hi
  · cases hi
theorem RowT.drop {b off : Nat} (h : RowT w t (some ⟨b, off, none⟩) cs) (k : Nat) : RowT w t (some ⟨b, off + k, none⟩) (cs.drop k) := fun i v hi => by
  rw [List.getElem?_drop] at hi
  obtain ⟨b', off', arr, m, hA, hh, hv⟩ := h (k + i) v hi
  simp only [Option.some.injEq, Addr.mk.injEq, and_true] at hA
  obtain ⟨rfl, rfl⟩ := hA
  exact ⟨b, off + k, arr, m, rfl, hh, by rw [Nat.add_assoc]; exact hv⟩
theorem Mem.vecT (M : Mem w0 E w L) {n cap size : Nat} (hin : .vec A n cap t size cs ∈ L) : RowT w t A cs := fun i v hi => by
  have h : w.ownsRow 0 t size (.slice A n cap) n cs := M.holds _ hin
  rcases h.2 with ⟨h', hn⟩ | ⟨g, cap', cur, h', _, hg, _, _, _, htk⟩
  · have hl := h.1
    rw [hn, Nat.zero_mul] at hl
    rw [List.eq_nil_of_length_eq_zero hl] at hi
    simp at hi
  · injection h' with hA _ _
    refine ⟨g, 0, cur, _, hA, hg, ?_⟩
    rw [← htk, List.getElem?_take] at hi
    split at hi
    · rw [Nat.zero_add]; simpa using hi
    · cases hi
theorem Mem.vec_cap (M : Mem w0 E w L) {n cap size : Nat} (hin : .vec A n cap t size cs ∈ L) : n ≤ cap := by
  have h : w.ownsRow 0 t size (.slice A n cap) n cs := M.holds _ hin
  rcases h.2 with ⟨h', hn⟩ | ⟨g, cap', cur, h', _, hg, hnc, _, _, htk⟩
  · injection h' with _ h1 h2
    omega
  · injection h' with _ _ h2
    omega
theorem Mem.vec_fresh (M : Mem w0 [] w L) {n cap size : Nat} (hin : .vec A n cap t size cs ∈ L) : ∀ ad, A = some ad → w0.heap.size ≤ ad.block := fun ad hA => by
  subst hA
  exact (M.fresh _ hin ad.block rfl).resolve_left (by simp)
theorem Mem.blkT (M : Mem w0 E w L) {g : Nat} (hin : .blk g (cellsO t cs) ∈ L) : RowT w t (some ⟨g, 0, none⟩) cs := fun i v hi => by
  exact ⟨g, 0, cs.toArray, (0, 0), rfl, M.holds _ hin, by rw [Nat.zero_add]; simpa using hi⟩
end
/-- A cell of the world in which the call began is as it was. -/
theorem Mem.cell0 {w0 w : World} {L : List Item} (M : Mem w0 [] w L) {ad : Addr} {v : Value} (h : w0.cell? ad = some v) : w.cell? ad = some v := by
  rw [← h]
  exact World.cell?_of_block (M.old _ (World.block_lt_of_cell? w0 ad h) (by simp))
/-! ### 2. Append of a row that reads as some cells -/
section
variable {P : Program} {ops : Array Oper} {rest : List Oper} {o : Oper} {a : Act} {w w0 : World} {Q : Exit → Act → World → Prop} {E : List Nat} {L L' : List Item}
theorem run_append_none {t ty e : TypeId} (ht : P.underlying t = some (.slice e)) {size : Nat} (hi : (P.info? e).map (·.size) = some size) (A : Option Addr) (n cap c : Nat) (hn : n ≤ cap) (w : World) :
    (Builtin.append_ #[t, t] ty #[.slice A n cap, .slice none 0 c]).run P w = .ok (.slice A n cap) w := by
  obtain ⟨i, hii, his⟩ := Option.map_eq_some_iff.1 hi
  cases A with
  | none => simp [Builtin.append_, run_underlying ht, sizeOf, typeInfo, hii, Builtin.lenOf, Builtin.firstCells, loadCells, loadCellsFrom, hn]
  | some a => simp [Builtin.append_, run_underlying ht, sizeOf, typeInfo, hii, Builtin.lenOf, Builtin.firstCells, loadCells, loadCellsFrom, storeCells, hn]
/-- append(v, x...), v the call's own, x a row that reads as ds. -/
theorem wpList_appS {t e : TypeId} {z : Value} {size bytes : Nat} (ht : P.underlying t = some (.slice e)) (hi : (P.info? e).map (fun i => (i.zero, i.size, i.bytes)) = some (some z, size, bytes)) (hz : z.cells.size = size) (hs0 : 0 < size) (hgd : o.guard = none) {s x : Operand}
    (ho : o.op = .call { callee := .builtin .append, args := #[s, x], argTypes := #[t, t] }) {A : Option Addr} {n cap m c : Nat} (hs : a.eval s = .slice A n cap) {A2 : Option Addr} (hx : a.eval x = .slice A2 m c)
    (M : Mem w0 E w L) {cs ds : List Value} {L' : Option Addr → Nat → List Item} (hsw : ∀ A' cap', Swap (.vec A n cap e size cs) (.vec A' (n + m) cap' e size (cs ++ ds)) L (L' A' cap')) {t2 : TypeId} (hr : RowT w t2 A2 ds) (hl : ds.length = m * size) (h1 : ∀ v ∈ ds, v.oneCell' = true)
    (hb : (n + m) * bytes ≤ 140737488355328) (hb2 : n + m ≤ 140737488355328)
    (h : ∀ A' cap' w', Mem w0 E w' (L' A' cap') → wpList P ops Q rest (a.put o.dst (.slice A' (n + m) cap')) w') : wpList P ops Q (o :: rest) a w := by
  obtain ⟨i, hii, hp⟩ := Option.map_eq_some_iff.1 hi
  simp only [Prod.mk.injEq] at hp
  obtain ⟨hz', hs', hby⟩ := hp
  have hown : w.ownsRow 0 e size (.slice A n cap) n cs := M.holds _ (hsw none 0).mem
  cases A2 with
  | none =>
    have hm : m = 0 := by
      rcases Nat.eq_zero_or_pos m with h0 | h0
      · exact h0
      · have hpos : 0 < ds.length := by rw [hl]; exact Nat.mul_pos h0 hs0
        obtain ⟨b, off, arr, mk, hA, _⟩ := hr 0 ds[0] (List.getElem?_eq_getElem hpos)
        cases hA
    subst hm
    have hds : ds = [] := List.eq_nil_of_length_eq_zero (by rw [hl, Nat.zero_mul])
    subst hds
    have hcap : n ≤ cap := M.vec_cap (hsw none 0).mem
    have hr := run_append_none (P := P) (ty := o.type) ht (size := size) (by rw [hii]; simp [hs']) A n cap c hcap w
    refine wpList_plain hgd fun K hK => ?_
    unfold Oper.wp execOp
    simp only [ho, resolve, invoke, builtin, Sem.run_bind, Sem.run_pure, Result.andThen_ok, List.map_toArray, List.map_cons, List.map_nil, hs, hx, hr]
    refine hK _ _ (h A cap w (M.swap (hsw A cap) (grownBy_refl w none) (.inl rfl) ?_ (fun b hb' => .inl hb')))
    show w.ownsRow 0 e size (.slice A (n + 0) cap) (n + 0) (cs ++ [])
    rw [List.append_nil, Nat.add_zero]
    exact hown
  | some ad =>
    have hcells : ∀ j u, ds[j]? = some u → w.cell? (ad.add j) = some u := fun j u hu => by
      obtain ⟨b, off, hA, hc⟩ := hr.cell hu
      simp only [Option.some.injEq] at hA
      subst hA
      rw [Addr.add_lit]
      exact hc
    obtain ⟨v', w', hrun, hown', hg, hnil, hat⟩ := run_append_own_at (P := P) w 0 t o.type e i z size bytes ht hii hz' hs' hby hz hs0 (.slice A n cap) n cs hown ad m c ds hl hcells h1 (by simp only [maxLen]; omega) hb (Nat.zero_le _)
    obtain ⟨A', cap', rfl⟩ := own_form hown'
    refine wpList_plain hgd fun K hK => ?_
    unfold Oper.wp execOp
    simp only [ho, resolve, invoke, builtin, Sem.run_bind, Sem.run_pure, Result.andThen_ok, List.map_toArray, List.map_cons, List.map_nil, hs, hx, hrun]
    refine hK _ _ (h A' cap' w' (M.swap (hsw A' cap') hg (.inr rfl) hown' (fun b hb' => ?_)))
    rcases hat with hat | hat
    · left; rw [Item.block, ← hat]; exact hb'
    · right
      have : some b = some w.heap.size := by rw [← hat]; exact hb'.symm
      simp only [Option.some.injEq] at this
      omega
/-- A store into a block that is an item: what else is in memory stays. -/
theorem wpList_stG (hgd : o.guard = none) {ty : TypeId} {x y : Operand} (ho : o.op = .store ty x y) (hsz : (P.info? ty).map (·.size) = some 1) {g i : Nat} (hx : a.eval x = .pointer (some ⟨g, i, none⟩))
    {v : Value} (hy : a.eval y = v) (hv : v.oneCell' = true) (M : Mem w0 E w L) {t : TypeId} {cs : List Value} (hs : Swap (.blk g (cellsO t cs)) (.blk g (cellsO t (cs.set i v))) L L') (hi : i < cs.length)
    (h : ∀ w', Mem w0 E w' L' → w.grownBy w' (some g) → wpList P ops Q rest (a.put o.dst undef) w') : wpList P ops Q (o :: rest) a w :=
  wpList_st hgd ho hsz hx hy hv (M.cell hs.mem (List.getElem?_eq_getElem hi)) (M.free hs.mem i) (h _ (M.setCell hs) (grown_setCell w g i v))
/-- append(nil, x...), x a row that reads as ds. -/
theorem wpList_appS0 {t e : TypeId} {z : Value} {size bytes : Nat} (ht : P.underlying t = some (.slice e)) (hi : (P.info? e).map (fun i => (i.zero, i.size, i.bytes)) = some (some z, size, bytes)) (hz : z.cells.size = size) (hs0 : 0 < size) (hgd : o.guard = none) {s x : Operand}
    (ho : o.op = .call { callee := .builtin .append, args := #[s, x], argTypes := #[t, t] }) {m c : Nat} (hs : a.eval s = .slice none 0 0) {A2 : Option Addr} (hx : a.eval x = .slice A2 m c)
    (M : Mem w0 E w L) {ds : List Value} {t2 : TypeId} (hr : RowT w t2 A2 ds) (hl : ds.length = m * size) (h1 : ∀ v ∈ ds, v.oneCell' = true)
    (hb : m * bytes ≤ 140737488355328) (hb2 : m ≤ 140737488355328)
    (h : ∀ A' cap' w', Mem w0 E w' (.vec A' m cap' e size ds :: L) → wpList P ops Q rest (a.put o.dst (.slice A' m cap')) w') : wpList P ops Q (o :: rest) a w :=
  wpList_appS ht hi hz hs0 hgd ho hs hx (M.nil e size) (ds := ds) (L' := fun A' cap' => .vec A' m cap' e size ds :: L) (fun A' cap' => by rw [Nat.zero_add, List.nil_append]; exact Swap.head) hr hl h1 (by rw [Nat.zero_add]; exact hb) (by omega)
    (fun A' cap' w' M' => by rw [Nat.zero_add]; exact h A' cap' w' M')
/-- append(nil, make([]T, n)...): a row of its own. -/
theorem wpList_appZ {t tn e : TypeId} {z : Value} {size bytes : Nat} {kn : IntKind} (ht : P.underlying t = some (.slice e)) (htn : P.underlying tn = some (.int kn)) (hi : (P.info? e).map (fun i => (i.zero, i.size, i.bytes)) = some (some z, size, bytes)) (hz : z.cells.size = size) (hs0 : 0 < size) (hgd : o.guard = none) {s x : Operand}
    (ho : o.op = .call { callee := .builtin .append, args := #[s, x], argTypes := #[t, tn] }) (hs : a.eval s = .slice none 0 0) {k : IntKind} {n : Nat} (hx : a.eval x = .int k n) (h0 : 0 < n) (hb : n * bytes ≤ 140737488355328) (hb2 : n ≤ 140737488355328) (M : Mem w0 E w L)
    (h : ∀ A cap w', Mem w0 E w' (.vec A n cap e size (Builtin.zeroCells z.cells n).toList :: L) → wpList P ops Q rest (a.put o.dst (.slice A n cap)) w') : wpList P ops Q (o :: rest) a w := by
  obtain ⟨i, hii, hp⟩ := Option.map_eq_some_iff.1 hi
  simp only [Prod.mk.injEq] at hp
  obtain ⟨hz', hs', hby⟩ := hp
  have hr := Lib.run_append_nil_zeros (P := P) w t tn o.type e i z k kn ht htn hii hz' n h0 (by omega) (by omega) (by rw [hby]; omega)
  refine wpList_plain hgd fun K hK => ?_
  unfold Oper.wp execOp
  simp only [ho, resolve, invoke, builtin, Sem.run_bind, Sem.run_pure, Result.andThen_ok, List.map_toArray, List.map_cons, List.map_nil, hs, hx, hr]
  refine hK _ _ (h _ _ _ (M.push (y := .vec (some ⟨w.heap.size, 0, none⟩) n (grownCap w n 0 e) e size (Builtin.zeroCells z.cells n).toList) ⟨rfl, rfl, rfl, by simp, fun k hk _ => heap_alloc_old w.drew _ hk⟩ ?_ (fun b hb' => ?_)))
  · have hge := grownCap_ge w n 0 e
    have hzc : (Builtin.zeroCells z.cells n).size = n * size := by rw [size_zeroCells, hz]
    refine ⟨by simpa using hzc, .inr ⟨w.heap.size, _, _, rfl, Nat.zero_le _, heap_alloc_new w.drew _, hge, grownCap_le_maxLen w n 0 e (by simp only [maxLen]; omega), ?_, ?_⟩⟩
    · rw [Array.size_append, hzc, size_zeroCells, hz, ← Nat.add_mul]
      congr 1
      omega
    · rw [Array.toList_append, ← hzc, ← Array.length_toList]
      exact List.take_left
  · simp only [Item.block, Value.ownBlock, Option.some.injEq] at hb'
    omega
/-- v[:0], v the call's own. -/
theorem Mem.vec0 (M : Mem w0 E w L) {A : Option Addr} {n cap size : Nat} {e : TypeId} {cs : List Value} {L' : List Item} (hsw : Swap (.vec A n cap e size cs) (.vec A 0 cap e size []) L L') : Mem w0 E w L' := by
  have h : w.ownsRow 0 e size (.slice A n cap) n cs := M.holds _ hsw.mem
  refine M.swap hsw (grownBy_refl w none) (.inl rfl) ?_ (fun b hb => .inl (by cases A <;> exact hb))
  show w.ownsRow 0 e size (.slice A 0 cap) 0 []
  rcases h.2 with ⟨h', hn⟩ | ⟨g, cap', cur, h', h1, h2, h3, h4, h5, h6⟩
  · injection h' with hA hn' hc
    subst hA hc
    exact World.ownsRow_nil w 0 e size
  · injection h' with hA hn' hc
    subst hA hc
    exact ⟨by simp, .inr ⟨g, cap, cur, rfl, h1, h2, Nat.zero_le _, h4, h5, by simp⟩⟩
end
/-! ### 2b. Parts of slices -/
def lowA (A : Option Addr) (c low size : Nat) : Option Addr := if c = low then A else A.map (fun a => a.add (low * size))
theorem RowT.low {w : World} {t : TypeId} {A : Option Addr} {cs : List Value} (h : RowT w t A cs) {c low size : Nat} (hc : cs.length ≤ c * size) : RowT w t (lowA A c low size) (cs.drop (low * size)) := by
  unfold lowA
  split
  · rename_i hcl
    rw [← hcl, List.drop_of_length_le hc]
    exact RowT.nil
  · intro i v hi
    rw [List.getElem?_drop] at hi
    obtain ⟨b, off, arr, m, rfl, hh, hv⟩ := h _ v hi
    exact ⟨b, off + low * size, arr, m, by rw [Option.map_some, Addr.add_lit], hh, by rw [Nat.add_assoc]; exact hv⟩
section
variable {P : Program} {ops : Array Oper} {rest : List Oper} {o : Oper} {a : Act} {w w0 : World} {Q : Exit → Act → World → Prop} {E : List Nat} {L L' : List Item}
theorem run_sliceLow {t e : TypeId} {size : Nat} (hu : P.underlying t = some (.slice e)) (hsz : (P.info? e).map (·.size) = some size) {A : Option Addr} {n c : Nat} {k : IntKind} {l : Int} (h0 : 0 ≤ l) (h1 : l ≤ n) (hnc : n ≤ c) (w : World) :
    (Instr.sliceAt t (.slice A n c) (some (.int k l)) none none).run P w = .ok (.slice (lowA A c l.toNat size) (n - l.toNat) (c - l.toNat)) w := by
  obtain ⟨i, hi, his⟩ := Option.map_eq_some_iff.1 hsz
  obtain ⟨l', rfl⟩ := Int.eq_ofNat_of_zero_le h0
  have e2 : l' ≤ n := by omega
  simp [Instr.sliceAt, Instr.slice, run_underlying hu, Instr.sliceBounds, Instr.sliceBound, asIntOf, e2, sizeOf, typeInfo, hi, his, lowA]
theorem run_sliceHigh {t e : TypeId} {size : Nat} (hu : P.underlying t = some (.slice e)) (hsz : (P.info? e).map (·.size) = some size) {A : Option Addr} {n c : Nat} {k : IntKind} {h : Int} (h0 : 0 ≤ h) (h1 : h ≤ c) (w : World) :
    (Instr.sliceAt t (.slice A n c) none (some (.int k h)) none).run P w = .ok (.slice A h.toNat c) w := by
  obtain ⟨i, hi, his⟩ := Option.map_eq_some_iff.1 hsz
  obtain ⟨h', rfl⟩ := Int.eq_ofNat_of_zero_le h0
  have e2 : h' ≤ c := by omega
  have e3 : (if c = 0 then A else A.map (fun a => a.add 0)) = A := by
    cases A with
    | none => simp
    | some a => simp [Addr.add_zero']
  simp [Instr.sliceAt, Instr.slice, run_underlying hu, Instr.sliceBounds, Instr.sliceBound, asIntOf, e2, sizeOf, typeInfo, hi, his, Addr.add_zero']
/-- x[l:], x a slice. -/
theorem run_slLow {t e : TypeId} {size : Nat} (hu : P.underlying t = some (.slice e)) (hsz : (P.info? e).map (·.size) = some size) {x lo : Operand} (ho : o.op = .slice t x (some lo) none none) {A : Option Addr} {n c : Nat} (hx : a.eval x = .slice A n c) {k : IntKind} {l : Int} (hl : a.eval lo = .int k l) (h0 : 0 ≤ l) (h1 : l ≤ n) (hnc : n ≤ c) (w : World) :
    (execOp a.eval o).run P w = .ok (.value (.slice (lowA A c l.toNat size) (n - l.toNat) (c - l.toNat))) w := by
  unfold execOp
  simp only [ho, hx, hl, Option.map_some, Option.map_none, Sem.run_bind, Sem.run_pure, Result.andThen_ok, run_sliceLow hu hsz h0 h1 hnc]
/-- x[:h], x a slice. -/
theorem run_slHigh {t e : TypeId} {size : Nat} (hu : P.underlying t = some (.slice e)) (hsz : (P.info? e).map (·.size) = some size) {x hi : Operand} (ho : o.op = .slice t x none (some hi) none) {A : Option Addr} {n c : Nat} (hx : a.eval x = .slice A n c) {k : IntKind} {h : Int} (hh : a.eval hi = .int k h) (h0 : 0 ≤ h) (h1 : h ≤ c) (w : World) :
    (execOp a.eval o).run P w = .ok (.value (.slice A h.toNat c)) w := by
  unfold execOp
  simp only [ho, hx, hh, Option.map_some, Option.map_none, Sem.run_bind, Sem.run_pure, Result.andThen_ok, run_sliceHigh hu hsz h0 h1]
theorem wpList_slLow {t e : TypeId} {size : Nat} (hu : P.underlying t = some (.slice e)) (hsz : (P.info? e).map (·.size) = some size) (hgd : o.guard = none) {x lo : Operand} (ho : o.op = .slice t x (some lo) none none) {A : Option Addr} {n c : Nat} (hx : a.eval x = .slice A n c) {k : IntKind} {l : Int} (hl : a.eval lo = .int k l) (h0 : 0 ≤ l) (h1 : l ≤ n) (hnc : n ≤ c)
    (h : wpList P ops Q rest (a.put o.dst (.slice (lowA A c l.toNat size) (n - l.toNat) (c - l.toNat))) w) : wpList P ops Q (o :: rest) a w :=
  wpList_plain hgd fun K hK => by
    unfold Oper.wp
    rw [run_slLow hu hsz ho hx hl h0 h1 hnc]
    exact hK _ _ h
theorem wpList_slHigh {t e : TypeId} {size : Nat} (hu : P.underlying t = some (.slice e)) (hsz : (P.info? e).map (·.size) = some size) (hgd : o.guard = none) {x hi : Operand} (ho : o.op = .slice t x none (some hi) none) {A : Option Addr} {n c : Nat} (hx : a.eval x = .slice A n c) {k : IntKind} {hh : Int} (hhi : a.eval hi = .int k hh) (h0 : 0 ≤ hh) (h1 : hh ≤ c)
    (h : wpList P ops Q rest (a.put o.dst (.slice A hh.toNat c)) w) : wpList P ops Q (o :: rest) a w :=
  wpList_plain hgd fun K hK => by
    unfold Oper.wp
    rw [run_slHigh hu hsz ho hx hhi h0 h1]
    exact hK _ _ h
theorem wpList_slLowM (m : Nat) {t e : TypeId} {size : Nat} (hu : P.underlying t = some (.slice e)) (hsz : (P.info? e).map (·.size) = some size) (hgd : o.guard = none) {x lo : Operand} (ho : o.op = .slice t x (some lo) none none) {A : Option Addr} {n c : Nat} (hx : a.eval x = .slice A n c) {k : IntKind} {l : Int} (hl : a.eval lo = .int k l) (hlm : l = (m : Int)) (h1 : m ≤ n) (hnc : n ≤ c)
    (h : wpList P ops Q rest (a.put o.dst (.slice (lowA A c m size) (n - m) (c - m))) w) : wpList P ops Q (o :: rest) a w := by
  subst hlm
  exact wpList_slLow hu hsz hgd ho hx hl (by omega) (by omega) hnc h
theorem wpList_slHighM (m : Nat) {t e : TypeId} {size : Nat} (hu : P.underlying t = some (.slice e)) (hsz : (P.info? e).map (·.size) = some size) (hgd : o.guard = none) {x hi : Operand} (ho : o.op = .slice t x none (some hi) none) {A : Option Addr} {n c : Nat} (hx : a.eval x = .slice A n c) {k : IntKind} {l : Int} (hl : a.eval hi = .int k l) (hlm : l = (m : Int)) (h1 : m ≤ c)
    (h : wpList P ops Q rest (a.put o.dst (.slice A m c)) w) : wpList P ops Q (o :: rest) a w := by
  subst hlm
  exact wpList_slHigh hu hsz hgd ho hx hl (by omega) (by omega) h
/-- One cell is read. -/
theorem run_ld1 {ty : TypeId} {d : TypeDesc} (hu : P.underlying ty = some d) {x : Operand} (ho : o.op = .load ty x) (hd : d.isRow = false) {ad : Addr} (hx : a.eval x = .pointer (some ad)) {v : Value} (hc : w.cell? ad = some v) :
    (execOp a.eval o).run P w = .ok (.value v) w := by
  unfold execOp
  simp only [ho, hx, Instr.loadAt, Instr.sureAddr, Sem.run_bind, Sem.run_pure, Result.andThen_ok, run_load_cell hu hd hc]
end
/-- A guarded call that runs. -/
theorem wpList_wantCall {P : Program} {ops : Array Oper} {rest : List Oper} {a : Act} {w : World} {Q : Exit → Act → World → Prop} {d : Option Tmp} {ty : TypeId} {c : Call} {ps : String} {af : Array Edge} {g : Nat × Bool} (hw : Region.wanted ⟨d, .call c, ty, ps, af, some g⟩ (yielded ops a.tmps) = true)
    (h : wpList P ops Q (⟨d, .call c, ty, ps, af, none⟩ :: rest) a w) : wpList P ops Q (⟨d, .call c, ty, ps, af, some g⟩ :: rest) a w := wpList_want hw h
/-- A struct is read, its cells known by equations. -/
theorem wpList_ldagg {P : Program} {ops : Array Oper} {rest : List Oper} {o : Oper} {a : Act} {w : World} {Q : Exit → Act → World → Prop} (m : Nat) (hm : o.dst = some m) {ty : TypeId} {d : TypeDesc} (hu : P.underlying ty = some d) (hd : d.isRow = true) (hgd : o.guard = none) {x : Operand} (ho : o.op = .load ty x) {g off : Nat}
    (hx : a.eval x = .pointer (some ⟨g, off, none⟩)) {cs : List Value} (hc : ∀ (j : Nat) (v : Value), cs[j]? = some v → w.cell? ⟨g, off + j, none⟩ = some v) (hsz : (P.info? ty).map (·.size) = some cs.length)
    (h : wpList P ops Q rest (a.put (some m) (.agg cs.toArray)) w) : wpList P ops Q (o :: rest) a w :=
  wpList_load_mid hgd ty x ho g off hx cs d hc hu hd hsz (by rw [hm]; exact h)
/-! ### 3. A region whose loads are taken where they come up -/
section
variable {P : Program} {a : Act} {w : World} {Q : Exit → Act → World → Prop}
theorem wp_region_planP {id : Nat} {ops : Array Oper} (s : PlanT) (hm : P.follows .mixedOrders = true) (hB : (Region.noSelect ops && planTB .any ops s (Array.replicate ops.size false) && decide (s.depth ≤ ops.size)) = true)
    (hQ : ∀ c a (d : Tmp) v w, Q (.panic c) (Act.put a (some d) v) w → Q (.panic c) a w) {w0 : World} {E : List Nat} {L : List Item} (M : Mem w0 E w L)
    (h : ∀ w1, Mem w0 E w1 L → wpPlanT P ops (fun _ => True) Q s a w1) : (Code.region id ops true).wp P Q a w := by
  simp only [Bool.and_eq_true, decide_eq_true_eq] at hB
  obtain ⟨⟨hs, hB⟩, hl⟩ := hB
  exact wp_region_held (S := fun _ => True) hm (planT_any (P := P) (Q := Q) hs hQ s _ _ a _ hl hB (h _ (M.drawn (w.drawn + 1))))
/-- One cell is read, known by an equation. -/
theorem wpList_ldc {ops : Array Oper} {rest : List Oper} {o : Oper} (m : Nat) (hm : o.dst = some m) (hgd : o.guard = none) {ty : TypeId} {x : Operand} (ho : o.op = .load ty x) {d : TypeDesc} (hu : P.underlying ty = some d) (hd : d.isRow = false) {ad : Addr}
    (hx : a.eval x = .pointer (some ad)) {v : Value} (hc : w.cell? ad = some v) (h : wpList P ops Q rest (a.put (some m) v) w) : wpList P ops Q (o :: rest) a w :=
  wpList_ld hgd ho hu hd hx hc (by rw [hm]; exact h)
end
end Go.Proofs.Ytcapfnbmmdbcoaa
