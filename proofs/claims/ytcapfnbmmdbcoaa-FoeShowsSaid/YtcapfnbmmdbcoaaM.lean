/- Memory as a list of items: what a call knows of the blocks that it made, and that all else is as it was. Plain laws; no program is named. -/
import Derived.WalkKit
import Derived.WalkSpells
import Derived.WalkLawsBesides
import Derived.Maps.AppendAt
import Derived.Deep.QuietTactic
import Derived.BigQuiet
import Derived.StillTailTactics
import Derived.Laws.BytesArg
import Derived.Deep.MidRow
import Derived.Lib.ConvBytes
set_option linter.unusedVariables false
set_option linter.unusedSimpArgs false
namespace Go.Proofs.Ytcapfnbmmdbcoaa
open Go.RowKit

/-- A fact that the walk does not look into. -/
theorem hid {p : Prop} (h : p) : Hid p := h

/-! ### 1. Numbers in cells -/
def rd (xs : List Int) (i : Nat) : Int := xs.getD i 0
def nums (k : IntKind) (xs : List Int) : List Value := xs.map fun x => .int k x
theorem nums_length (k : IntKind) (xs : List Int) : (nums k xs).length = xs.length := by simp [nums]
theorem nums_set (k : IntKind) (xs : List Int) (i : Nat) (v : Int) : (nums k xs).set i (.int k v) = nums k (xs.set i v) := by simp [nums, List.map_set]
theorem nums_append (k : IntKind) (xs ys : List Int) : nums k (xs ++ ys) = nums k xs ++ nums k ys := by simp [nums]
theorem nums_get (k : IntKind) (xs : List Int) (i : Nat) (h : i < xs.length) : (nums k xs)[i]? = some (.int k (rd xs i)) := by
  simp [nums, rd, List.getElem?_eq_getElem h, List.getD_eq_getElem?_getD]
theorem nums_one (k : IntKind) (xs : List Int) : ∀ v ∈ nums k xs, v.oneCell' = true := by
  intro v hv
  simp only [nums, List.mem_map] at hv
  obtain ⟨x, _, rfl⟩ := hv
  rfl
theorem rd_append_left (xs ys : List Int) (i : Nat) (h : i < xs.length) : rd (xs ++ ys) i = rd xs i := by
  simp [rd, List.getD_eq_getElem?_getD, List.getElem?_append_left h]
theorem rd_append_right (xs ys : List Int) (i : Nat) (h : xs.length ≤ i) : rd (xs ++ ys) i = rd ys (i - xs.length) := by
  simp [rd, List.getD_eq_getElem?_getD, List.getElem?_append_right h]
theorem rd_set_same (xs : List Int) (i : Nat) (v : Int) (h : i < xs.length) : rd (xs.set i v) i = v := by
  simp [rd, List.getD_eq_getElem?_getD, h]
theorem rd_set_other (xs : List Int) (i j : Nat) (v : Int) (h : i ≠ j) : rd (xs.set i v) j = rd xs j := by
  simp [rd, List.getD_eq_getElem?_getD, List.getElem?_set_ne h]
theorem rd_out (xs : List Int) (i : Nat) (h : xs.length ≤ i) : rd xs i = 0 := by
  simp [rd, List.getD_eq_getElem?_getD, List.getElem?_eq_none h]
theorem rd_map (f : Int → Int) (xs : List Int) (i : Nat) (h : i < xs.length) : rd (xs.map f) i = f (rd xs i) := by
  simp [rd, List.getD_eq_getElem?_getD, List.getElem?_eq_getElem h]

theorem fill_set (pre : List Int) (m i : Nat) (v : Int) (hi : i = pre.length) (hm : 0 < m) : (pre ++ List.replicate m 0).set i v = pre ++ [v] ++ List.replicate (m - 1) 0 := by
  subst hi
  obtain ⟨m, rfl⟩ : ∃ q, m = q + 1 := ⟨m - 1, by omega⟩
  simp [List.replicate_succ]

/-! ### 2. Items -/
inductive Item where
  | blk (b : Nat) (o : Obj)
  | vec (A : Option Addr) (n cap : Nat) (t : TypeId) (size : Nat) (cs : List Value)
def Item.block : Item → Option Nat
  | .blk b _ => some b
  | .vec A n c _ _ _ => (Value.slice A n c).ownBlock
def Item.holds (w : World) : Item → Prop
  | .blk b o => w.heap[b]? = some o
  | .vec A n c t size cs => w.ownsRow 0 t size (.slice A n c) n cs
/-- A block of n cells. -/
abbrev cellsO (t : TypeId) (cs : List Value) : Obj := .cells cs.toArray t (0, 0)
abbrev rowO (k : IntKind) (t : TypeId) (xs : List Int) : Obj := .cells (nums k xs).toArray t (0, 0)

theorem Item.lt {w : World} {x : Item} (h : x.holds w) {b : Nat} (hb : x.block = some b) : b < w.heap.size := by
  cases x with
  | blk b' o =>
    simp only [Item.block, Option.some.injEq] at hb
    subst hb
    exact (Array.getElem?_eq_some_iff.1 h).1
  | vec A n c t size cs => exact (World.ownsRow.lt h b hb).2
theorem Item.kept {w w' : World} {x : Item} {row : Option Nat} (h : x.holds w) (hg : w.grownBy w' row) (hne : x.block = none ∨ x.block ≠ row) : x.holds w' := by
  cases x with
  | blk b o =>
    have hlt : b < w.heap.size := (Array.getElem?_eq_some_iff.1 h).1
    show w'.heap[b]? = some o
    rw [hg.block b hlt (by rcases hne with hne | hne; · simp [Item.block] at hne
                           · exact hne)]
    exact h
  | vec A n c t size cs => exact World.ownsRow.kept h hg hne

/-- What is known: w is w0 but for new blocks and the old blocks E; the items of L hold, each in a block of its own. -/
structure Mem (w0 : World) (E : List Nat) (w : World) (L : List Item) : Prop where
  os : w.os = w0.os
  tape : w.tape = w0.tape
  output : w.output = w0.output
  size : w0.heap.size ≤ w.heap.size
  old : ∀ i, i < w0.heap.size → i ∉ E → w.heap[i]? = w0.heap[i]?
  holds : ∀ x ∈ L, x.holds w
  fresh : ∀ x ∈ L, ∀ b, x.block = some b → b ∈ E ∨ w0.heap.size ≤ b
  apart : L.Pairwise fun x y => ∀ b, x.block = some b → y.block ≠ some b

theorem Mem.start (w : World) : Mem w [] w [] :=
  ⟨rfl, rfl, rfl, Nat.le_refl _, fun _ _ _ => rfl, by simp, by simp, List.Pairwise.nil⟩
theorem Mem.start1 {w : World} {g : Nat} {o : Obj} (h : w.heap[g]? = some o) : Mem w [g] w [.blk g o] :=
  ⟨rfl, rfl, rfl, Nat.le_refl _, fun _ _ _ => rfl, by simpa [Item.holds] using h, by simp [Item.block], by simp⟩
theorem Mem.below {w0 w : World} {L : List Item} (M : Mem w0 [] w L) : Below w0.heap.size w0 w :=
  ⟨M.os, M.tape, M.output, M.size, fun i hi => M.old i hi (by simp)⟩
theorem Mem.grown1 {w0 w : World} {g : Nat} {L : List Item} (M : Mem w0 [g] w L) : w0.grownBy w (some g) :=
  ⟨M.os, M.tape, M.output, M.size, fun i hi hne => M.old i hi (by simpa using hne)⟩
theorem grown_of_below {w0 w1 : World} (h : Below w0.heap.size w0 w1) (row : Option Nat) : w0.grownBy w1 row := ⟨h.os, h.tape, h.output, h.size, fun i hi _ => h.block i hi⟩
theorem below_of_grown {w0 w1 : World} (h : w0.grownBy w1 none) : Below w0.heap.size w0 w1 := ⟨h.os, h.tape, h.output, h.size, fun i hi => h.block i hi (by simp)⟩
theorem grownBy_refl (w : World) (row : Option Nat) : w.grownBy w row := ⟨rfl, rfl, rfl, Nat.le_refl _, fun _ _ _ => rfl⟩

/-- Item x of L turns into y. -/
inductive Swap (x y : Item) : List Item → List Item → Prop where
  | head {r : List Item} : Swap x y (x :: r) (y :: r)
  | tail {p : Item} {r r' : List Item} : Swap x y r r' → Swap x y (p :: r) (p :: r')
theorem Swap.mem {x y : Item} {L L' : List Item} (h : Swap x y L L') : x ∈ L := by
  induction h with
  | head => simp
  | tail _ ih => simp [ih]
theorem Swap.mem' {x y : Item} {L L' : List Item} (h : Swap x y L L') : ∀ z ∈ L', z = y ∨ z ∈ L := by
  induction h with
  | head => intro z hz; simp at hz; rcases hz with hz | hz <;> simp [hz]
  | tail _ ih =>
    intro z hz
    simp at hz
    rcases hz with hz | hz
    · simp [hz]
    · rcases ih z hz with h | h <;> simp [h]

/-- The general step: row `r` (x's own block or none) is written, blocks are made, x turns into y. -/
theorem Mem.swap {w0 w w' : World} {E : List Nat} {L L' : List Item} {x y : Item} {r : Option Nat} (M : Mem w0 E w L) (hs : Swap x y L L')
    (hg : w.grownBy w' r) (hr : r = none ∨ r = x.block) (hy : y.holds w') (hyb : ∀ b, y.block = some b → x.block = some b ∨ w.heap.size ≤ b) : Mem w0 E w' L' := by
  have hlt : ∀ z ∈ L, ∀ b, z.block = some b → b < w.heap.size := fun z hz b hb => Item.lt (M.holds z hz) hb
  have hxm := hs.mem
  refine ⟨hg.os.trans M.os, hg.tape.trans M.tape, hg.output.trans M.output, Nat.le_trans M.size hg.size, ?_, ?_, ?_, ?_⟩
  · intro i hi hE
    rw [hg.block i (Nat.lt_of_lt_of_le hi M.size) (by
      rcases hr with hr | hr
      · simp [hr]
      · rw [hr]
        intro e
        rcases M.fresh x hxm i e.symm with h | h
        · exact hE h
        · omega)]
    exact M.old i hi hE
  · -- holds
    have key : ∀ {L L' : List Item}, Swap x y L L' → (∀ z ∈ L, z.holds w) → (L.Pairwise fun x y => ∀ b, x.block = some b → y.block ≠ some b) → ∀ z ∈ L', z.holds w' := by
      intro L L' hs
      induction hs with
      | @head rr =>
        intro hh hp z hz
        simp at hz
        rcases hz with hz | hz
        · subst hz; exact hy
        · refine Item.kept (hh z (by simp [hz])) hg ?_
          have h1 := (List.pairwise_cons.1 hp).1 z hz
          rcases hr with hr | hr
          · subst hr
            cases hb : z.block with
            | none => exact .inl rfl
            | some b => exact .inr (by simp)
          · rw [hr]
            cases hb : z.block with
            | none => exact .inl rfl
            | some b =>
              refine .inr fun e => ?_
              exact h1 b e.symm hb
      | @tail p rr rr' hsw ih =>
        intro hh hp z hz
        simp at hz
        rcases hz with hz | hz
        · subst hz
          refine Item.kept (hh z (by simp)) hg ?_
          have h1 := (List.pairwise_cons.1 hp).1 x hsw.mem
          rcases hr with hr | hr
          · subst hr
            cases hb : z.block with
            | none => exact .inl rfl
            | some b => exact .inr (by simp)
          · rw [hr]
            cases hb : z.block with
            | none => exact .inl rfl
            | some b => exact .inr fun e => h1 b hb e.symm
        · exact ih (fun z hz => hh z (by simp [hz])) (List.pairwise_cons.1 hp).2 z hz
    exact key hs M.holds M.apart
  · intro z hz b hb
    rcases hs.mem' z hz with h | h
    · subst h
      rcases hyb b hb with h | h
      · exact M.fresh x hxm b h
      · exact .inr (Nat.le_trans M.size h)
    · exact M.fresh z h b hb
  · have key : ∀ {L L' : List Item}, Swap x y L L' → (∀ z ∈ L, ∀ b, z.block = some b → b < w.heap.size) → (L.Pairwise fun x y => ∀ b, x.block = some b → y.block ≠ some b) →
        L'.Pairwise fun x y => ∀ b, x.block = some b → y.block ≠ some b := by
      intro L L' hs
      induction hs with
      | @head rr =>
        intro hl hp
        obtain ⟨h1, h2⟩ := List.pairwise_cons.1 hp
        refine List.pairwise_cons.2 ⟨fun z hz b hb => ?_, h2⟩
        rcases hyb b hb with h | h
        · exact h1 z hz b h
        · intro e
          have := hl z (by simp [hz]) b e
          omega
      | @tail p rr rr' hsw ih =>
        intro hl hp
        obtain ⟨h1, h2⟩ := List.pairwise_cons.1 hp
        refine List.pairwise_cons.2 ⟨fun z hz b hb => ?_, ih (fun z hz => hl z (by simp [hz])) h2⟩
        rcases hsw.mem' z hz with h | h
        · subst h
          intro e
          rcases hyb b e with h | h
          · exact h1 x hsw.mem b hb h
          · have := hl p (by simp) b hb
            omega
        · exact h1 z h b hb
    exact key hs hlt M.apart
/-- Blocks are made, nothing is written. -/
theorem Mem.grow {w0 w w' : World} {E : List Nat} {L : List Item} (M : Mem w0 E w L) (hg : w.grownBy w' none) : Mem w0 E w' L :=
  ⟨hg.os.trans M.os, hg.tape.trans M.tape, hg.output.trans M.output, Nat.le_trans M.size hg.size,
    fun i hi hE => (hg.block i (Nat.lt_of_lt_of_le hi M.size) (by simp)).trans (M.old i hi hE),
    fun z hz => Item.kept (M.holds z hz) hg (by cases hb : z.block <;> simp), M.fresh, M.apart⟩
theorem Mem.call {w0 w w' : World} {E : List Nat} {L : List Item} (M : Mem w0 E w L) (hb : Below w.heap.size w w') : Mem w0 E w' L := M.grow (grown_of_below hb none)
theorem Mem.drewN {w0 w : World} {E : List Nat} {L : List Item} (M : Mem w0 E w L) (n : Nat) : Mem w0 E (w.drewN n) L := M.grow ⟨rfl, rfl, rfl, Nat.le_refl _, fun _ _ _ => rfl⟩
theorem Mem.drew {w0 w : World} {E : List Nat} {L : List Item} (M : Mem w0 E w L) : Mem w0 E w.drew L := M.grow ⟨rfl, rfl, rfl, Nat.le_refl _, fun _ _ _ => rfl⟩
theorem Mem.drawn {w0 w : World} {E : List Nat} {L : List Item} (M : Mem w0 E w L) (n : Nat) : Mem w0 E { w with drawn := n } L := M.grow ⟨rfl, rfl, rfl, Nat.le_refl _, fun _ _ _ => rfl⟩
/-- A new item. -/
theorem Mem.push {w0 w w' : World} {E : List Nat} {L : List Item} {y : Item} (M : Mem w0 E w L) (hg : w.grownBy w' none) (hy : y.holds w') (hyb : ∀ b, y.block = some b → w.heap.size ≤ b) : Mem w0 E w' (y :: L) := by
  have M' := M.grow hg
  refine ⟨M'.os, M'.tape, M'.output, M'.size, M'.old, ?_, ?_, ?_⟩
  · intro z hz
    simp at hz
    rcases hz with hz | hz
    · subst hz; exact hy
    · exact M'.holds z hz
  · intro z hz b hb
    simp at hz
    rcases hz with hz | hz
    · subst hz; exact .inr (Nat.le_trans M.size (hyb b hb))
    · exact M'.fresh z hz b hb
  · refine List.pairwise_cons.2 ⟨fun z hz b hb e => ?_, M.apart⟩
    have h1 := hyb b hb
    have h2 := Item.lt (M.holds z hz) e
    omega
theorem Mem.tail {w0 w : World} {E : List Nat} {L : List Item} {x : Item} (M : Mem w0 E w (x :: L)) : Mem w0 E w L :=
  ⟨M.os, M.tape, M.output, M.size, M.old, fun z hz => M.holds z (by simp [hz]), fun z hz => M.fresh z (by simp [hz]), (List.pairwise_cons.1 M.apart).2⟩
/-- Fewer items: a part of the list. -/
theorem Mem.sub {w0 w : World} {E : List Nat} {L L' : List Item} (M : Mem w0 E w L) (h : L'.Sublist L) : Mem w0 E w L' :=
  ⟨M.os, M.tape, M.output, M.size, M.old, fun z hz => M.holds z (h.subset hz), fun z hz => M.fresh z (h.subset hz), M.apart.sublist h⟩
/-- The world turns into one with the same memory. -/
theorem grown_alloc (w : World) (o : Obj) : w.grownBy (w.alloc o) none := World.grownBy_alloc w o none
theorem Mem.alloc {w0 w : World} {E : List Nat} {L : List Item} (M : Mem w0 E w L) (o : Obj) : Mem w0 E (w.alloc o) (.blk w.heap.size o :: L) :=
  M.push (grown_alloc w o) (heap_alloc_new w o) (by simp [Item.block])
theorem Mem.mono0 {w0 w : World} {L : List Item} (M : Mem w0 [] w L) (E : List Nat) : Mem w0 E w L :=
  ⟨M.os, M.tape, M.output, M.size, fun i hi _ => M.old i hi (by simp), M.holds, fun x hx b hb => .inr ((M.fresh x hx b hb).resolve_left (by simp)), M.apart⟩

/-! ### 3. Writing a block -/
theorem heap_setCell_at (w : World) (g i : Nat) (cs : List Value) (t : TypeId) (v : Value) (hg : w.heap[g]? = some (cellsO t cs)) :
    (w.setCell ⟨g, i, none⟩ v).heap[g]? = some (cellsO t (cs.set i v)) := by
  rw [heap_setCell_same w g i cs.toArray t v hg]
  simp
theorem grown_setCell (w : World) (g i : Nat) (v : Value) : w.grownBy (w.setCell ⟨g, i, none⟩ v) (some g) :=
  ⟨rfl, rfl, rfl, by simp, fun k _ hk => heap_setCell_other w ⟨g, i, none⟩ k v (fun e => hk (by simp [e]))⟩
theorem Mem.setCell {w0 w : World} {E : List Nat} {L L' : List Item} {g i : Nat} {t : TypeId} {cs : List Value} {v : Value} (M : Mem w0 E w L)
    (hs : Swap (.blk g (cellsO t cs)) (.blk g (cellsO t (cs.set i v))) L L') : Mem w0 E (w.setCell ⟨g, i, none⟩ v) L' :=
  M.swap hs (grown_setCell w g i v) (.inr rfl) (heap_setCell_at w g i cs t v (M.holds _ hs.mem)) (fun b hb => .inl hb)
theorem grown_setRow (w : World) (g : Nat) (cs : Array Value) : w.grownBy (w.setRow g cs) (some g) :=
  ⟨rfl, rfl, rfl, by simp, fun k _ hk => setRow_other w g k cs (fun e => hk (by simp [e]))⟩
theorem Mem.setRow {w0 w : World} {E : List Nat} {L L' : List Item} {g : Nat} {t : TypeId} {cs : List Value} {vs : List Value} (M : Mem w0 E w L)
    (hs : Swap (.blk g (cellsO t cs)) (.blk g (cellsO t vs)) L L') : Mem w0 E (w.setRow g vs.toArray) L' :=
  M.swap hs (grown_setRow w g _) (.inr rfl) (setRow_heap w g cs.toArray vs.toArray t (0, 0) (M.holds _ hs.mem)) (fun b hb => .inl hb)

/-! ### 4. Steps of a walk -/
section
variable {P : Program} {ops : Array Oper} {rest : List Oper} {o : Oper} {a : Act} {w w0 : World} {Q : Exit → Act → World → Prop} {E : List Nat} {L L' : List Item}

theorem run_load_cell {ty : TypeId} {d : TypeDesc} (hu : P.underlying ty = some d) (hd : d.isRow = false) {ad : Addr} {v : Value} (hc : w.cell? ad = some v) :
    (loadVar ty ad).run P w = .ok v w := by
  have hagg : (isAgg ty).run P w = .ok false w := by
    unfold isAgg
    rw [Sem.run_bind, run_underlying hu w]
    cases d <;> simp_all [TypeDesc.isRow]
  simp [loadVar, Sem.run_bind, hagg, run_load, hc]
theorem wpList_ld (hgd : o.guard = none) {ty : TypeId} {x : Operand} (ho : o.op = .load ty x) {d : TypeDesc} (hu : P.underlying ty = some d) (hd : d.isRow = false) {ad : Addr}
    (hx : a.eval x = .pointer (some ad)) {v : Value} (hc : w.cell? ad = some v) (h : wpList P ops Q rest (a.put o.dst v) w) : wpList P ops Q (o :: rest) a w :=
  wpList_plain hgd fun K hK => by
    unfold Oper.wp execOp
    simp only [ho, hx, Instr.loadAt, Instr.sureAddr, Sem.run_bind, Sem.run_pure, Result.andThen_ok, run_load_cell hu hd hc]
    exact hK _ _ h
/-- A cell of a block that is an item. -/
theorem Mem.cell (M : Mem w0 E w L) {g : Nat} {t : TypeId} {cs : List Value} (hin : .blk g (cellsO t cs) ∈ L) {i : Nat} {v : Value} (hv : cs[i]? = some v) : w.cell? ⟨g, i, none⟩ = some v := by
  have h : w.heap[g]? = some (cellsO t cs) := M.holds _ hin
  rw [cell_of_row w g i cs.toArray t (0, 0) h]
  simpa using hv
theorem Mem.cellN (M : Mem w0 E w L) {g : Nat} {k : IntKind} {t : TypeId} {xs : List Int} (hin : .blk g (rowO k t xs) ∈ L) {i : Nat} (hi : i < xs.length) : w.cell? ⟨g, i, none⟩ = some (.int k (rd xs i)) :=
  M.cell hin (nums_get k xs i hi)
theorem Mem.free (M : Mem w0 E w L) {g : Nat} {t : TypeId} {cs : List Value} (hin : .blk g (cellsO t cs) ∈ L) (i : Nat) : w.frozen? ⟨g, i, none⟩ = false :=
  frozen_of_row w g i cs.toArray t (M.holds _ hin)
theorem wpList_ldN {ty : TypeId} {d : TypeDesc} (hu : P.underlying ty = some d) (hgd : o.guard = none)  {x : Operand} (ho : o.op = .load ty x)   (hd : d.isRow = false) {g i : Nat}
    (hx : a.eval x = .pointer (some ⟨g, i, none⟩)) (M : Mem w0 E w L) {k : IntKind} {t : TypeId} {xs : List Int} (hin : .blk g (rowO k t xs) ∈ L) (hi : i < xs.length)
    (h : wpList P ops Q rest (a.put o.dst (.int k (rd xs i))) w) : wpList P ops Q (o :: rest) a w :=
  wpList_ld hgd ho hu hd hx (M.cellN hin hi) h
theorem run_store_cell {ty : TypeId} (hsz : (P.info? ty).map (·.size) = some 1) {ad : Addr} {v u : Value} (hv : v.oneCell' = true) (hc : w.cell? ad = some u) (hf : w.frozen? ad = false) :
    (storeVar ty ad v).run P w = .ok () (w.setCell ad v) := by
  have hcs : v.cells = #[v] := by cases v <;> first | rfl | simp [Value.oneCell'] at hv
  cases hq : P.info? ty with
  | none => simp [hq] at hsz
  | some i =>
    have hs : i.size = 1 := by simpa [hq] using hsz
    simp [storeVar, sizeOf, typeInfo, hq, hcs, hs, storeCells, Addr.add_zero', run_store P w ad v _ hv, hc, hf]
theorem wpList_st (hgd : o.guard = none) {ty : TypeId} {x y : Operand} (ho : o.op = .store ty x y) (hsz : (P.info? ty).map (·.size) = some 1) {ad : Addr} (hx : a.eval x = .pointer (some ad))
    {v u : Value} (hy : a.eval y = v) (hv : v.oneCell' = true) (hc : w.cell? ad = some u) (hf : w.frozen? ad = false)
    (h : wpList P ops Q rest (a.put o.dst undef) (w.setCell ad v)) : wpList P ops Q (o :: rest) a w :=
  wpList_plain hgd fun K hK => by
    unfold Oper.wp execOp
    simp only [ho, hx, hy, Instr.storeAt, Instr.sureAddr, Sem.run_bind, Sem.run_pure, Result.andThen_ok, run_store_cell hsz hv hc hf]
    exact hK _ _ h
/-- A store into a block that is an item; the world behind it is a letter. -/
theorem wpList_stM (hgd : o.guard = none) {ty : TypeId} {x y : Operand} (ho : o.op = .store ty x y) (hsz : (P.info? ty).map (·.size) = some 1) {g i : Nat} (hx : a.eval x = .pointer (some ⟨g, i, none⟩))
    {v : Value} (hy : a.eval y = v) (hv : v.oneCell' = true) (M : Mem w0 E w L) {t : TypeId} {cs : List Value} (hs : Swap (.blk g (cellsO t cs)) (.blk g (cellsO t (cs.set i v))) L L') (hi : i < cs.length)
    (h : ∀ w', Mem w0 E w' L' → wpList P ops Q rest (a.put o.dst undef) w') : wpList P ops Q (o :: rest) a w :=
  wpList_st hgd ho hsz hx hy hv (M.cell hs.mem (List.getElem?_eq_getElem hi)) (M.free hs.mem i) (h _ (M.setCell hs))
theorem wpList_stN {ty : TypeId} (hsz : (P.info? ty).map (·.size) = some 1) (hgd : o.guard = none)  {x y : Operand} (ho : o.op = .store ty x y)  {g i : Nat} (hx : a.eval x = .pointer (some ⟨g, i, none⟩))
    {k : IntKind} {v : Int} (hy : a.eval y = .int k v) (M : Mem w0 E w L) {t : TypeId} {xs : List Int} (hs : Swap (.blk g (rowO k t xs)) (.blk g (rowO k t (xs.set i v))) L L') (hi : i < xs.length)
    (h : ∀ w', Mem w0 E w' L' → wpList P ops Q rest (a.put o.dst undef) w') : wpList P ops Q (o :: rest) a w :=
  wpList_stM hgd ho hsz hx hy rfl M (by rw [nums_set]; exact hs) (by rw [nums_length]; exact hi) h
/-- A whole row is read. -/
theorem wpList_ldrow (hgd : o.guard = none) {ty : TypeId} {x : Operand} (ho : o.op = .load ty x) {d : TypeDesc} (hu : P.underlying ty = some d) (hd : d.isRow = true) {g : Nat}
    (hx : a.eval x = .pointer (some ⟨g, 0, none⟩)) (M : Mem w0 E w L) {t : TypeId} {cs : List Value} (hin : .blk g (cellsO t cs) ∈ L) (hsz : (P.info? ty).map (·.size) = some cs.length)
    (h : wpList P ops Q rest (a.put o.dst (.agg cs.toArray)) w) : wpList P ops Q (o :: rest) a w :=
  wpList_load_row hgd ty x ho g hx t cs.toArray (0, 0) d (M.holds _ hin) hu (by cases d <;> simp_all [TypeDesc.isRow]) (by simpa using hsz) h
/-- A whole row is written. -/
theorem wpList_strow (hgd : o.guard = none) {ty : TypeId} {x y : Operand} (ho : o.op = .store ty x y) {g : Nat} (hx : a.eval x = .pointer (some ⟨g, 0, none⟩)) {vs : List Value} (hy : a.eval y = .agg vs.toArray)
    (M : Mem w0 E w L) {t : TypeId} {cs : List Value} (hs : Swap (.blk g (cellsO t cs)) (.blk g (cellsO t vs)) L L') (hsz : (P.info? ty).map (·.size) = some vs.length) (hl : cs.length = vs.length) (h1 : ∀ v ∈ vs, v.oneCell' = true)
    (h : ∀ w', Mem w0 E w' L' → wpList P ops Q rest (a.put o.dst undef) w') : wpList P ops Q (o :: rest) a w :=
  wpList_plain hgd fun K hK => by
    have hr := run_storeVar_row (P := P) w g t ty cs.toArray vs.toArray (M.holds _ hs.mem) (by simpa using hsz) (by simpa using hl) (by simpa [Array.all_eq_true_iff_forall_mem] using h1)
    unfold Oper.wp execOp
    simp only [ho, hx, hy, Instr.storeAt, Instr.sureAddr, Sem.run_bind, Sem.run_pure, Result.andThen_ok, hr]
    exact hK _ _ (h _ (M.setRow hs))
theorem run_zeroValue {ty : TypeId} {z : Value} (hz : (P.info? ty).map (·.zero) = some (some z)) (w : World) : (zeroValue ty).run P w = .ok z w := by
  obtain ⟨i, hi, hiz⟩ := Option.map_eq_some_iff.1 hz
  simp [zeroValue, typeInfo, hi, hiz]
theorem run_newVar (ty : TypeId) (v : Value) (w : World) : (newVar ty v).run P w = .ok ⟨w.heap.size, 0, none⟩ (w.alloc (.cells v.cells ty)) := by
  simp [newVar, newRow, newObj, Sem.run]
/-- A new variable. -/
theorem wpList_al (hgd : o.guard = none) {ty : TypeId} (ho : o.op = .alloc ty) (M : Mem w0 E w L) {z : Value} {cs : List Value} (hz : (P.info? ty).map (·.zero) = some (some z)) (hzc : z.cells = cs.toArray)
    (h : ∀ b w', Mem w0 E w' (.blk b (cellsO ty cs) :: L) → wpList P ops Q rest (a.put o.dst (.pointer (some ⟨b, 0, none⟩))) w') : wpList P ops Q (o :: rest) a w :=
  wpList_plain hgd fun K hK => by
    have hr : (Instr.alloc ty true (.tuple #[])).run P w = .ok (.pointer (some ⟨w.heap.size, 0, none⟩)) (w.alloc (cellsO ty cs)) := by
      unfold Instr.alloc
      simp [run_zeroValue hz, run_newVar, hzc]
    unfold Oper.wp execOp
    simp only [ho, Sem.run_bind, Sem.run_pure, Result.andThen_ok, hr]
    exact hK _ _ (h _ _ (M.alloc _))
/-- A parameter whose address is taken. -/
theorem wpList_bx (hgd : o.guard = none) {ty : TypeId} {x : Operand} (ho : o.op = .box ty x) (M : Mem w0 E w L) {v : Value} (hx : a.eval x = v) {cs : List Value} (hzc : v.cells = cs.toArray)
    (h : ∀ b w', Mem w0 E w' (.blk b (cellsO ty cs) :: L) → wpList P ops Q rest (a.put o.dst (.pointer (some ⟨b, 0, none⟩))) w') : wpList P ops Q (o :: rest) a w :=
  wpList_plain hgd fun K hK => by
    have hr : (Instr.box ty v).run P w = .ok (.pointer (some ⟨w.heap.size, 0, none⟩)) (w.alloc (cellsO ty cs)) := by
      unfold Instr.box
      simp [run_newVar, hzc]
    unfold Oper.wp execOp
    simp only [ho, hx, Sem.run_bind, Sem.run_pure, Result.andThen_ok, hr]
    exact hK _ _ (h _ _ (M.alloc _))
theorem wpList_alN {ty : TypeId} {k : IntKind} {n : Nat} (hz : (P.info? ty).map (·.zero) = some (some (.agg (nums k (List.replicate n 0)).toArray))) (m : Nat) (hm : o.dst = some m) (hgd : o.guard = none) (ho : o.op = .alloc ty) (M : Mem w0 E w L)
    (h : ∀ b w', Mem w0 E w' (.blk b (rowO k ty (List.replicate n 0)) :: L) → wpList P ops Q rest (a.put (some m) (.pointer (some ⟨b, 0, none⟩))) w') : wpList P ops Q (o :: rest) a w :=
  wpList_al hgd ho M hz rfl (by rw [hm]; exact h)
theorem wpList_bxN (m : Nat) (hm : o.dst = some m) (hgd : o.guard = none) {ty : TypeId} {x : Operand} (ho : o.op = .box ty x) {k : IntKind} {xs : List Int} (hx : a.eval x = .agg (nums k xs).toArray) (M : Mem w0 E w L)
    (h : ∀ b w', Mem w0 E w' (.blk b (rowO k ty xs) :: L) → wpList P ops Q rest (a.put (some m) (.pointer (some ⟨b, 0, none⟩))) w') : wpList P ops Q (o :: rest) a w :=
  wpList_bx hgd ho M hx rfl (by rw [hm]; exact h)
theorem wpList_ldrowN {ty : TypeId} {d : TypeDesc} {n : Nat} (hu : P.underlying ty = some d) (hsz : (P.info? ty).map (·.size) = some n) (hgd : o.guard = none)  {x : Operand} (ho : o.op = .load ty x)   (hd : d.isRow = true)   {g : Nat}
    (hx : a.eval x = .pointer (some ⟨g, 0, none⟩)) (M : Mem w0 E w L) {k : IntKind} {t : TypeId} {xs : List Int} (hin : .blk g (rowO k t xs) ∈ L) (hn : xs.length = n)
    (h : wpList P ops Q rest (a.put o.dst (.agg (nums k xs).toArray)) w) : wpList P ops Q (o :: rest) a w :=
  wpList_ldrow hgd ho hu hd hx M hin (by rw [hsz, nums_length, hn]) h
theorem wpList_strowN {ty : TypeId} {n : Nat} (hsz : (P.info? ty).map (·.size) = some n) (hgd : o.guard = none)  {x y : Operand} (ho : o.op = .store ty x y)   {g : Nat} (hx : a.eval x = .pointer (some ⟨g, 0, none⟩)) {k : IntKind} {ys : List Int}
    (hy : a.eval y = .agg (nums k ys).toArray) (M : Mem w0 E w L) {t : TypeId} {xs : List Int} (hs : Swap (.blk g (rowO k t xs)) (.blk g (rowO k t ys)) L L') (hn : xs.length = n) (hn' : ys.length = n)
    (h : ∀ w', Mem w0 E w' L' → wpList P ops Q rest (a.put o.dst undef) w') : wpList P ops Q (o :: rest) a w :=
  wpList_strow hgd ho hx hy M hs (by rw [hsz, nums_length, hn']) (by rw [nums_length, nums_length, hn, hn']) (nums_one k ys) h
/-- string(b[i:j]), b a row of bytes. -/
theorem wpList_cvS {src dst e : TypeId} (hs : P.underlying src = some (.slice e)) (he : P.underlying e = some (.int .u8)) (hd : P.underlying dst = some .string) (hgd : o.guard = none)  {x : Operand} (ho : o.op = .convert src dst x)   
    {g off len cap : Nat} (hx : a.eval x = .slice (some ⟨g, off, none⟩) len cap) (M : Mem w0 E w L) {t : TypeId} {xs : List Int} (hin : .blk g (rowO .u8 t xs) ∈ L) (hl : off + len ≤ xs.length)
    (h : wpList P ops Q rest (a.put o.dst (.string (strOfNums ((xs.drop off).take len)))) w) : wpList P ops Q (o :: rest) a w :=
  wpList_plain hgd fun K hK => by
    have hr := run_convert_bytes_arg (P := P) w src e hs he g off len cap ((xs.drop off).take len) (by simp; omega) (fun i hi => by
      rw [M.cellN hin (by omega)]
      simp [rd, List.getD_eq_getElem?_getD, hi]) dst hd
    unfold Oper.wp execOp
    simp only [ho, hx, Sem.run_bind, Sem.run_pure, Result.andThen_ok, hr]
    exact hK _ _ h
/-- The end of a function whose result is an array. -/
theorem ret_rowN {fn : Func} {R : Ending → World → Prop} {ty : TypeId} {d : TypeDesc} {n : Nat} (hu : P.underlying ty = some d) (hsz : (P.info? ty).map (·.size) = some n) {p : Tmp} (hres : fn.results = #[.cell p ty]) (hd : d.isRow = true) {g : Nat}
    (hp : a.tmps.getD p undef = .pointer (some ⟨g, 0, none⟩)) (hdef : a.defers = []) (M : Mem w0 E w L) {k : IntKind} {t : TypeId} {xs : List Int} (hin : .blk g (rowO k t xs) ∈ L) (hn : xs.length = n)
    (hR : R (.returned (.agg (nums k xs).toArray)) w) : bodyPost P fn R .ret a w :=
  bodyPost_ret (results_cell_row hres a.tmps w g t (nums k xs).toArray (0, 0) d hp (M.holds _ hin) hu (by cases d <;> simp_all [TypeDesc.isRow]) (by rw [hsz]; simp [nums_length, hn])) hdef hR
/-- A part of an array: a[l:h]. -/
theorem wpList_slA {t e : TypeId} {n : Nat} (hu : P.underlying t = some (.array n e)) (hsz : (P.info? e).map (·.size) = some 1) (hgd : o.guard = none) {x lo hi : Operand} (ho : o.op = .slice t x (some lo) (some hi) none) {g off : Nat}
    (hx : a.eval x = .pointer (some ⟨g, off, none⟩)) {k1 k2 : IntKind} {l h : Int} (hl : a.eval lo = .int k1 l) (hh : a.eval hi = .int k2 h) (h0 : 0 ≤ l) (h1 : l ≤ h) (h2 : h ≤ n) (h3 : l < n)
    (hk : wpList P ops Q rest (a.put o.dst (.slice (some ⟨g, off + l.toNat, none⟩) (h.toNat - l.toNat) (n - l.toNat))) w) : wpList P ops Q (o :: rest) a w :=
  wpList_plain hgd fun K hK => by
    have hr : (Instr.sliceAt t (.pointer (some ⟨g, off, none⟩)) (some (.int k1 l)) (some (.int k2 h)) none).run P w = .ok (.slice (some ⟨g, off + l.toNat, none⟩) (h.toNat - l.toNat) (n - l.toNat)) w := by
      obtain ⟨i, hi, his⟩ := Option.map_eq_some_iff.1 hsz
      obtain ⟨l', rfl⟩ := Int.eq_ofNat_of_zero_le h0
      obtain ⟨h', rfl⟩ := Int.eq_ofNat_of_zero_le (Int.le_trans h0 h1)
      have e1 : h' ≤ n := by omega
      have e2 : l' ≤ h' := by omega
      have e3 : ¬ n = l' := by omega
      have e4 : (⟨g, off, none⟩ : Addr).add l' = ⟨g, off + l', none⟩ := Addr.add_lit g off l'
      simp [Instr.sliceAt, run_underlying hu, Instr.sureAddr, Instr.sliceBounds, Instr.sliceBound, asIntOf, e1, e2, sizeOf, typeInfo, hi, his, e3, e4]
    unfold Oper.wp execOp
    simp only [ho, hx, hl, hh, Option.map_some, Option.map_none, Sem.run_bind, Sem.run_pure, Result.andThen_ok, hr]
    exact hK _ _ hk
/-- All of an array: a[:]. -/
theorem wpList_slW {t e : TypeId} {n : Nat} (hu : P.underlying t = some (.array n e)) (hsz : (P.info? e).map (·.size) = some 1) (hn : n ≠ 0) (hgd : o.guard = none) {x : Operand} (ho : o.op = .slice t x none none none) {g off : Nat}
    (hx : a.eval x = .pointer (some ⟨g, off, none⟩))
    (hk : wpList P ops Q rest (a.put o.dst (.slice (some ⟨g, off, none⟩) n n)) w) : wpList P ops Q (o :: rest) a w :=
  wpList_plain hgd fun K hK => by
    have hr : (Instr.sliceAt t (.pointer (some ⟨g, off, none⟩)) none none none).run P w = .ok (.slice (some ⟨g, off, none⟩) n n) w := by
      obtain ⟨i, hi, his⟩ := Option.map_eq_some_iff.1 hsz
      simp [Instr.sliceAt, run_underlying hu, Instr.sureAddr, Instr.sliceBounds, sizeOf, typeInfo, hi, his, hn, Addr.add_zero']
    unfold Oper.wp execOp
    simp only [ho, hx, Option.map_none, Sem.run_bind, Sem.run_pure, Result.andThen_ok, hr]
    exact hK _ _ hk
/-- The end of an array: a[l:]. -/
theorem wpList_slE {t e : TypeId} {n : Nat} (hu : P.underlying t = some (.array n e)) (hsz : (P.info? e).map (·.size) = some 1) (hgd : o.guard = none) {x lo : Operand} (ho : o.op = .slice t x (some lo) none none) {g off : Nat}
    (hx : a.eval x = .pointer (some ⟨g, off, none⟩)) {k1 : IntKind} {l : Int} (hl : a.eval lo = .int k1 l) (h0 : 0 ≤ l) (h3 : l < n)
    (hk : wpList P ops Q rest (a.put o.dst (.slice (some ⟨g, off + l.toNat, none⟩) (n - l.toNat) (n - l.toNat))) w) : wpList P ops Q (o :: rest) a w :=
  wpList_plain hgd fun K hK => by
    have hr : (Instr.sliceAt t (.pointer (some ⟨g, off, none⟩)) (some (.int k1 l)) none none).run P w = .ok (.slice (some ⟨g, off + l.toNat, none⟩) (n - l.toNat) (n - l.toNat)) w := by
      obtain ⟨i, hi, his⟩ := Option.map_eq_some_iff.1 hsz
      obtain ⟨l', rfl⟩ := Int.eq_ofNat_of_zero_le h0
      have e2 : l' ≤ n := by omega
      have e3 : ¬ n = l' := by omega
      have e4 : (⟨g, off, none⟩ : Addr).add l' = ⟨g, off + l', none⟩ := Addr.add_lit g off l'
      simp [Instr.sliceAt, run_underlying hu, Instr.sureAddr, Instr.sliceBounds, Instr.sliceBound, asIntOf, e2, sizeOf, typeInfo, hi, his, e3, e4]
    unfold Oper.wp execOp
    simp only [ho, hx, hl, Option.map_some, Option.map_none, Sem.run_bind, Sem.run_pure, Result.andThen_ok, hr]
    exact hK _ _ hk
/-- The row of a conversion: it bears a mark behind its end. -/
abbrev markO (t : TypeId) (cs : List Value) : Obj := .cells cs.toArray t (cs.length, cs.length + 1)
theorem Mem.cellK (M : Mem w0 E w L) {g : Nat} {t : TypeId} {cs : List Value} (hin : .blk g (markO t cs) ∈ L) {i : Nat} {v : Value} (hv : cs[i]? = some v) : w.cell? ⟨g, i, none⟩ = some v := by
  have h : w.heap[g]? = some (markO t cs) := M.holds _ hin
  rw [cell_of_row w g i cs.toArray t _ h]
  simpa using hv
theorem Mem.cellKN (M : Mem w0 E w L) {g : Nat} {k : IntKind} {t : TypeId} {xs : List Int} (hin : .blk g (markO t (nums k xs)) ∈ L) {i : Nat} (hi : i < xs.length) : w.cell? ⟨g, i, none⟩ = some (.int k (rd xs i)) :=
  M.cellK hin (nums_get k xs i hi)
theorem Mem.freeK (M : Mem w0 E w L) {g : Nat} {t : TypeId} {cs : List Value} (hin : .blk g (markO t cs) ∈ L) {i : Nat} (hi : i < cs.length) : w.frozen? ⟨g, i, none⟩ = false := by
  have h : w.heap[g]? = some (markO t cs) := M.holds _ hin
  simp [World.frozen?, h]
  omega
theorem heap_setCell_mark (w : World) (g i : Nat) (cs : List Value) (t : TypeId) (v : Value) (hg : w.heap[g]? = some (markO t cs)) :
    (w.setCell ⟨g, i, none⟩ v).heap[g]? = some (markO t (cs.set i v)) := by
  rw [setCell_eq_setRow w g i cs.toArray t _ v hg, setRow_heap w g cs.toArray _ t _ hg]
  simp
theorem Mem.setCellK {g i : Nat} {t : TypeId} {cs : List Value} {v : Value} (M : Mem w0 E w L)
    (hs : Swap (.blk g (markO t cs)) (.blk g (markO t (cs.set i v))) L L') : Mem w0 E (w.setCell ⟨g, i, none⟩ v) L' :=
  M.swap hs (grown_setCell w g i v) (.inr rfl) (heap_setCell_mark w g i cs t v (M.holds _ hs.mem)) (fun b hb => .inl hb)
theorem wpList_stKN {ty : TypeId} (hsz : (P.info? ty).map (·.size) = some 1) (hgd : o.guard = none) {x y : Operand} (ho : o.op = .store ty x y) {g i : Nat} (hx : a.eval x = .pointer (some ⟨g, i, none⟩))
    {k : IntKind} {v : Int} (hy : a.eval y = .int k v) (M : Mem w0 E w L) {t : TypeId} {xs : List Int} (hs : Swap (.blk g (markO t (nums k xs))) (.blk g (markO t (nums k (xs.set i v)))) L L') (hi : i < xs.length)
    (h : ∀ w', Mem w0 E w' L' → wpList P ops Q rest (a.put o.dst undef) w') : wpList P ops Q (o :: rest) a w := by
  rw [← nums_set] at hs
  exact wpList_st hgd ho hsz hx hy rfl (M.cellK hs.mem (List.getElem?_eq_getElem (by rw [nums_length]; exact hi))) (M.freeK hs.mem (by rw [nums_length]; exact hi)) (h _ (M.setCellK hs))
/-- []byte(s). -/
theorem wpList_cvB {src dst e : TypeId} {u : TypeDesc} (hs : P.underlying src = some u) (hd : P.underlying dst = some (.slice e)) (he : P.underlying e = some (.int .u8)) (hgd : o.guard = none) {x : Operand} (ho : o.op = .convert src dst x)
    {s : ByteArray} (hx : a.eval x = .string s) (M : Mem w0 E w L)
    (h : ∀ b cap ys w', Mem w0 E w' (.blk b (markO e (nums .u8 (s.data.toList.map (fun b => (b.toNat : Int)) ++ ys))) :: L) → wpList P ops Q rest (a.put o.dst (.slice (some ⟨b, 0, none⟩) s.size cap)) w') : wpList P ops Q (o :: rest) a w :=
  wpList_plain hgd fun K hK => by
    have hr := Lib.run_convert_string_bytes (P := P) w src dst e s hs hd he
    unfold Oper.wp execOp
    simp only [ho, hx, Sem.run_bind, Sem.run_pure, Result.andThen_ok, hr]
    refine hK _ _ (h w.heap.size _ (List.replicate (grownCap w s.size 0 e - s.size) 0) _ ?_)
    have e1 : nums .u8 (s.data.toList.map (fun b => (b.toNat : Int)) ++ List.replicate (grownCap w s.size 0 e - s.size) 0) = (Lib.bytesCells w e s).toList := by
      simp [nums, Lib.bytesCells]
    refine M.push ⟨rfl, rfl, rfl, by rw [Lib.bytesWorld_size]; omega, fun k hk _ => Lib.bytesWorld_at_old w e s k hk⟩ ?_ (by simp [Item.block])
    show (Lib.bytesWorld w e s).heap[w.heap.size]? = _
    rw [Lib.bytesWorld_at_new, e1]
    simp [markO]
/-- string(b[i:j]), b the row of a conversion. -/
theorem wpList_cvK {src dst e : TypeId} (hs : P.underlying src = some (.slice e)) (he : P.underlying e = some (.int .u8)) (hd : P.underlying dst = some .string) (hgd : o.guard = none) {x : Operand} (ho : o.op = .convert src dst x)
    {g off len cap : Nat} (hx : a.eval x = .slice (some ⟨g, off, none⟩) len cap) (M : Mem w0 E w L) {t : TypeId} {xs : List Int} (hin : .blk g (markO t (nums .u8 xs)) ∈ L) (hl : off + len ≤ xs.length)
    (h : wpList P ops Q rest (a.put o.dst (.string (strOfNums ((xs.drop off).take len)))) w) : wpList P ops Q (o :: rest) a w :=
  wpList_plain hgd fun K hK => by
    have hr := run_convert_bytes_arg (P := P) w src e hs he g off len cap ((xs.drop off).take len) (by simp; omega) (fun i hi => by
      rw [M.cellKN hin (by omega)]
      simp [rd, List.getD_eq_getElem?_getD, hi]) dst hd
    unfold Oper.wp execOp
    simp only [ho, hx, Sem.run_bind, Sem.run_pure, Result.andThen_ok, hr]
    exact hK _ _ h
/-- A literal, by an equation on the operation. -/
theorem wpList_bld {t : TypeId} {vs : Array (Nat × Value)} {v : Value} (hb : ∀ w : World, (Instr.build t vs).run P w = .ok v w) (hgd : o.guard = none) {parts : Array (Nat × Operand)} (ho : o.op = .build t parts)
    (hp : (parts.toList.map fun (i, x) => (i, a.eval x)) = vs.toList) (h : wpList P ops Q rest (a.put o.dst v) w) : wpList P ops Q (o :: rest) a w :=
  wpList_plain hgd fun K hK => by
    have hp' : (parts.map fun (i, x) => (i, a.eval x)) = vs := by
      apply Array.toList_inj.1
      simpa using hp
    subst hp'
    unfold Oper.wp execOp
    simp only [ho, Sem.run_bind, Sem.run_pure, Result.andThen_ok, hb]
    exact hK _ _ h
end

/-! ### 4b. Regions that draw their order -/
section
variable {P : Program} {a : Act} {w w0 : World} {Q : Exit → Act → World → Prop} {E : List Nat} {L : List Item}
/-- Reads first, what stands behind them in one forced order: the world is a letter. -/
theorem wp_region_tailM {id : Nat} {l : List Oper} (n : Nat) (hm : P.follows .mixedOrders = true) (hB : Region.lexTailB .any l.toArray n = true) (M : Mem w0 E w L)
    (h : ∀ w1, Mem w0 E w1 L → wpStill P l.toArray w1 (fun a' => wpList P l.toArray Q (l.drop n) a' w1) (l.take n) a) : (Code.region id l.toArray true).wp P Q a w :=
  wp_region_still_tail n hm hB (h _ (M.drawn _))
/-- Reads alone. -/
theorem wp_region_stillM {id : Nat} {l : List Oper} (hm : P.follows .mixedOrders = true) (hB : Region.lexB .any l.toArray = true) (M : Mem w0 E w L)
    (h : ∀ w1, Mem w0 E w1 L → wpStill P l.toArray w1 (fun a' => Q .normal a' w1) l a) : (Code.region id l.toArray true).wp P Q a w :=
  wp_region_still_lit hm hB (h _ (M.drawn _))
end

/-! ### 5. Strings as lists of numbers -/
def bytesOf (s : ByteArray) : List Int := s.data.toList.map fun b => (b.toNat : Int)
theorem bytesOf_length (s : ByteArray) : (bytesOf s).length = s.size := by simp [bytesOf]
@[go_sem] theorem byte_rd (s : ByteArray) (i : Nat) (h : i < s.size) : (((s[i]'h).toNat : Nat) : Int) = rd (bytesOf s) i := by
  unfold rd bytesOf
  have h' : i < s.data.toList.length := by simpa using h
  simp [List.getD_eq_getElem?_getD, List.getElem?_eq_getElem h']
  rfl
theorem byte_range (s : ByteArray) (i : Nat) : 0 ≤ rd (bytesOf s) i ∧ rd (bytesOf s) i < 256 := by
  unfold rd bytesOf
  rw [List.getD_eq_getElem?_getD, List.getElem?_map]
  cases h : s.data.toList[i]? with
  | none => simp
  | some b =>
    have := b.toNat_lt
    simp
    omega
def isByte (x : Int) : Prop := 0 ≤ x ∧ x < 256
theorem bytesOf_all (s : ByteArray) : ∀ x ∈ bytesOf s, isByte x := by
  intro x hx
  simp only [bytesOf, List.mem_map] at hx
  obtain ⟨b, _, rfl⟩ := hx
  have := b.toNat_lt
  exact ⟨by omega, by omega⟩
theorem bytesOf_str (xs : List Int) (h : ∀ x ∈ xs, isByte x) : bytesOf (strOfNums xs) = xs := by
  unfold bytesOf strOfNums
  simp only [List.map_map]
  conv => rhs; rw [← List.map_id xs]
  apply List.map_congr_left
  intro x hx
  obtain ⟨h0, h1⟩ := h x hx
  simp
  omega
theorem str_bytesOf (s : ByteArray) : strOfNums (bytesOf s) = s := by
  have h : (s.data.toList.map fun b => (b.toNat : Int)).map (fun n => UInt8.ofNat n.toNat) = s.data.toList := by
    rw [List.map_map]
    conv => rhs; rw [← List.map_id s.data.toList]
    apply List.map_congr_left
    intro b _
    simp
  unfold bytesOf strOfNums
  rw [h]
theorem str_inj (xs ys : List Int) (hx : ∀ x ∈ xs, isByte x) (hy : ∀ x ∈ ys, isByte x) (h : strOfNums xs = strOfNums ys) : xs = ys := by
  rw [← bytesOf_str xs hx, h, bytesOf_str ys hy]
end Go.Proofs.Ytcapfnbmmdbcoaa
