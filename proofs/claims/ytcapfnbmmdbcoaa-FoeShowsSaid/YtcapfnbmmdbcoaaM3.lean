/- Steps inside a region that draws its order: an append to the call's own slice. -/
import Derived.Test.YtcapfnbmmdbcoaaM2
import Derived.Deep.RegionHeld3
set_option linter.unusedVariables false
set_option linter.unusedSimpArgs false
namespace Go.Proofs.Ytcapfnbmmdbcoaa
open Go.RowKit
section
variable {P : Program} {ops : Array Oper} {o : Oper} {a : Act} {w w0 : World} {K : Act → World → Prop} {Q : Exit → Act → World → Prop} {E : List Nat} {L : List Item} {R : Prop} {rest : List Oper}
theorem step_app {t e : TypeId} {z : Value} {size bytes : Nat} (ht : P.underlying t = some (.slice e)) (hi : (P.info? e).map (fun i => (i.zero, i.size, i.bytes)) = some (some z, size, bytes)) (hz : z.cells.size = size) (hs0 : 0 < size) (hgd : o.guard = none) {s x : Operand}
    (ho : o.op = .call { callee := .builtin .append, args := #[s, x], argTypes := #[t, t] }) {A : Option Addr} {n cap m c : Nat} (hs : a.eval s = .slice A n cap) {g : Nat} (hx : a.eval x = .slice (some ⟨g, 0, none⟩) m c)
    {cs ds : List Value} (M : Mem w0 E w L) {L' : Option Addr → Nat → List Item} (hsw : ∀ A' cap', Swap (.vec A n cap e size cs) (.vec A' (n + m) cap' e size (cs ++ ds)) L (L' A' cap')) (hin : .blk g (cellsO e ds) ∈ L) (hl : ds.length = m * size) (h1 : ∀ v ∈ ds, v.oneCell' = true)
    (hb : (n + m) * bytes ≤ 140737488355328) (hb2 : n + m ≤ 140737488355328)
    (h : ∀ A' cap' w', Mem w0 E w' (L' A' cap') → K (a.put o.dst (.slice A' (n + m) cap')) w') : if Region.wanted o (yielded ops a.tmps) = true then Oper.wp P o a w K Q else R := by
  have hw : Region.wanted o (yielded ops a.tmps) = true := by simp [Region.wanted, hgd]
  rw [if_pos hw]
  obtain ⟨i, hii, hp⟩ := Option.map_eq_some_iff.1 hi
  simp only [Prod.mk.injEq] at hp
  obtain ⟨hz', hs', hby⟩ := hp
  have hown : w.ownsRow 0 e size (.slice A n cap) n cs := M.holds _ (hsw none 0).mem
  have hcells : ∀ j u, ds[j]? = some u → w.cell? ((⟨g, 0, none⟩ : Addr).add j) = some u := fun j u hu => by
    have e1 : (⟨g, 0, none⟩ : Addr).add j = ⟨g, j, none⟩ := by rw [Addr.add_lit, Nat.zero_add]
    rw [e1]
    exact M.cell hin hu
  obtain ⟨v', w', hr, hown', hg, hnil, hat⟩ := run_append_own_at (P := P) w 0 t o.type e i z size bytes ht hii hz' hs' hby hz hs0 (.slice A n cap) n cs hown ⟨g, 0, none⟩ m c ds hl hcells h1 (by simp only [maxLen]; omega) hb (Nat.zero_le _)
  obtain ⟨A', cap', rfl⟩ := own_form hown'
  unfold Oper.wp execOp
  simp only [ho, resolve, invoke, builtin, Sem.run_bind, Sem.run_pure, Result.andThen_ok, List.map_toArray, List.map_cons, List.map_nil, hs, hx, hr]
  refine h A' cap' w' (M.swap (hsw A' cap') hg (.inr rfl) hown' (fun b hb' => ?_))
  rcases hat with hat | hat
  · left; rw [Item.block, ← hat]; exact hb'
  · right
    have : some b = some w.heap.size := by rw [← hat]; exact hb'.symm
    simp only [Option.some.injEq] at this
    omega
/-- append(v, y), v the call's own, y a number: in a region that draws its order; w1 the world ahead of the region. -/
theorem step_app1 {t e : TypeId} {k : IntKind} {bytes : Nat} (ht : P.underlying t = some (.slice e)) (hi : (P.info? e).map (fun i => (i.zero, i.size, i.bytes)) = some (some (.int k 0), 1, bytes)) (hgd : o.guard = none) {s x : Operand}
    (ho : o.op = .call { callee := .builtin .append, args := #[s, x], argTypes := #[t, t] }) {A : Option Addr} {n cap : Nat} {w1 : World} (hs : a.eval s = .slice A n cap) (hx : a.eval x = .slice (some ⟨w1.heap.size, 0, none⟩) 1 1)
    {y : Int} (hw : w = (w1.alloc (.cells #[.int k y] e)).drew) (M : Mem w0 E w1 L) {xs : List Int} {L' : Option Addr → Nat → List Item} (hsw : ∀ A' cap', Swap (.vec A n cap e 1 (nums k xs)) (.vec A' (n + 1) cap' e 1 (nums k (xs ++ [y]))) L (L' A' cap'))
    (hb : (n + 1) * bytes ≤ 140737488355328) (hb2 : n + 1 ≤ 140737488355328)
    (h : ∀ A' cap' w', Mem w0 E w' (L' A' cap') → K (a.put o.dst (.slice A' (n + 1) cap')) w') : if Region.wanted o (yielded ops a.tmps) = true then Oper.wp P o a w K Q else R := by
  subst hw
  exact step_app (ds := nums k [y]) (L' := fun A' cap' => .blk w1.heap.size (.cells #[.int k y] e) :: L' A' cap') ht hi rfl (by decide) hgd ho hs hx (M.alloc (.cells #[.int k y] e)).drew (fun A' cap' => Swap.tail (by have := hsw A' cap'; rwa [nums_append] at this)) List.mem_cons_self rfl (nums_one k [y]) hb hb2 (fun A' cap' w' M' => h A' cap' w' M'.tail)
end
section
variable {P : Program} {ops : Array Oper} {rest : List Oper} {a : Act} {w : World} {Q : Exit → Act → World → Prop}
/-- A guarded operation that runs. -/
theorem wpList_want {d : Option Tmp} {op : Op} {ty : TypeId} {ps : String} {af : Array Edge} {g : Nat × Bool} (hw : Region.wanted ⟨d, op, ty, ps, af, some g⟩ (yielded ops a.tmps) = true)
    (h : wpList P ops Q (⟨d, op, ty, ps, af, none⟩ :: rest) a w) : wpList P ops Q (⟨d, op, ty, ps, af, some g⟩ :: rest) a w := by
  unfold wpList at h ⊢
  rw [if_pos hw]
  have h0 : Region.wanted (⟨d, op, ty, ps, af, none⟩ : Oper) (yielded ops a.tmps) = true := by simp [Region.wanted]
  rw [if_pos h0] at h
  exact h
theorem wpList_wantLd {d : Option Tmp} {ty t : TypeId} {x : Operand} {ps : String} {af : Array Edge} {g : Nat × Bool} (hw : Region.wanted ⟨d, .load t x, ty, ps, af, some g⟩ (yielded ops a.tmps) = true)
    (h : wpList P ops Q (⟨d, .load t x, ty, ps, af, none⟩ :: rest) a w) : wpList P ops Q (⟨d, .load t x, ty, ps, af, some g⟩ :: rest) a w := wpList_want hw h
theorem wpList_wantCv {d : Option Tmp} {ty t t' : TypeId} {x : Operand} {ps : String} {af : Array Edge} {g : Nat × Bool} (hw : Region.wanted ⟨d, .convert t t' x, ty, ps, af, some g⟩ (yielded ops a.tmps) = true)
    (h : wpList P ops Q (⟨d, .convert t t' x, ty, ps, af, none⟩ :: rest) a w) : wpList P ops Q (⟨d, .convert t t' x, ty, ps, af, some g⟩ :: rest) a w := wpList_want hw h
theorem wpList_wantSl {d : Option Tmp} {ty t : TypeId} {x : Operand} {l h m : Option Operand} {ps : String} {af : Array Edge} {g : Nat × Bool} (hw : Region.wanted ⟨d, .slice t x l h m, ty, ps, af, some g⟩ (yielded ops a.tmps) = true)
    (hh : wpList P ops Q (⟨d, .slice t x l h m, ty, ps, af, none⟩ :: rest) a w) : wpList P ops Q (⟨d, .slice t x l h m, ty, ps, af, some g⟩ :: rest) a w := wpList_want hw hh
end
section
variable {P : Program} {ops : Array Oper} {rest : List Oper} {o : Oper} {a : Act} {w w0 : World} {Q : Act → Prop} {E : List Nat} {L : List Item}
theorem wpStill_plain (hgd : o.guard = none) (h : ∀ K : Act → Prop, (∀ a, wpStill P ops w Q rest a → K a) → o.still P a w K) : wpStill P ops w Q (o :: rest) a :=
  wpStill_step fun K hK => by
    have hw : Region.wanted o (yielded ops a.tmps) = true := by simp [Region.wanted, hgd]
    rw [if_pos hw]
    exact h K hK
/-- A whole row is read, in a region that draws its order. -/
theorem wpStill_ldrowN {ty : TypeId} {d : TypeDesc} {n : Nat} (hu : P.underlying ty = some d) (hsz : (P.info? ty).map (·.size) = some n) (hgd : o.guard = none) {x : Operand} (ho : o.op = .load ty x) (hd : d.isRow = true) {g : Nat}
    (hx : a.eval x = .pointer (some ⟨g, 0, none⟩)) (M : Mem w0 E w L) {k : IntKind} {t : TypeId} {xs : List Int} (hin : .blk g (rowO k t xs) ∈ L) (hn : xs.length = n)
    (h : wpStill P ops w Q rest (a.put o.dst (.agg (nums k xs).toArray))) : wpStill P ops w Q (o :: rest) a :=
  wpStill_plain hgd fun K hK => by
    have hr := run_loadVar_row (P := P) w g t ty (nums k xs).toArray (0, 0) d (M.holds _ hin) hu (by cases d <;> simp_all [TypeDesc.isRow]) (by rw [hsz]; simp [nums_length, hn])
    unfold Oper.still execOp
    simp only [ho, hx, Instr.loadAt, Instr.sureAddr, Sem.run_bind, Sem.run_pure, Result.andThen_ok, hr]
    exact (Oper.stillUpon_value o a w K _).symm ▸ hK _ h
end
end Go.Proofs.Ytcapfnbmmdbcoaa
