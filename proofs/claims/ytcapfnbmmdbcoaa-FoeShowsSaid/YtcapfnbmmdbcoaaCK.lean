/- Two keys are compared. -/
import Derived.Test.YtcapfnbmmdbcoaaC0
import Derived.Test.YtcapfnbmmdbcoaaFacts
import Derived.ChangeKeysEq
set_option linter.unusedVariables false
set_option linter.unusedSimpArgs false
namespace Go.Proofs.Ytcapfnbmmdbcoaa
open Go.RowKit
theorem rd_ext {xs ys : List Int} (hl : xs.length = ys.length) (h : ∀ j, j < xs.length → rd xs j = rd ys j) : xs = ys := by
  apply List.ext_getElem hl
  intro j h1 h2
  have := h j h1
  simpa [rd, List.getD_eq_getElem?_getD, List.getElem?_eq_getElem h1, List.getElem?_eq_getElem h2] using this

/-! ### Bits into limbs -/
section
variable {P : Program}
theorem run_eqItems_nums {e : TypeId} {k : IntKind} {i : TypeInfo} (he : P.underlying e = some (.int k)) (hi : P.info? e = some i) (hsz : i.size = 1) (hp : P.plainKey e = true) (d : Nat) (xs ys : List Int) (w : World) : ∀ is : List Nat, (∀ j ∈ is, j < xs.length ∧ j < ys.length) →
    (Op.eqItems (d + 1) e 1 (nums k xs).toArray (nums k ys).toArray is).run P w = .ok (is.all fun j => rd xs j == rd ys j) w
  | [], _ => by simp [Op.eqItems]
  | j :: is, h => by
    obtain ⟨h1, h2⟩ := h j (by simp)
    have ih := run_eqItems_nums he hi hsz hp d xs ys w is (fun q hq => h q (by simp [hq]))
    have px : (part e (nums k xs).toArray (j * 1)).run P w = .ok (.int k (rd xs j)) w := by
      rw [Nat.mul_one]
      exact run_part_plain (w := w) hp (by rw [List.getElem?_toArray]; exact nums_get k xs j h1)
    have py : (part e (nums k ys).toArray (j * 1)).run P w = .ok (.int k (rd ys j)) w := by
      rw [Nat.mul_one]
      exact run_part_plain (w := w) hp (by rw [List.getElem?_toArray]; exact nums_get k ys j h2)
    have hq : (Op.equalIn (d + 1) e (.int k (rd xs j)) (.int k (rd ys j))).run P w = .ok (rd xs j == rd ys j) w := by
      simp [Op.equalIn, run_underlying he]
    simp only [Op.eqItems, Sem.run_bind, px, py, hq, Result.andThen_ok]
    cases hb : (rd xs j == rd ys j)
    · simp [hb]
    · simp [hb, ih]
theorem all_rd (n : Nat) (xs ys : List Int) (hx : xs.length = n) (hy : ys.length = n) : ((List.range n).all fun j => rd xs j == rd ys j) = decide (xs = ys) := by
  by_cases h : xs = ys
  · subst h; simp
  · rw [decide_eq_false h]
    cases hb : ((List.range n).all fun j => rd xs j == rd ys j) with
    | false => rfl
    | true =>
      refine absurd (rd_ext (by omega) fun j hj => ?_) h
      rw [List.all_eq_true] at hb
      simpa using hb j (by simp; omega)
theorem run_neqN {t e : TypeId} {k : IntKind} {n : Nat} {i : TypeInfo} (hu : P.underlying t = some (.array n e)) (he : P.underlying e = some (.int k)) (hi : P.info? e = some i) (hsz : i.size = 1) (hp : P.plainKey e = true) (hc : P.cellsOf e = 1) (hg : P.eqGuardType P.depth t = false)
    {o : Oper} {a : Act} {x y : Operand} {r : TypeId} (ho : o.op = .binOp .neq t x y r) {xs ys : List Int} (hx : a.eval x = .agg (nums k xs).toArray) (hy : a.eval y = .agg (nums k ys).toArray) (lx : xs.length = n) (ly : ys.length = n) (w : World) :
    (execOp a.eval o).run P w = .ok (.value (.bool (!decide (xs = ys)))) w := by
  have h1 : (Op.equal t (.agg (nums k xs).toArray) (.agg (nums k ys).toArray)).run P w = .ok (decide (xs = ys)) w := by
    rw [← all_rd n xs ys lx ly, ← run_eqItems_nums he hi hsz hp 9998 xs ys w (List.range n) (fun j hj => by rw [List.mem_range] at hj; omega)]
    have := run_equalIn_array (P := P) (w := w) 9999 (nums k xs).toArray (nums k ys).toArray hu hi
    rw [hc] at this
    exact this
  unfold execOp
  simp [ho, hx, hy, eqGuard, hg, binOp, h1]
theorem run_eqN {t e : TypeId} {k : IntKind} {n : Nat} {i : TypeInfo} (hu : P.underlying t = some (.array n e)) (he : P.underlying e = some (.int k)) (hi : P.info? e = some i) (hsz : i.size = 1) (hp : P.plainKey e = true) (hc : P.cellsOf e = 1) (hg : P.eqGuardType P.depth t = false)
    {o : Oper} {a : Act} {x y : Operand} {r : TypeId} (ho : o.op = .binOp .eql t x y r) {xs ys : List Int} (hx : a.eval x = .agg (nums k xs).toArray) (hy : a.eval y = .agg (nums k ys).toArray) (lx : xs.length = n) (ly : ys.length = n) (w : World) :
    (execOp a.eval o).run P w = .ok (.value (.bool (decide (xs = ys)))) w := by
  have h1 : (Op.equal t (.agg (nums k xs).toArray) (.agg (nums k ys).toArray)).run P w = .ok (decide (xs = ys)) w := by
    rw [← all_rd n xs ys lx ly, ← run_eqItems_nums he hi hsz hp 9998 xs ys w (List.range n) (fun j hj => by rw [List.mem_range] at hj; omega)]
    have := run_equalIn_array (P := P) (w := w) 9999 (nums k xs).toArray (nums k ys).toArray hu hi
    rw [hc] at this
    exact this
  unfold execOp
  simp [ho, hx, hy, eqGuard, hg, binOp, h1]
end
theorem eqg26 : Try.prog.eqGuardType Try.prog.depth 26 = false := by kernel_rfl
theorem pk5 : Try.prog.plainKey 5 = true := by kernel_rfl
theorem c5 : Try.prog.cellsOf 5 = 1 := by kernel_rfl
section
variable {ops : Array Oper} {rest : List Oper} {o : Oper} {a : Act} {w : World} {Q : Exit → Act → World → Prop}
theorem run_neq26 {x y : Operand} {r : TypeId} (ho : o.op = .binOp .neq 26 x y r) {xs ys : List Int} (hx : a.eval x = .agg (nums .u8 xs).toArray) (hy : a.eval y = .agg (nums .u8 ys).toArray) (lx : xs.length = 32) (ly : ys.length = 32) (w : World) :
    (execOp a.eval o).run Try.prog w = .ok (.value (.bool (!decide (xs = ys)))) w := by
  obtain ⟨i, hi, hsz⟩ := Option.map_eq_some_iff.1 s5
  exact run_neqN Try.underlying26 Try.underlying5 hi hsz pk5 c5 eqg26 ho hx hy lx ly w
theorem run_eq26 {x y : Operand} {r : TypeId} (ho : o.op = .binOp .eql 26 x y r) {xs ys : List Int} (hx : a.eval x = .agg (nums .u8 xs).toArray) (hy : a.eval y = .agg (nums .u8 ys).toArray) (lx : xs.length = 32) (ly : ys.length = 32) (w : World) :
    (execOp a.eval o).run Try.prog w = .ok (.value (.bool (decide (xs = ys)))) w := by
  obtain ⟨i, hi, hsz⟩ := Option.map_eq_some_iff.1 s5
  exact run_eqN Try.underlying26 Try.underlying5 hi hsz pk5 c5 eqg26 ho hx hy lx ly w
theorem run_neq26b (b : Bool) {x y : Operand} {r : TypeId} (ho : o.op = .binOp .neq 26 x y r) {xs ys : List Int} (hx : a.eval x = .agg (nums .u8 xs).toArray) (hy : a.eval y = .agg (nums .u8 ys).toArray) (lx : xs.length = 32) (ly : ys.length = 32) (hb : decide (xs = ys) = !b) (w : World) :
    (execOp a.eval o).run Try.prog w = .ok (.value (.bool b)) w := by
  have := run_neq26 ho hx hy lx ly w
  rw [hb, Bool.not_not] at this
  exact this
theorem run_eq26b (b : Bool) {x y : Operand} {r : TypeId} (ho : o.op = .binOp .eql 26 x y r) {xs ys : List Int} (hx : a.eval x = .agg (nums .u8 xs).toArray) (hy : a.eval y = .agg (nums .u8 ys).toArray) (lx : xs.length = 32) (ly : ys.length = 32) (hb : decide (xs = ys) = b) (w : World) :
    (execOp a.eval o).run Try.prog w = .ok (.value (.bool b)) w := by
  have := run_eq26 ho hx hy lx ly w
  rw [hb] at this
  exact this
theorem wpList_neq26 (m : Nat) (hm : o.dst = some m) (hgd : o.guard = none) {x y : Operand} {r : TypeId} (ho : o.op = .binOp .neq 26 x y r) {xs ys : List Int} (hx : a.eval x = .agg (nums .u8 xs).toArray) (hy : a.eval y = .agg (nums .u8 ys).toArray) (lx : xs.length = 32) (ly : ys.length = 32)
    (h : wpList Try.prog ops Q rest (a.put (some m) (.bool (!decide (xs = ys)))) w) : wpList Try.prog ops Q (o :: rest) a w :=
  wpList_plain hgd fun K hK => by
    unfold Oper.wp
    rw [run_neq26 ho hx hy lx ly]
    refine hK _ _ ?_
    rw [hm]
    exact h
theorem wpList_eq26 (m : Nat) (hm : o.dst = some m) (hgd : o.guard = none) {x y : Operand} {r : TypeId} (ho : o.op = .binOp .eql 26 x y r) {xs ys : List Int} (hx : a.eval x = .agg (nums .u8 xs).toArray) (hy : a.eval y = .agg (nums .u8 ys).toArray) (lx : xs.length = 32) (ly : ys.length = 32)
    (h : wpList Try.prog ops Q rest (a.put (some m) (.bool (decide (xs = ys)))) w) : wpList Try.prog ops Q (o :: rest) a w :=
  wpList_plain hgd fun K hK => by
    unfold Oper.wp
    rw [run_eq26 ho hx hy lx ly]
    refine hK _ _ ?_
    rw [hm]
    exact h
end
end Go.Proofs.Ytcapfnbmmdbcoaa
