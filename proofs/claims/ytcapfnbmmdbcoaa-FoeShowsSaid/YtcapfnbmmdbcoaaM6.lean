/- A region that draws its order, by a plan whose loads may be taken ahead: what yields in every world in which the memory reads as before is taken first; the rest comes in one order alone. -/
import Derived.Test.YtcapfnbmmdbcoaaM5
set_option linter.unusedVariables false
set_option linter.unusedSimpArgs false
namespace Go.Proofs.Ytcapfnbmmdbcoaa
open Go.RowKit
section
variable {P : Program} {ops : Array Oper} {md : Region.Mode} {S : World → Prop}
/-- A plan: (true, k): the k-th is taken first; (false, k): the k-th comes alone. -/
def planHB (md : Region.Mode) (ops : Array Oper) : List (Bool × Nat) → Array Bool → Bool
  | [], listed => (Region.ready md ops listed).isEmpty
  | (true, k) :: s, listed => (Region.ready md ops listed).contains k && Region.free md ops listed k && planHB md ops s (listed.setIfInBounds k true)
  | (false, k) :: s, listed => decide (Region.ready md ops listed = [k]) && planHB md ops s (listed.setIfInBounds k true)
def wpPlan (P : Program) (ops : Array Oper) (S : World → Prop) (Q : Exit → Act → World → Prop) : List (Bool × Nat) → Act → World → Prop
  | [], a, w => Q .normal a w
  | (true, k) :: s, a, w => ∃ o v d, ops[k]? = some o ∧ o.dst = some d ∧ YieldsIf P ops S o v a ∧ S w ∧ wpPlan P ops S Q s (a.put o.dst v) w
  | (false, k) :: s, a, w => ∃ o, ops[k]? = some o ∧ wpOp P ops Q k (fun a' w' => S w' ∧ wpPlan P ops S Q s a' w') a w
/-- What is owed behind an operation that comes alone. -/
def PlanQ (P : Program) (ops : Array Oper) (S : World → Prop) (s : List (Bool × Nat)) (Q : Exit → Act → World → Prop) : Exit → Act → World → Prop
  | .normal, a, w => S w ∧ wpPlan P ops S Q s a w
  | e, a, w => Q e a w
theorem PlanQ.mk {s : List (Bool × Nat)} {Q : Exit → Act → World → Prop} {a : Act} {w : World} (hS : S w) (h : wpPlan P ops S Q s a w) : PlanQ P ops S s Q .normal a w := ⟨hS, h⟩
theorem planQ_exits {Q : Exit → Act → World → Prop} {s : List (Bool × Nat)} {o : Oper} {K : Act → World → Prop} {a : Act} {w : World} (h : o.wp P a w K (PlanQ P ops S s Q) ∨ (o.asks P a w ∧ LetsOut (PlanQ P ops S s Q))) : o.wp P a w K Q ∨ (o.asks P a w ∧ LetsOut Q) := by
  have hl : LetsOut (PlanQ P ops S s Q) → LetsOut Q := fun ⟨a, w, h⟩ => ⟨a, w, h⟩
  exact h.imp (wp_exits (fun _ _ _ h => h) hl) (fun ⟨h1, h2⟩ => ⟨h1, hl h2⟩)
theorem wpPlan_nil {Q : Exit → Act → World → Prop} {a : Act} {w : World} (h : Q .normal a w) : wpPlan P ops S Q [] a w := h
theorem wpPlan_free {Q : Exit → Act → World → Prop} {a : Act} {w : World} {k : Nat} {s : List (Bool × Nat)} {o : Oper} {v : Value} {d : Tmp} (ho : ops[k]? = some o) (hd : o.dst = some d) (hy : YieldsIf P ops S o v a) (hS : S w)
    (h : wpPlan P ops S Q s (a.put (some d) v) w) : wpPlan P ops S Q ((true, k) :: s) a w := ⟨o, v, d, ho, hd, hy, hS, by rw [hd]; exact h⟩
theorem wpPlan_op {Q : Exit → Act → World → Prop} {a : Act} {w : World} {k : Nat} {s : List (Bool × Nat)} {o : Oper} (ho : ops[k]? = some o)
    (h : wpList P ops (PlanQ P ops S s Q) [o] a w) : wpPlan P ops S Q ((false, k) :: s) a w := by
  refine ⟨o, ho, ?_⟩
  refine wpOp_mono (K := fun a' w' => PlanQ P ops S s Q .normal a' w') (fun a' w' h' => h') ?_
  unfold wpOp
  simp only [ho]
  unfold wpList at h
  split
  · rename_i hw
    rw [if_pos hw] at h
    exact planQ_exits h
  · rename_i hw
    rw [if_neg hw] at h
    exact h
theorem plan_any {Q : Exit → Act → World → Prop} (hs : Region.noSelect ops = true) (hQ : ∀ c a (d : Tmp) v w, Q (.panic c) (Act.put a (some d) v) w → Q (.panic c) a w) :
    ∀ (s : List (Bool × Nat)) (listed : Array Bool) (a : Act) (w : World), planHB md ops s listed = true → wpPlan P ops S Q s a w → wpAnyH P md ops Q S s.length listed a w
  | [], listed, a, w, hB, h => ⟨by simpa [planHB] using hB, h⟩
  | (true, k) :: s, listed, a, w, hB, h => by
    simp only [planHB, Bool.and_eq_true] at hB
    obtain ⟨⟨hr, hf⟩, hB'⟩ := hB
    obtain ⟨o, v, d, ho, hd, hy, hS, h'⟩ := h
    exact wpAnyH_take ho hs hf hr (fun c a w => by rw [hd]; exact hQ c a d _ w) hy hS (plan_any hs hQ s _ _ _ hB' h')
  | (false, k) :: s, listed, a, w, hB, h => by
    simp only [planHB, Bool.and_eq_true, decide_eq_true_eq] at hB
    obtain ⟨hr, hB'⟩ := hB
    obtain ⟨o, ho, h'⟩ := h
    refine wpAnyH_all hr (by simp) fun i hi => ?_
    obtain rfl : i = k := by simpa using hi
    exact wpOp_mono (fun a' w' ⟨h1, h2⟩ => ⟨h1, plan_any hs hQ s _ a' w' hB' h2⟩) h'
end
section
variable {P : Program} {a : Act} {w w0 : World} {Q : Exit → Act → World → Prop} {E : List Nat} {L : List Item}
/-- By a plan; S is that the memory reads as it did. -/
theorem wp_region_planH {id : Nat} {ops : Array Oper} (s : List (Bool × Nat)) (hm : P.follows .mixedOrders = true) (hB : (Region.noSelect ops && planHB .any ops s (Array.replicate ops.size false) && decide (s.length = ops.size)) = true)
    (hQ : ∀ c a (d : Tmp) v w, Q (.panic c) (Act.put a (some d) v) w → Q (.panic c) a w) (M : Mem w0 E w L)
    (h : ∀ w1, Mem w0 E w1 L → wpPlan P ops (fun w' => Mem w0 E w' L) Q s a w1) : (Code.region id ops true).wp P Q a w := by
  simp only [Bool.and_eq_true, decide_eq_true_eq] at hB
  obtain ⟨⟨hs, hB⟩, hl⟩ := hB
  refine wp_region_held (S := fun w' => Mem w0 E w' L) hm ?_
  have := plan_any (P := P) (Q := Q) hs hQ s _ a _ hB (h _ (M.drawn (w.drawn + 1)))
  rwa [hl] at this
end
section
variable {P : Program} {o : Oper} {a : Act} {w w0 : World} {E : List Nat} {L : List Item}
/-- A whole row is read, in every world in which the memory reads so. -/
theorem run_ldrowN {ty : TypeId} {d : TypeDesc} {n : Nat} (hu : P.underlying ty = some d) (hsz : (P.info? ty).map (·.size) = some n) {x : Operand} (ho : o.op = .load ty x) (hd : d.isRow = true) {g : Nat}
    (hx : a.eval x = .pointer (some ⟨g, 0, none⟩)) (M : Mem w0 E w L) {k : IntKind} {t : TypeId} {xs : List Int} (hin : .blk g (rowO k t xs) ∈ L) (hn : xs.length = n) : (execOp a.eval o).run P w = .ok (.value (.agg (nums k xs).toArray)) w := by
  have hr := run_loadVar_row (P := P) w g t ty (nums k xs).toArray (0, 0) d (M.holds _ hin) hu (by cases d <;> simp_all [TypeDesc.isRow]) (by rw [hsz]; simp [nums_length, hn])
  unfold execOp
  simp only [ho, hx, Instr.loadAt, Instr.sureAddr, Sem.run_bind, Sem.run_pure, Result.andThen_ok, hr]
end
end Go.Proofs.Ytcapfnbmmdbcoaa
