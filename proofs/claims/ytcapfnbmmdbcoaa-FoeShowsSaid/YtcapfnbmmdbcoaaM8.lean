/- A region that draws its order, by a tree of plans: where two operations may come up, each has a plan of its own. -/
import Derived.Test.YtcapfnbmmdbcoaaM7
set_option linter.unusedVariables false
set_option linter.unusedSimpArgs false
namespace Go.Proofs.Ytcapfnbmmdbcoaa
open Go.RowKit
inductive PlanT where
  | done
  | free (k : Nat) (p : PlanT)
  | one (k : Nat) (p : PlanT)
  | two (k1 : Nat) (p1 : PlanT) (k2 : Nat) (p2 : PlanT)
  | three (k1 : Nat) (p1 : PlanT) (k2 : Nat) (p2 : PlanT) (k3 : Nat) (p3 : PlanT)
def PlanT.depth : PlanT → Nat
  | done => 0
  | free _ p => p.depth + 1
  | one _ p => p.depth + 1
  | two _ p1 _ p2 => max p1.depth p2.depth + 1
  | three _ p1 _ p2 _ p3 => max p1.depth (max p2.depth p3.depth) + 1
section
variable {P : Program} {ops : Array Oper} {md : Region.Mode} {S : World → Prop}
def planTB (md : Region.Mode) (ops : Array Oper) : PlanT → Array Bool → Bool
  | .done, listed => (Region.ready md ops listed).isEmpty
  | .free k p, listed => (Region.ready md ops listed).contains k && Region.free md ops listed k && planTB md ops p (listed.setIfInBounds k true)
  | .one k p, listed => decide (Region.ready md ops listed = [k]) && planTB md ops p (listed.setIfInBounds k true)
  | .two k1 p1 k2 p2, listed => decide (Region.ready md ops listed = [k1, k2]) && (planTB md ops p1 (listed.setIfInBounds k1 true) && planTB md ops p2 (listed.setIfInBounds k2 true))
  | .three k1 p1 k2 p2 k3 p3, listed => decide (Region.ready md ops listed = [k1, k2, k3]) && (planTB md ops p1 (listed.setIfInBounds k1 true) && (planTB md ops p2 (listed.setIfInBounds k2 true) && planTB md ops p3 (listed.setIfInBounds k3 true)))
def wpPlanT (P : Program) (ops : Array Oper) (S : World → Prop) (Q : Exit → Act → World → Prop) : PlanT → Act → World → Prop
  | .done, a, w => Q .normal a w
  | .free k p, a, w => ∃ o v d, ops[k]? = some o ∧ o.dst = some d ∧ YieldsIf P ops S o v a ∧ S w ∧ wpPlanT P ops S Q p (a.put o.dst v) w
  | .one k p, a, w => ∃ o, ops[k]? = some o ∧ wpOp P ops Q k (fun a' w' => S w' ∧ wpPlanT P ops S Q p a' w') a w
  | .two k1 p1 k2 p2, a, w => (∃ o, ops[k1]? = some o ∧ wpOp P ops Q k1 (fun a' w' => S w' ∧ wpPlanT P ops S Q p1 a' w') a w) ∧ (∃ o, ops[k2]? = some o ∧ wpOp P ops Q k2 (fun a' w' => S w' ∧ wpPlanT P ops S Q p2 a' w') a w)
  | .three k1 p1 k2 p2 k3 p3, a, w => (∃ o, ops[k1]? = some o ∧ wpOp P ops Q k1 (fun a' w' => S w' ∧ wpPlanT P ops S Q p1 a' w') a w) ∧ (∃ o, ops[k2]? = some o ∧ wpOp P ops Q k2 (fun a' w' => S w' ∧ wpPlanT P ops S Q p2 a' w') a w) ∧ (∃ o, ops[k3]? = some o ∧ wpOp P ops Q k3 (fun a' w' => S w' ∧ wpPlanT P ops S Q p3 a' w') a w)
def PlanTQ (P : Program) (ops : Array Oper) (S : World → Prop) (s : PlanT) (Q : Exit → Act → World → Prop) : Exit → Act → World → Prop
  | .normal, a, w => S w ∧ wpPlanT P ops S Q s a w
  | e, a, w => Q e a w
theorem PlanTQ.mk {s : PlanT} {Q : Exit → Act → World → Prop} {a : Act} {w : World} (hS : S w) (h : wpPlanT P ops S Q s a w) : PlanTQ P ops S s Q .normal a w := ⟨hS, h⟩
theorem planTQ_exits {Q : Exit → Act → World → Prop} {s : PlanT} {o : Oper} {K : Act → World → Prop} {a : Act} {w : World} (h : o.wp P a w K (PlanTQ P ops S s Q) ∨ (o.asks P a w ∧ LetsOut (PlanTQ P ops S s Q))) : o.wp P a w K Q ∨ (o.asks P a w ∧ LetsOut Q) := by
  have hl : LetsOut (PlanTQ P ops S s Q) → LetsOut Q := fun ⟨a, w, h⟩ => ⟨a, w, h⟩
  exact h.imp (wp_exits (fun _ _ _ h => h) hl) (fun ⟨h1, h2⟩ => ⟨h1, hl h2⟩)
theorem wpT_done {Q : Exit → Act → World → Prop} {a : Act} {w : World} (h : Q .normal a w) : wpPlanT P ops S Q .done a w := h
theorem wpT_free {Q : Exit → Act → World → Prop} {a : Act} {w : World} {k : Nat} {s : PlanT} {o : Oper} {v : Value} {d : Tmp} (ho : ops[k]? = some o) (hd : o.dst = some d) (hy : YieldsIf P ops S o v a) (hS : S w)
    (h : wpPlanT P ops S Q s (a.put (some d) v) w) : wpPlanT P ops S Q (.free k s) a w := ⟨o, v, d, ho, hd, hy, hS, by rw [hd]; exact h⟩
theorem opT {Q : Exit → Act → World → Prop} {a : Act} {w : World} {k : Nat} {s : PlanT} {o : Oper} (ho : ops[k]? = some o)
    (h : wpList P ops (PlanTQ P ops S s Q) [o] a w) : wpOp P ops Q k (fun a' w' => S w' ∧ wpPlanT P ops S Q s a' w') a w := by
  refine wpOp_mono (K := fun a' w' => PlanTQ P ops S s Q .normal a' w') (fun a' w' h' => h') ?_
  unfold wpOp
  simp only [ho]
  unfold wpList at h
  split
  · rename_i hw
    rw [if_pos hw] at h
    exact planTQ_exits h
  · rename_i hw
    rw [if_neg hw] at h
    exact h
theorem wpT_op {Q : Exit → Act → World → Prop} {a : Act} {w : World} {k : Nat} {s : PlanT} {o : Oper} (ho : ops[k]? = some o)
    (h : wpList P ops (PlanTQ P ops S s Q) [o] a w) : wpPlanT P ops S Q (.one k s) a w := ⟨o, ho, opT ho h⟩
theorem wpT_two {Q : Exit → Act → World → Prop} {a : Act} {w : World} {k1 k2 : Nat} {s1 s2 : PlanT} {o1 o2 : Oper} (h1 : ops[k1]? = some o1) (h2 : ops[k2]? = some o2)
    (g1 : wpList P ops (PlanTQ P ops S s1 Q) [o1] a w) (g2 : wpList P ops (PlanTQ P ops S s2 Q) [o2] a w) : wpPlanT P ops S Q (.two k1 s1 k2 s2) a w := ⟨⟨o1, h1, opT h1 g1⟩, ⟨o2, h2, opT h2 g2⟩⟩
theorem wpT_three {Q : Exit → Act → World → Prop} {a : Act} {w : World} {k1 k2 k3 : Nat} {s1 s2 s3 : PlanT} {o1 o2 o3 : Oper} (h1 : ops[k1]? = some o1) (h2 : ops[k2]? = some o2) (h3 : ops[k3]? = some o3)
    (g1 : wpList P ops (PlanTQ P ops S s1 Q) [o1] a w) (g2 : wpList P ops (PlanTQ P ops S s2 Q) [o2] a w) (g3 : wpList P ops (PlanTQ P ops S s3 Q) [o3] a w) : wpPlanT P ops S Q (.three k1 s1 k2 s2 k3 s3) a w := ⟨⟨o1, h1, opT h1 g1⟩, ⟨o2, h2, opT h2 g2⟩, ⟨o3, h3, opT h3 g3⟩⟩
theorem planT_any {Q : Exit → Act → World → Prop} (hs : Region.noSelect ops = true) (hQ : ∀ c a (d : Tmp) v w, Q (.panic c) (Act.put a (some d) v) w → Q (.panic c) a w) :
    ∀ (s : PlanT) (fuel : Nat) (listed : Array Bool) (a : Act) (w : World), s.depth ≤ fuel → planTB md ops s listed = true → wpPlanT P ops S Q s a w → wpAnyH P md ops Q S fuel listed a w
  | .done, fuel, listed, a, w, _, hB, h => wpAnyH_done (by simpa [planTB] using hB) h fuel
  | .free k s, fuel, listed, a, w, hf, hB, h => by
    simp only [planTB, Bool.and_eq_true] at hB
    obtain ⟨⟨hr, hfr⟩, hB'⟩ := hB
    obtain ⟨o, v, d, ho, hd, hy, hS, h'⟩ := h
    obtain ⟨f, rfl⟩ : ∃ f, fuel = f + 1 := ⟨fuel - 1, by simp only [PlanT.depth] at hf; omega⟩
    exact wpAnyH_take ho hs hfr hr (fun c a w => by rw [hd]; exact hQ c a d _ w) hy hS (planT_any hs hQ s f _ _ _ (by simp only [PlanT.depth] at hf; omega) hB' h')
  | .one k s, fuel, listed, a, w, hf, hB, h => by
    simp only [planTB, Bool.and_eq_true, decide_eq_true_eq] at hB
    obtain ⟨hr, hB'⟩ := hB
    obtain ⟨o, ho, h'⟩ := h
    obtain ⟨f, rfl⟩ : ∃ f, fuel = f + 1 := ⟨fuel - 1, by simp only [PlanT.depth] at hf; omega⟩
    refine wpAnyH_all hr (by simp) fun i hi => ?_
    obtain rfl : i = k := by simpa using hi
    exact wpOp_mono (fun a' w' ⟨h1, h2⟩ => ⟨h1, planT_any hs hQ s f _ a' w' (by simp only [PlanT.depth] at hf; omega) hB' h2⟩) h'
  | .two k1 s1 k2 s2, fuel, listed, a, w, hf, hB, h => by
    simp only [planTB, Bool.and_eq_true, decide_eq_true_eq] at hB
    obtain ⟨hr, hB1, hB2⟩ := hB
    obtain ⟨⟨o1, ho1, h1⟩, ⟨o2, ho2, h2⟩⟩ := h
    obtain ⟨f, rfl⟩ : ∃ f, fuel = f + 1 := ⟨fuel - 1, by simp only [PlanT.depth] at hf; omega⟩
    refine wpAnyH_all hr (by simp) fun i hi => ?_
    have hi' : i = k1 ∨ i = k2 := by simpa using hi
    rcases hi' with rfl | rfl
    · exact wpOp_mono (fun a' w' ⟨h1, h2⟩ => ⟨h1, planT_any hs hQ s1 f _ a' w' (by simp only [PlanT.depth] at hf; omega) hB1 h2⟩) h1
    · exact wpOp_mono (fun a' w' ⟨h1, h2⟩ => ⟨h1, planT_any hs hQ s2 f _ a' w' (by simp only [PlanT.depth] at hf; omega) hB2 h2⟩) h2
  | .three k1 s1 k2 s2 k3 s3, fuel, listed, a, w, hf, hB, h => by
    simp only [planTB, Bool.and_eq_true, decide_eq_true_eq] at hB
    obtain ⟨hr, hB1, hB2, hB3⟩ := hB
    obtain ⟨⟨o1, ho1, h1⟩, ⟨o2, ho2, h2⟩, ⟨o3, ho3, h3⟩⟩ := h
    obtain ⟨f, rfl⟩ : ∃ f, fuel = f + 1 := ⟨fuel - 1, by simp only [PlanT.depth] at hf; omega⟩
    refine wpAnyH_all hr (by simp) fun i hi => ?_
    have hi' : i = k1 ∨ i = k2 ∨ i = k3 := by simpa using hi
    rcases hi' with rfl | rfl | rfl
    · exact wpOp_mono (fun a' w' ⟨h1, h2⟩ => ⟨h1, planT_any hs hQ s1 f _ a' w' (by simp only [PlanT.depth] at hf; omega) hB1 h2⟩) h1
    · exact wpOp_mono (fun a' w' ⟨h1, h2⟩ => ⟨h1, planT_any hs hQ s2 f _ a' w' (by simp only [PlanT.depth] at hf; omega) hB2 h2⟩) h2
    · exact wpOp_mono (fun a' w' ⟨h1, h2⟩ => ⟨h1, planT_any hs hQ s3 f _ a' w' (by simp only [PlanT.depth] at hf; omega) hB3 h2⟩) h3
end
section
variable {P : Program} {a : Act} {w w0 : World} {Q : Exit → Act → World → Prop} {E : List Nat} {L : List Item}
theorem wp_region_planT {id : Nat} {ops : Array Oper} (s : PlanT) (hm : P.follows .mixedOrders = true) (hB : (Region.noSelect ops && planTB .any ops s (Array.replicate ops.size false) && decide (s.depth ≤ ops.size)) = true)
    (hQ : ∀ c a (d : Tmp) v w, Q (.panic c) (Act.put a (some d) v) w → Q (.panic c) a w) (M : Mem w0 E w L)
    (h : ∀ w1, Mem w0 E w1 L → wpPlanT P ops (fun w' => Mem w0 E w' L) Q s a w1) : (Code.region id ops true).wp P Q a w := by
  simp only [Bool.and_eq_true, decide_eq_true_eq] at hB
  obtain ⟨⟨hs, hB⟩, hl⟩ := hB
  exact wp_region_held (S := fun w' => Mem w0 E w' L) hm (planT_any (P := P) (Q := Q) hs hQ s _ _ a _ hl hB (h _ (M.drawn (w.drawn + 1))))
end
end Go.Proofs.Ytcapfnbmmdbcoaa
