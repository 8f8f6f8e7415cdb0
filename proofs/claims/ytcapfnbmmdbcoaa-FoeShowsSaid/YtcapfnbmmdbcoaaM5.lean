/- A region that draws its order, by a plan: first what yields in whatever world, then what can come in one order alone, then reads. -/
import Derived.Test.YtcapfnbmmdbcoaaM4
import Derived.OrdersHeld
set_option linter.unusedVariables false
set_option linter.unusedSimpArgs false
namespace Go.Proofs.Ytcapfnbmmdbcoaa
open Go.RowKit
section
variable {P : Program} {ops : Array Oper} {md : Region.Mode}
/-- Operations that yield in whatever world. -/
def wpPure (P : Program) (ops : Array Oper) (F : Act → Prop) : List Nat → Act → Prop
  | [], a => F a
  | k :: rest, a => ∃ o v d, ops[k]? = some o ∧ o.dst = some d ∧ Yields P ops o v a ∧ wpPure P ops F rest (a.put o.dst v)
theorem wpPure_nil {F : Act → Prop} {a : Act} (h : F a) : wpPure P ops F [] a := h
theorem wpPure_step {F : Act → Prop} {a : Act} {k : Nat} {rest : List Nat} {o : Oper} {v : Value} {d : Tmp} (ho : ops[k]? = some o) (hg : o.guard = none) (hd : o.dst = some d) (hy : ∀ w, (execOp a.eval o).run P w = .ok (.value v) w)
    (h : wpPure P ops F rest (a.put (some d) v)) : wpPure P ops F (k :: rest) a := ⟨o, v, d, ho, hd, .inl ⟨by simp [Region.wanted, hg], hy⟩, by rw [hd]; exact h⟩
def listAll (listed : Array Bool) (s : List Nat) : Array Bool := s.foldl (fun l k => l.setIfInBounds k true) listed
def planReads (md : Region.Mode) (ops : Array Oper) : List Nat → Array Bool → Bool
  | [], listed => (Region.ready md ops listed).isEmpty
  | k :: s, listed => (Region.ready md ops listed).contains k && Region.free md ops listed k && planReads md ops s (listed.setIfInBounds k true)
def planSeq (md : Region.Mode) (ops : Array Oper) (s3 : List Nat) : List Nat → Array Bool → Bool
  | [], listed => planReads md ops s3 listed
  | k :: s, listed => decide (Region.ready md ops listed = [k]) && planSeq md ops s3 s (listed.setIfInBounds k true)
def planPure (md : Region.Mode) (ops : Array Oper) (s2 s3 : List Nat) : List Nat → Array Bool → Bool
  | [], listed => planSeq md ops s3 s2 listed
  | k :: s, listed => (Region.ready md ops listed).contains k && Region.free md ops listed k && planPure md ops s2 s3 s (listed.setIfInBounds k true)
def planB (md : Region.Mode) (ops : Array Oper) (s1 s2 s3 : List Nat) : Bool := Region.noSelect ops && planPure md ops s2 s3 s1 (Array.replicate ops.size false)
def pick (ops : Array Oper) (s : List Nat) : List Oper := s.filterMap (ops[·]?)
theorem pick_cons {k : Nat} {s : List Nat} {o : Oper} (h : ops[k]? = some o) : pick ops (k :: s) = o :: pick ops s := by simp [pick, h]
theorem ready_some {listed : Array Bool} {k : Nat} (h : k ∈ Region.ready md ops listed) : ∃ o, ops[k]? = some o := by
  obtain ⟨_, o, ho, _⟩ := mem_ready.1 h
  exact ⟨o, ho⟩
theorem reads_any {w : World} {Q : Act → Prop} (hs : Region.noSelect ops = true) : ∀ (s : List Nat) (listed : Array Bool) (a : Act), planReads md ops s listed = true → wpStill P ops w Q (pick ops s) a → wpAnyS P md ops w Q s.length listed a
  | [], listed, a, hB, h => ⟨by simpa [planReads] using hB, h⟩
  | k :: s, listed, a, hB, h => by
    simp only [planReads, Bool.and_eq_true] at hB
    obtain ⟨⟨hr, hf⟩, hB'⟩ := hB
    have hr' : k ∈ Region.ready md ops listed := by simpa using hr
    obtain ⟨o, ho⟩ := ready_some hr'
    rw [pick_cons ho] at h
    obtain ⟨v, hy, hK⟩ := yieldsAt_of_stOp (K := wpStill P ops w Q (pick ops s)) ho (by unfold stOp; simp only [ho]; exact h)
    exact wpAnyS_first ho (Region.noSelect_spec hs) s.length listed a (Region.free_spec ho hf) hr' hy (reads_any hs s _ _ hB' hK)
theorem seq_any {Q : Exit → Act → World → Prop} {s3 : List Nat} (hs : Region.noSelect ops = true) : ∀ (s : List Nat) (listed : Array Bool) (a : Act) (w : World), planSeq md ops s3 s listed = true →
    wpList P ops (Mid P ops (pick ops s3) Q) (pick ops s) a w → wpAny P md ops Q (s.length + s3.length) listed a w
  | [], listed, a, w, hB, h => by
    rw [List.length_nil, Nat.zero_add]
    exact wpAny_of_still (Q := fun a' => Q .normal a' w) (fun _ h => h) _ _ _ (reads_any hs s3 listed a hB h)
  | k :: s, listed, a, w, hB, h => by
    simp only [planSeq, Bool.and_eq_true, decide_eq_true_eq] at hB
    obtain ⟨hr, hB'⟩ := hB
    obtain ⟨o, ho⟩ := ready_some (k := k) (by rw [hr]; simp)
    rw [pick_cons ho] at h
    rw [List.length_cons, show s.length + 1 + s3.length = (s.length + s3.length) + 1 from by omega]
    refine ⟨fun h0 => (by rw [hr] at h0; cases h0), fun i hi => ?_⟩
    rw [hr] at hi
    obtain rfl : i = k := by simpa using hi
    refine wpOp_mono (K := wpList P ops (Mid P ops (pick ops s3) Q) (pick ops s)) (fun a' w' h' => seq_any hs s _ a' w' hB' h') ?_
    unfold wpOp
    simp only [ho]
    unfold wpList at h
    split
    · rename_i hw
      rw [if_pos hw] at h
      exact mid_exits h
    · rename_i hw
      rw [if_neg hw] at h
      exact h
/-- No 'S' is asked. -/
theorem anyH_of_any {Q : Exit → Act → World → Prop} : ∀ (fuel : Nat) (listed : Array Bool) (a : Act) (w : World), wpAny P md ops Q fuel listed a w → wpAnyH P md ops Q (fun _ => True) fuel listed a w
  | 0, _, _, _, h => h
  | fuel + 1, _, _, _, h => ⟨h.1, fun i hi => wpOp_mono (fun a' w' h' => ⟨trivial, anyH_of_any fuel _ a' w' h'⟩) (h.2 i hi)⟩
theorem pure_any {Q : Exit → Act → World → Prop} {s2 s3 : List Nat} {w : World} (hs : Region.noSelect ops = true) (hQ : ∀ c a (d : Tmp) v w, Q (.panic c) (Act.put a (some d) v) w → Q (.panic c) a w) : ∀ (s : List Nat) (listed : Array Bool) (a : Act), planPure md ops s2 s3 s listed = true →
    wpPure P ops (fun a' => wpList P ops (Mid P ops (pick ops s3) Q) (pick ops s2) a' w) s a → wpAnyH P md ops Q (fun _ => True) (s.length + (s2.length + s3.length)) listed a w
  | [], listed, a, hB, h => by
    rw [List.length_nil, Nat.zero_add]
    exact anyH_of_any _ _ _ _ (seq_any hs s2 listed a w hB h)
  | k :: s, listed, a, hB, h => by
    simp only [planPure, Bool.and_eq_true] at hB
    obtain ⟨⟨hr, hf⟩, hB'⟩ := hB
    obtain ⟨o, v, d, ho, hd, hy, h'⟩ := h
    rw [List.length_cons, show s.length + 1 + (s2.length + s3.length) = (s.length + (s2.length + s3.length)) + 1 from by omega]
    exact wpAnyH_take ho hs hf hr (fun c a w => by rw [hd]; exact hQ c a d _ w) hy.yieldsIf trivial (pure_any hs hQ s _ _ hB' h')
end
section
variable {P : Program} {a : Act} {w w0 : World} {Q : Exit → Act → World → Prop} {E : List Nat} {L : List Item}
/-- By a plan; the world is a letter. -/
theorem wp_region_planM {id : Nat} {ops : Array Oper} (s1 s2 s3 : List Nat) (hm : P.follows .mixedOrders = true) (hB : (planB .any ops s1 s2 s3 && decide (s1.length + (s2.length + s3.length) = ops.size)) = true)
    (hQ : ∀ c a (d : Tmp) v w, Q (.panic c) (Act.put a (some d) v) w → Q (.panic c) a w) (M : Mem w0 E w L)
    (h : ∀ w1, Mem w0 E w1 L → wpPure P ops (fun a' => wpList P ops (Mid P ops (pick ops s3) Q) (pick ops s2) a' w1) s1 a) : (Code.region id ops true).wp P Q a w := by
  simp only [planB, Bool.and_eq_true, decide_eq_true_eq] at hB
  obtain ⟨⟨hs, hB⟩, hl⟩ := hB
  refine wp_region_held (S := fun _ => True) hm ?_
  have := pure_any (P := P) (Q := Q) hs hQ s1 _ a hB (h _ (M.drawn (w.drawn + 1)))
  rwa [hl] at this
end
end Go.Proofs.Ytcapfnbmmdbcoaa
