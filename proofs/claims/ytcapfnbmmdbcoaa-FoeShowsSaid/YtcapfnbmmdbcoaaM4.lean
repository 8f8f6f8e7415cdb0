/- A region that draws its order, of this form: reads; then one operation that waits for them all; then reads of what it left, in whatever order. -/
import Derived.Test.YtcapfnbmmdbcoaaM3
import Derived.StillTail
set_option linter.unusedVariables false
set_option linter.unusedSimpArgs false
namespace Go.Proofs.Ytcapfnbmmdbcoaa
open Go.RowKit
section
variable {P : Program} {ops : Array Oper} {md : Region.Mode} {w : World}
/-- Each operation behind the n-th waits for the n-th or one behind it. -/
def afterB (md : Region.Mode) (ops : Array Oper) (n : Nat) : Bool :=
  (List.range ops.size).all fun t => decide (t ≤ n) || (List.range t).any fun j => decide (n ≤ j) && Region.waitsFor md ops t j
/-- While a read is left, nothing from the n-th on is ready. -/
def HeadWaits (md : Region.Mode) (ops : Array Oper) (n : Nat) : Prop :=
  ∀ listed, HeadInv md ops n listed → ∀ i, i < n → listed.getD i true = false → ∀ t, n ≤ t → t ∉ Region.ready md ops listed
theorem head_waits {n : Nat} (hs : Region.sinkB md ops n = true) (ha : afterB md ops n = true) : HeadWaits md ops n := by
  intro listed inv
  have key : ∀ (k i : Nat), n - i = k → i < n → listed.getD i true = false → ∀ t, n ≤ t → t ∉ Region.ready md ops listed := by
    intro k
    induction k using Nat.strongRecOn with
    | _ k ih =>
      intro i hk hi hun t ht hr
      obtain ⟨_, ot, hot, hall⟩ := mem_ready.1 hr
      have htl : t < ops.size := (Array.getElem?_eq_some_iff.1 hot).1
      have wait : ∀ (t' j : Nat), t' = t → Region.waitsFor md ops t' j = true → listed.getD j false = false → False := by
        intro t' j e hw hj
        subst e
        obtain ⟨o', ho', e, he, hb, hon⟩ := Region.waitsFor_spec hw
        obtain rfl : o' = ot := Option.some.inj (ho'.symm.trans hot)
        have := hall e he hb
        rw [hon, hj] at this
        cases this
      rcases Nat.lt_or_ge n t with hnt | hnt
      · have h1 := List.all_eq_true.1 ha t (List.mem_range.2 htl)
        rw [Bool.or_eq_true] at h1
        rcases h1 with h1 | h1
        · have := of_decide_eq_true h1; omega
        · obtain ⟨j, hj, hj2⟩ := List.any_eq_true.1 h1
          rw [Bool.and_eq_true] at hj2
          have hnj := of_decide_eq_true hj2.1
          have hjt := List.mem_range.1 hj
          exact wait t j rfl hj2.2 (getD_both (inv.tail j hnj (by omega)))
      · obtain rfl : t = n := by omega
        have h1 := List.all_eq_true.1 hs i (List.mem_range.2 hi)
        obtain ⟨j, hj, hj2⟩ := List.any_eq_true.1 h1
        rw [Bool.and_eq_true] at hj2
        have hij := of_decide_eq_true hj2.1
        have hjr := List.mem_range.1 hj
        rcases Nat.lt_or_ge j t with hjt | hjt
        · cases hl : listed.getD j false with
          | false => exact ih (t - j) (by omega) j rfl hjt (getD_in (by rw [inv.size]; omega) hl) t (Nat.le_refl _) hr
          | true =>
            obtain ⟨oj, hoj, e, he, hb, hon⟩ := Region.waitsFor_spec hj2.2
            have := inv.closed j oj hoj hl e he hb
            rw [hon, getD_both hun] at this
            cases this
        · obtain rfl : j = t := by omega
          exact wait j i rfl hj2.2 (getD_both hun)
  intro i hi hun
  exact key _ i rfl hi hun
theorem head_first {n i : Nat} {oi : Oper} {v : Value} {L : Array Bool → Act → Prop} (tw : HeadWaits md ops n) (hi : ops[i]? = some oi) (hsel : ∀ (j : Nat) (o : Oper) cs b, ops[j]? = some o → o.op ≠ .select cs b) (hin : i < n)
    (hdone : ∀ listed a, L listed a → ∀ j ∈ Region.ready md ops listed, n ≤ j) : ∀ (f : Nat) (listed : Array Bool) (a : Act), HeadInv md ops n listed →
      (∀ j oj, ops[j]? = some oj → j ≠ i → listed.getD j true = false → (∀ e ∈ oj.after, Region.binds md e = true → e.on ≠ i) → oi.apart ops oj = true) →
      i ∈ Region.ready md ops listed → YieldsAt P ops w oi v a → wpAnyL P md ops w n L f (listed.setIfInBounds i true) (a.put oi.dst v) → wpAnyL P md ops w n L (f + 1) listed a := by
  intro f
  induction f with
  | zero =>
    intro listed a inv _ hr hy H
    have hun := (mem_ready.1 hr).1
    refine ⟨List.ne_nil_of_mem hr, fun j hj => ⟨?_, ?_⟩⟩
    · exact Nat.lt_of_not_le fun h => tw listed inv i hin hun j h hj
    · by_cases e : j = i
      · subst e; exact hy.stOp hi H
      · have h1 := hdone _ _ H j (ready_mono hj e)
        exact absurd hj (tw listed inv i hin hun j h1)
  | succ f ih =>
    intro listed a inv hfree hr hy H
    have hun := (mem_ready.1 hr).1
    have hlt : ∀ j ∈ Region.ready md ops listed, j < n := fun j hj => Nat.lt_of_not_le fun h => tw listed inv i hin hun j h hj
    refine ⟨List.ne_nil_of_mem hr, fun j hj => ⟨hlt j hj, ?_⟩⟩
    by_cases e : j = i
    · subst e; exact hy.stOp hi H
    · have h1 := (H.2 j (ready_mono hj e)).2
      obtain ⟨hjun, oj, hoj, hall⟩ := mem_ready.1 hj
      have hno : ∀ e ∈ oj.after, Region.binds md e = true → e.on ≠ i := by
        intro e he hb h2
        have := hall e he hb
        rw [h2, getD_both hun] at this
        cases this
      have h2 := stOp_put hoj (hfree j oj hoj e hjun hno) (fun cs b => hsel i oi cs b hi) (fun cs b => hsel j oj cs b hoj) hy h1
      refine stOp_mono (fun a' h3 => ih _ a' (inv.set hj (hlt j hj)) ?_ (ready_mono hr (Ne.symm e)) h3.1 ?_) h2
      · intro k ok hk hki hku hn
        refine hfree k ok hk hki ?_ hn
        by_cases hjk : j = k
        · subst hjk; exact hjun
        · rwa [getD_set_ne true hjk] at hku
      · rw [Array.setIfInBounds_comm _ _ e]; exact h3.2
/-- The reads in order, then the n-th alone, then reads in order. -/
def midHead (md : Region.Mode) (ops : Array Oper) (n : Nat) : Nat → Nat → Array Bool → Bool
  | 0, _, listed => decide (Region.ready md ops listed = [n]) && Region.lexFrom md ops (ops.size - n - 1) (n + 1) (listed.setIfInBounds n true)
  | f + 1, k, listed => (Region.ready md ops listed).contains k && Region.free md ops listed k && midHead md ops n f (k + 1) (listed.setIfInBounds k true)
def midB (md : Region.Mode) (ops : Array Oper) (n : Nat) : Bool :=
  Region.noSelect ops && decide (n < ops.size) && Region.sinkB md ops n && afterB md ops n && midHead md ops n n 0 (Array.replicate ops.size false)
theorem head_lex {n : Nat} {Lq : Act → Prop} (hsel : Region.noSelect ops = true) (tw : HeadWaits md ops n) : ∀ (l : List Oper) (k : Nat) (listed : Array Bool) (a : Act), (∀ j, j < l.length → l[j]? = ops[k + j]?) → k + l.length = n →
    HeadInv md ops n listed → midHead md ops n l.length k listed = true → wpStill P ops w Lq l a →
    wpAnyL P md ops w n (fun listed' a' => midHead md ops n 0 n listed' = true ∧ Lq a') l.length listed a
  | [], k, listed, a, _, _, _, hB, h => ⟨hB, h⟩
  | o :: l, k, listed, a, hl, hk, inv, hB, h => by
    have h0 : ops[k]? = some o := by have := hl 0 (by simp); simpa using this.symm
    simp only [List.length_cons] at hk
    simp only [List.length_cons, midHead, Bool.and_eq_true] at hB
    obtain ⟨⟨hr, hf⟩, hB'⟩ := hB
    have hr' : k ∈ Region.ready md ops listed := by simpa using hr
    obtain ⟨v, hy, hK⟩ := yieldsAt_of_stOp (K := wpStill P ops w Lq l) h0 (by unfold stOp; simp only [h0]; exact h)
    refine head_first tw h0 (Region.noSelect_spec hsel) (by omega) (fun listed' a' hL j hj => ?_) l.length listed a inv (Region.free_spec h0 hf) hr' hy
      (head_lex hsel tw l (k + 1) _ _ (fun j hj => ?_) (by omega) (inv.set hr' (by omega)) hB' hK)
    · have h1 := hL.1
      simp only [midHead, Bool.and_eq_true, decide_eq_true_eq] at h1
      rw [h1.1] at hj
      have : j = n := by simpa using hj
      omega
    · have := hl (j + 1) (by simp; omega)
      simpa [Nat.add_assoc, Nat.add_comm 1 j] using this
/-- What is owed behind the one operation. -/
def Mid (P : Program) (ops : Array Oper) (tail : List Oper) (Q : Exit → Act → World → Prop) : Exit → Act → World → Prop
  | .normal, a, w => wpStill P ops w (fun a' => Q .normal a' w) tail a
  | e, a, w => Q e a w
theorem Mid.mk {tail : List Oper} {Q : Exit → Act → World → Prop} {a : Act} (h : wpStill P ops w (fun a' => Q .normal a' w) tail a) : Mid P ops tail Q .normal a w := h
end
section
variable {P : Program} {a : Act} {w w0 : World} {Q : Exit → Act → World → Prop} {E : List Nat} {L : List Item}
theorem wp_exits {Q' : Exit → Act → World → Prop} {o : Oper} {K : Act → World → Prop} (hp : ∀ c a w, Q' (.panic c) a w → Q (.panic c) a w) (hl : LetsOut Q' → LetsOut Q) (h : o.wp P a w K Q') : o.wp P a w K Q := by
  unfold Oper.wp at *
  generalize (execOp a.eval o).run P w = r at *
  cases r with
  | ok n w' =>
    cases n <;> simp only [Oper.upon] at h ⊢
    case enter f args =>
      refine h.mono fun e w'' he => ?_
      cases e with
      | returned v => exact he
      | panicked c => exact hp _ _ _ he
      | outgrown => exact hl he
    all_goals exact h
  | halt x w' => cases x <;> simp only [Oper.upon] at h ⊢; exact hp _ _ _ h
theorem mid_exits {ops : Array Oper} {tail : List Oper} {o : Oper} {K : Act → World → Prop} (h : o.wp P a w K (Mid P ops tail Q) ∨ (o.asks P a w ∧ LetsOut (Mid P ops tail Q))) : o.wp P a w K Q ∨ (o.asks P a w ∧ LetsOut Q) := by
  have hl : LetsOut (Mid P ops tail Q) → LetsOut Q := fun ⟨a, w, h⟩ => ⟨a, w, h⟩
  exact h.imp (wp_exits (fun _ _ _ h => h) hl) (fun ⟨h1, h2⟩ => ⟨h1, hl h2⟩)
theorem wpOp_mid {ops : Array Oper} {n : Nat} {o : Oper} {tail : List Oper} (ho : ops[n]? = some o) (hs : Region.noSelect ops = true) {listed : Array Bool} {a : Act} {w : World} (hl : tail.length = ops.size - n - 1) (htl : ∀ j, tail[j]? = ops[n + 1 + j]?)
    (hB : midHead .any ops n 0 n listed = true) (h : wpList P ops (Mid P ops tail Q) [o] a w) : wpAny P .any ops Q (ops.size - n) listed a w := by
  simp only [midHead, Bool.and_eq_true, decide_eq_true_eq] at hB
  have hn : n < ops.size := (Array.getElem?_eq_some_iff.1 ho).1
  obtain ⟨m, hm⟩ : ∃ m, ops.size - n = m + 1 := ⟨ops.size - n - 1, by omega⟩
  have hm' : m = tail.length := by omega
  rw [hm]
  refine ⟨fun h0 => (by rw [hB.1] at h0; cases h0), fun i hi => ?_⟩
  rw [hB.1] at hi
  obtain rfl : i = n := by simpa using hi
  have key : ∀ a' w', Mid P ops tail Q .normal a' w' → wpAny P .any ops Q m (listed.setIfInBounds i true) a' w' := by
    intro a' w' hmid
    have h1 := wpAnyS_lex (md := .any) hs tail (i + 1) _ a' htl (by rw [hl]; exact hB.2) hmid
    rw [hm']
    exact wpAny_of_still (Q := fun a' => Q .normal a' w') (fun _ h => h) _ _ _ h1
  refine wpOp_mono (K := fun a' w' => Mid P ops tail Q .normal a' w') key ?_
  unfold wpOp
  simp only [ho]
  unfold wpList at h
  split
  · rename_i hw
    rw [if_pos hw] at h
    exact mid_exits h
  · rename_i hw
    rw [if_neg hw] at h
    exact h
/-- Reads, one operation, reads: the world ahead of it is a letter. -/
theorem wp_region_midM {id : Nat} {l : List Oper} (n : Nat) (hm : P.follows .mixedOrders = true) (hB : midB .any l.toArray n = true) (M : Mem w0 E w L)
    (h : ∀ w1, Mem w0 E w1 L → wpStill P l.toArray w1 (fun a' => wpList P l.toArray (Mid P l.toArray (l.drop (n + 1)) Q) ((l.drop n).take 1) a' w1) (l.take n) a) : (Code.region id l.toArray true).wp P Q a w := by
  have h' := h _ (M.drawn (w.drawn + 1))
  simp only [midB, Bool.and_eq_true, decide_eq_true_eq] at hB
  obtain ⟨⟨⟨⟨hsel, hn⟩, hs⟩, ha⟩, hlex⟩ := hB
  have hn' : n < l.length := by simpa using hn
  have htl : (l.take n).length = n := by simp; omega
  have inv0 : HeadInv .any l.toArray n (Array.replicate l.toArray.size false) :=
    ⟨by simp, fun j oj _ hl => (by rw [getD_replicate_false] at hl; cases hl), fun t _ ht => getD_in (by simpa using ht) (getD_replicate_false _ _)⟩
  have H := head_lex (md := .any) hsel (head_waits hs ha) (l.take n) 0 _ a (fun j hj => by
    have hj' : j < n := by rw [htl] at hj; exact hj
    simp [hj']) (by simpa using htl) inv0 (by rw [htl]; exact hlex) h'
  refine wp_region_any hm ?_
  have h1 : (l.drop n).take 1 = [l[n]] := by
    rw [List.drop_eq_getElem_cons hn']
    rfl
  have := wpAny_of_head (Q' := Q) (g := l.toArray.size - n) (fun listed a' hL => by
    obtain ⟨hb, hk⟩ := hL
    rw [h1] at hk
    exact wpOp_mid (o := l[n]) (by simp [hn']) hsel (by simp; omega) (fun j => by simp [List.getElem?_drop]) hb hk) _ _ _ H
  rw [htl, show n + (l.toArray.size - n) = l.toArray.size by simp; omega] at this
  exact this
end
end Go.Proofs.Ytcapfnbmmdbcoaa
