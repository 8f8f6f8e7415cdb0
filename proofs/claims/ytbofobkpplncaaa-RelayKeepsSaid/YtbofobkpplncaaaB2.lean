/- Walks of the relay layer: the relay's state; turn, box, Clone, Same. -/
import Derived.Test.YtbofobkpplncaaaB1
set_option linter.unusedVariables false
set_option linter.unusedSimpArgs false
namespace Go.Proofs.Ytbofobkpplncaaa
open Go.RowKit
theorem iz25 : (Try.prog.info? 25).map (fun i => (i.zero, i.size)) = some (some (.slice none 0 0), 1) := by kernel_rfl
theorem sz9 : (Try.prog.info? 9).map (·.size) = some 1 := by kernel_rfl
theorem sz25 : (Try.prog.info? 25).map (·.size) = some 1 := by kernel_rfl
section
variable {ops : Array Oper} {rest : List Oper} {o : Oper} {a : Act} {w w0 : World} {Q : Exit → Act → World → Prop} {E : List Nat} {L L' : List Item}
/-- A slice of three slices is made. -/
theorem wpList_bsL3 (m : Nat) (hm : o.dst = some m) (hgd : o.guard = none) {x0 x1 x2 : Operand} (ho : o.op = .buildSlice 57 3 #[(0, x0), (1, x1), (2, x2)]) {A0 A1 A2 : Option Addr} {n0 n1 n2 c0 c1 c2 : Nat} (h0 : a.eval x0 = .slice A0 n0 c0) (h1 : a.eval x1 = .slice A1 n1 c1) (h2 : a.eval x2 = .slice A2 n2 c2) (M : Mem w0 E w L)
    (h : ∀ b w', Mem w0 E w' (.blk b (cellsO 25 [.slice A0 n0 c0, .slice A1 n1 c1, .slice A2 n2 c2]) :: L) → wpList Try.prog ops Q rest (a.put (some m) (.slice (some ⟨b, 0, none⟩) 3 3)) w') : wpList Try.prog ops Q (o :: rest) a w :=
  wpList_bsN Try.underlying57 iz25 m hm hgd ho (by decide) (cs := [.slice A0 n0 c0, .slice A1 n1 c1, .slice A2 n2 c2]) (by rw [show (#[(0, x0), (1, x1), (2, x2)] : Array (Nat × Operand)).toList.map (fun (i, x) => (i, a.eval x)) = [(0, .slice A0 n0 c0), (1, .slice A1 n1 c1), (2, .slice A2 n2 c2)] from by simp [h0, h1, h2]]; kernel_rfl) M h
/-- A slice of one text is made. -/
theorem wpList_bsT1 (m : Nat) (hm : o.dst = some m) (hgd : o.guard = none) {x : Operand} (ho : o.op = .buildSlice 25 1 #[(0, x)]) {s : ByteArray} (hx : a.eval x = .string s) (M : Mem w0 E w L)
    (h : ∀ b w', Mem w0 E w' (.blk b (cellsO 9 (strs [s])) :: L) → wpList Try.prog ops Q rest (a.put (some m) (.slice (some ⟨b, 0, none⟩) 1 1)) w') : wpList Try.prog ops Q (o :: rest) a w :=
  wpList_bsN Try.underlying25 iz9 m hm hgd ho (by decide) (cs := strs [s]) (by rw [show (#[(0, x)] : Array (Nat × Operand)).toList.map (fun (i, x) => (i, a.eval x)) = [(0, .string s)] from by simp [hx]]; kernel_rfl) M h
end
def TurnR (w : World) (g k : Nat) (t : TypeId) (vs : List Value) (ps : List ByteArray) (e : Ending) (w' : World) : Prop :=
  ∃ A c, e = .returned (.tuple #[]) ∧ w'.heap[g]? = some (cellsO t (vs.set k (.slice A ps.length c))) ∧ ps.length ≤ c ∧ (A = none → c = 0) ∧ RowT w' 9 A (strs ps) ∧ w.grownBy w' (some g) ∧ ∀ ad, A = some ad → w.heap.size ≤ ad.block
set_option maxRecDepth 100000 in
set_option maxHeartbeats 1000000 in
theorem Turn22 (g k : Nat) (t : TypeId) (vs : List Value) (A A2 : Option Addr) (c c2 at' out : Nat) (L ps : List ByteArray) (w : World) (hg : w.heap[g]? = some (cellsO t vs)) (ht : t ≠ 9) (hv : vs[k]? = some (Value.slice A L.length c)) (hc : L.length ≤ c) (hr : RowT w 9 A (strs L))
    (hr2 : RowT w 9 A2 (strs ps)) (h1 : at' + out ≤ L.length) (hL : L.length ≤ 1000) (hp : ps.length ≤ 1000) :
    Calls Try.prog 22 #[.pointer (some ⟨g, k, none⟩), .int .i64 at', .int .i64 out, .slice A2 ps.length c2] w (TurnR w g k t vs (L.take at' ++ (ps ++ L.drop (at' + out)))) := by
  have M0 := Mem.start1 hg
  have m0 : IntKind.i64.wrap ((at' : Int) + (out : Int)) = ((at' + out : Nat) : Int) := by rw [IntWalk.i64_in _ (by omega)]; omega
  have hkl : k < vs.length := (List.getElem?_eq_some_iff.1 hv).1
  have ha : (L.take at').length = at' := by rw [List.length_take]; omega
  have hd : (L.drop (at' + out)).length = L.length - (at' + out) := by rw [List.length_drop]
  have hcat := hid (fun b w' (hb : w'.heap[b]? = some (cellsO 25 [.slice A at' c, .slice A2 ps.length c2, .slice (lowA A c (at' + out) 1) (L.length - (at' + out)) (c - (at' + out))])) (M : ∀ (A : Option Addr) (qs : List ByteArray), RowT w 9 A (strs qs) → RowT w' 9 A (strs qs)) =>
    Concat23 b [.slice A at' c, .slice A2 ps.length c2, .slice (lowA A c (at' + out) 1) (L.length - (at' + out)) (c - (at' + out))] [L.take at', ps, L.drop (at' + out)] w' hb rfl (by simp) (by simp; omega) (fun i q hq => by
      match i, hq with
      | 0, hq =>
        simp only [List.getElem?_cons_zero, Option.some.injEq] at hq
        subst hq
        exact ⟨A, c, by simp [ha], M _ _ (by rw [strs_take]; exact hr.take at')⟩
      | 1, hq =>
        simp only [List.getElem?_cons_succ, List.getElem?_cons_zero, Option.some.injEq] at hq
        subst hq
        exact ⟨A2, c2, by simp, M _ _ hr2⟩
      | 2, hq =>
        simp only [List.getElem?_cons_succ, List.getElem?_cons_zero, Option.some.injEq] at hq
        subst hq
        exact ⟨lowA A c (at' + out) 1, c - (at' + out), by simp [hd], M _ _ (by
          have := hr.low (c := c) (low := at' + out) (size := 1) (by rw [strs_length]; omega)
          rw [Nat.mul_one, ← strs_drop] at this
          exact this)⟩
      | i + 3, hq => simp at hq))
  have hfl : [L.take at', ps, L.drop (at' + out)].flatten = L.take at' ++ (ps ++ L.drop (at' + out)) := by simp
  have e3 : ([L.take at', ps, L.drop (at' + out)] : List (List ByteArray)).length = 3 := rfl
  rw [hfl, e3] at hcat
  obtain ⟨rs, hrs⟩ : ∃ x, x = L.take at' ++ (ps ++ L.drop (at' + out)) := ⟨_, rfl⟩
  rw [← hrs] at hcat ⊢
  have HG := hid hg
  have HV := hid hv
  clear hrs hfl e3 ha hd hg hv
  go_enter Try.func22, Try.ntmps22
  go_wp2_with fail
  refine wp_region_planP (.free 0 (.free 1 (.free 2 (.free 4 (.free 6 (.free 7 (.free 8 (.free 10 (.free 11 (.free 12 (.two 3 (.free 5 (.one 9 (.free 13 (.one 14 (.one 15 (.free 16 (.one 17 (.done)))))))) 9 (.free 13 (.one 3 (.free 5 (.one 14 (.one 15 (.free 16 (.one 17 (.done))))))))))))))))))) (by kernel_rfl) (by kernel_rfl) (fun _ _ _ _ _ h => h) M0 (fun w1 M1 => ?_)
  clear M0
  iterate 10 (refine wpT_free rfl rfl (.inl ⟨rfl, fun w _ => by go_simp; rfl⟩) trivial ?_; (conv => arg 6; simp only [Act.put, List.setIfInBounds_toArray, List.set_cons_succ, List.set_cons_zero]))
  have hcell := M1.cell List.mem_cons_self HV.out
  refine wpT_two rfl rfl ?_ ?_
  ·
    go_wp2_with fail
    refine PlanTQ.mk trivial ?_
    refine wpT_free (v := .slice A at' c) rfl rfl (.inl ⟨rfl, fun w _ => run_slHigh (h := (at' : Int)) Try.underlying25 sz9 rfl rfl rfl (by omega) (by omega) w⟩) trivial ?_; (conv => arg 6; simp only [Act.put, List.setIfInBounds_toArray, List.set_cons_succ, List.set_cons_zero])
    refine wpT_op rfl ?_
    go_wp2_with fail
    refine PlanTQ.mk trivial ?_
    refine wpT_free (v := .slice (lowA A c (at' + out) 1) (L.length - (at' + out)) (c - (at' + out))) rfl rfl (.inl ⟨rfl, fun w _ => run_slLow (l := (at' : Int) + (out : Int)) Try.underlying25 sz9 rfl rfl rfl (by omega) (by omega) (by omega) w⟩) trivial ?_; (conv => arg 6; simp only [Act.put, List.setIfInBounds_toArray, List.set_cons_succ, List.set_cons_zero])
    refine wpT_op rfl ?_
    go_wp2_with (first | (apply wpList_bsL3 22; (· rfl); (· rfl); (· rfl); (· rfl); (· rfl); (· rfl); (· exact M1); intro b22 w' M2; (conv => arg 5; simp only [Act.put, List.setIfInBounds_toArray, List.set_cons_succ, List.set_cons_zero])))
    refine PlanTQ.mk trivial (wpT_op rfl ?_)
    clear hcell
    have hrk := fun (A : Option Addr) (qs : List ByteArray) (h : RowT w 9 A (strs qs)) => h.memE (M2.sub (List.nil_sublist _)) HG.out ht
    go_wp2_with (go_at_call 23; refine (hcat.out _ _ (M2.holds _ List.mem_cons_self) hrk).mono ?_; rintro e w' ⟨A', c', rfl, hc1, hc2, hc3, hb, hc4⟩)
    refine PlanTQ.mk trivial ?_
    (refine wpT_free rfl rfl (.inl ⟨rfl, fun w _ => by go_simp; rfl⟩) trivial ?_; (conv => arg 6; simp only [Act.put, List.setIfInBounds_toArray, List.set_cons_succ, List.set_cons_zero]))
    refine wpT_op rfl ?_
    have M3 := M2.call hb
    have hsz := M2.size
    go_wp2_with (refine wpList_stG rfl rfl s25 rfl rfl rfl M3 (Swap.tail Swap.head) hkl (fun w' M4 hgr => ?_); (conv => arg 5; simp only [Act.put, List.setIfInBounds_toArray, List.set_cons_succ, List.set_cons_zero]))
    refine PlanTQ.mk trivial (wpT_done ?_)
    go_end0
    exact ⟨A', c', rfl, M4.holds _ (List.mem_cons_of_mem _ List.mem_cons_self), hc1, hc2, hc3.grown hgr (M3.holds _ (List.mem_cons_of_mem _ List.mem_cons_self)) ht, M4.grown1, fun ad h => Nat.le_trans hsz (hc4 ad h)⟩
  ·
    go_wp2_with fail
    refine PlanTQ.mk trivial ?_
    refine wpT_free (v := .slice (lowA A c (at' + out) 1) (L.length - (at' + out)) (c - (at' + out))) rfl rfl (.inl ⟨rfl, fun w _ => run_slLow (l := (at' : Int) + (out : Int)) Try.underlying25 sz9 rfl rfl rfl (by omega) (by omega) (by omega) w⟩) trivial ?_; (conv => arg 6; simp only [Act.put, List.setIfInBounds_toArray, List.set_cons_succ, List.set_cons_zero])
    refine wpT_op rfl ?_
    go_wp2_with fail
    refine PlanTQ.mk trivial ?_
    refine wpT_free (v := .slice A at' c) rfl rfl (.inl ⟨rfl, fun w _ => run_slHigh (h := (at' : Int)) Try.underlying25 sz9 rfl rfl rfl (by omega) (by omega) w⟩) trivial ?_; (conv => arg 6; simp only [Act.put, List.setIfInBounds_toArray, List.set_cons_succ, List.set_cons_zero])
    refine wpT_op rfl ?_
    go_wp2_with (first | (apply wpList_bsL3 22; (· rfl); (· rfl); (· rfl); (· rfl); (· rfl); (· rfl); (· exact M1); intro b22 w' M2; (conv => arg 5; simp only [Act.put, List.setIfInBounds_toArray, List.set_cons_succ, List.set_cons_zero])))
    refine PlanTQ.mk trivial (wpT_op rfl ?_)
    clear hcell
    have hrk := fun (A : Option Addr) (qs : List ByteArray) (h : RowT w 9 A (strs qs)) => h.memE (M2.sub (List.nil_sublist _)) HG.out ht
    go_wp2_with (go_at_call 23; refine (hcat.out _ _ (M2.holds _ List.mem_cons_self) hrk).mono ?_; rintro e w' ⟨A', c', rfl, hc1, hc2, hc3, hb, hc4⟩)
    refine PlanTQ.mk trivial ?_
    (refine wpT_free rfl rfl (.inl ⟨rfl, fun w _ => by go_simp; rfl⟩) trivial ?_; (conv => arg 6; simp only [Act.put, List.setIfInBounds_toArray, List.set_cons_succ, List.set_cons_zero]))
    refine wpT_op rfl ?_
    have M3 := M2.call hb
    have hsz := M2.size
    go_wp2_with (refine wpList_stG rfl rfl s25 rfl rfl rfl M3 (Swap.tail Swap.head) hkl (fun w' M4 hgr => ?_); (conv => arg 5; simp only [Act.put, List.setIfInBounds_toArray, List.set_cons_succ, List.set_cons_zero]))
    refine PlanTQ.mk trivial (wpT_done ?_)
    go_end0
    exact ⟨A', c', rfl, M4.holds _ (List.mem_cons_of_mem _ List.mem_cons_self), hc1, hc2, hc3.grown hgr (M3.holds _ (List.mem_cons_of_mem _ List.mem_cons_self)) ht, M4.grown1, fun ad h => Nat.le_trans hsz (hc4 ad h)⟩
/-! ### The relay's state -/
/-- Block g is a relay of type t: eight lists. -/
def RS (w : World) (g : Nat) (t : TypeId) (Ls : List (List ByteArray)) (vs : List Value) : Prop :=
  w.heap[g]? = some (cellsO t vs) ∧ vs.length = 8 ∧ Ls.length = 8 ∧ ∀ (i : Nat) (L : List ByteArray), Ls[i]? = some L → ∃ A c, vs[i]? = some (Value.slice A L.length c) ∧ L.length ≤ c ∧ (A = none → c = 0) ∧ RowT w 9 A (strs L) ∧ L.length ≤ 40
theorem RS.below {w w' : World} {g : Nat} {t : TypeId} {Ls : List (List ByteArray)} {vs : List Value} (h : RS w g t Ls vs) (hb : Below w.heap.size w w') : RS w' g t Ls vs := by
  obtain ⟨h1, h2, h3, h4⟩ := h
  refine ⟨by rw [hb.block g (Array.getElem?_eq_some_iff.1 h1).1, h1], h2, h3, fun i L hL => ?_⟩
  obtain ⟨A, c, e1, e2, e3, e4, e5⟩ := h4 i L hL
  exact ⟨A, c, e1, e2, e3, e4.below hb, e5⟩
theorem RS.grown {w w' : World} {g g' : Nat} {t : TypeId} {Ls : List (List ByteArray)} {vs : List Value} (h : RS w g t Ls vs) (hg : w.grownBy w' (some g')) {arr : Array Value} {t' : TypeId} {m : Nat × Nat} (h0 : w.heap[g']? = some (.cells arr t' m)) (ht : t' ≠ 9) (hne : g ≠ g') : RS w' g t Ls vs := by
  obtain ⟨h1, h2, h3, h4⟩ := h
  refine ⟨by rw [hg.block g (Array.getElem?_eq_some_iff.1 h1).1 (by simpa using hne), h1], h2, h3, fun i L hL => ?_⟩
  obtain ⟨A, c, e1, e2, e3, e4, e5⟩ := h4 i L hL
  exact ⟨A, c, e1, e2, e3, e4.grown hg h0 ht, e5⟩
/-- One list is another one. -/
theorem RS.set {w w' : World} {g k : Nat} {t : TypeId} {Ls : List (List ByteArray)} {vs : List Value} (h : RS w g t Ls vs) (hk : k < 8) (ht : t ≠ 9) (hg : w.grownBy w' (some g)) {A : Option Addr} {c : Nat} {ps : List ByteArray} (hh : w'.heap[g]? = some (cellsO t (vs.set k (.slice A ps.length c))))
    (e2 : ps.length ≤ c) (e3 : A = none → c = 0) (e4 : RowT w' 9 A (strs ps)) (e5 : ps.length ≤ 40) : RS w' g t (Ls.set k ps) (vs.set k (.slice A ps.length c)) := by
  obtain ⟨h1, h2, h3, h4⟩ := h
  refine ⟨hh, by simp [h2], by simp [h3], fun i L hL => ?_⟩
  by_cases hik : k = i
  · subst hik
    rw [List.getElem?_set_self (by omega)] at hL
    injection hL with hL
    subst hL
    exact ⟨A, c, List.getElem?_set_self (by omega), e2, e3, e4, e5⟩
  · rw [List.getElem?_set_ne hik] at hL
    obtain ⟨A', c', f1, f2, f3, f4, f5⟩ := h4 i L hL
    exact ⟨A', c', by rw [List.getElem?_set_ne hik]; exact f1, f2, f3, f4.grown hg h1 ht, f5⟩
theorem RS.at {w : World} {g k : Nat} {t : TypeId} {Ls : List (List ByteArray)} {vs : List Value} (h : RS w g t Ls vs) (hk : k < 8) : ∃ L A c, Ls[k]? = some L ∧ vs[k]? = some (Value.slice A L.length c) ∧ L.length ≤ c ∧ (A = none → c = 0) ∧ RowT w 9 A (strs L) ∧ L.length ≤ 40 := by
  have hl : k < Ls.length := by rw [h.2.2.1]; exact hk
  obtain ⟨A, c, hh⟩ := h.2.2.2 k Ls[k] (List.getElem?_eq_getElem hl)
  exact ⟨Ls[k], A, c, List.getElem?_eq_getElem hl, hh⟩
def BoxR (w : World) (v : Value) (b : Bool) (e : Ending) (w' : World) : Prop := e = .returned (.tuple #[v, .bool b]) ∧ Mem w [] w' []
theorem Box20_nil (to i : Int) (w : World) : Calls Try.prog 20 #[.pointer none, .int .i64 to, .int .i64 i] w (BoxR w (.pointer none) false) := by
  have M0 := Mem.start w
  go_enter Try.func20, Try.ntmps20
  go_wp2_with fail
  go_ret2
  exact ⟨rfl, M0⟩
theorem Box20_out (p : Option Addr) (to i : Int) (w : World) (h : to < 0 ∨ 8 ≤ to) : Calls Try.prog 20 #[.pointer p, .int .i64 to, .int .i64 i] w (BoxR w (.pointer none) false) := by
  have M0 := Mem.start w
  rcases h with h | h
  · cases p with
    | none => exact Box20_nil to i w
    | some ad =>
      go_enter Try.func20, Try.ntmps20
      go_wp2_with fail
      go_ret2
      exact ⟨rfl, M0⟩
  · have h2 : ¬ to < 0 := by omega
    cases p with
    | none => exact Box20_nil to i w
    | some ad =>
      go_enter Try.func20, Try.ntmps20
      go_wp2_with fail
      go_ret2
      exact ⟨rfl, M0⟩
theorem Box20 (g k n c : Nat) (t : TypeId) (vs : List Value) (A : Option Addr) (i : Int) (w : World) (hk : k < 8) (hg : w.heap[g]? = some (cellsO t vs)) (hv : vs[k]? = some (Value.slice A n c)) :
    Calls Try.prog 20 #[.pointer (some ⟨g, 0, none⟩), .int .i64 k, .int .i64 i] w (BoxR w (.pointer (some ⟨g, k, none⟩)) (decide (0 ≤ i ∧ i < n))) := by
  have M0 := Mem.start w
  have hkI : (k : Int) < 8 := by omega
  have hkI2 : ¬ (8 : Int) ≤ (k : Int) := by omega
  have hkI3 : ¬ (k : Int) < 0 := by omega
  have hc : w.cell? ⟨g, k, none⟩ = some (Value.slice A n c) := by
    rw [cell_of_row w g k vs.toArray t (0, 0) hg]
    simpa using hv
  have HC := hid hc
  clear hc hg hv
  by_cases h0 : 0 ≤ i
  · rw [show decide (0 ≤ i ∧ i < (n : Int)) = decide (i < (n : Int)) from by simp [h0]]
    go_enter Try.func20, Try.ntmps20
    go_wp2_with fail
    refine wp_region_planT (.free 0 (.free 1 (.free 2 (.free 3 (.free 4 (.free 5 (.free 6 (.free 7 (.free 8 (.free 9 (.free 10 (.free 11 (.free 12 (.done)))))))))))))) (by kernel_rfl) (by kernel_rfl) (fun _ _ _ _ _ h => h) M0 (fun w1 M1 => ?_)
    clear M0
    iterate 4 (refine wpT_free rfl rfl (.inl ⟨rfl, fun w _ => by go_simp; rfl⟩) (by assumption) ?_; (conv => arg 6; simp only [Act.put, List.setIfInBounds_toArray, List.set_cons_succ, List.set_cons_zero]))
    iterate 3 (refine wpT_free rfl rfl (.inl ⟨rfl, fun w _ => by go_simp; rfl⟩) (by assumption) ?_; (conv => arg 6; simp only [Act.put, List.setIfInBounds_toArray, List.set_cons_succ, List.set_cons_zero]))
    refine wpT_free rfl rfl (.inl ⟨rfl, fun w hw => run_ld1 Try.underlying25 rfl rfl rfl (hw.cell0 HC.out)⟩) (by assumption) ?_; (conv => arg 6; simp only [Act.put, List.setIfInBounds_toArray, List.set_cons_succ, List.set_cons_zero])
    iterate 2 (refine wpT_free rfl rfl (.inl ⟨rfl, fun w _ => by go_simp; rfl⟩) (by assumption) ?_; (conv => arg 6; simp only [Act.put, List.setIfInBounds_toArray, List.set_cons_succ, List.set_cons_zero]))
    iterate 3 (refine wpT_free rfl rfl (.inl ⟨rfl, fun w _ => by go_simp; rfl⟩) (by assumption) ?_; (conv => arg 6; simp only [Act.put, List.setIfInBounds_toArray, List.set_cons_succ, List.set_cons_zero]))
    refine wpT_done ?_
    go_wp2_with fail
    go_ret2
    exact ⟨rfl, M1⟩
  · rw [decide_eq_false (fun h => h0 h.1)]
    have h0d : decide (0 ≤ i) = false := decide_eq_false h0
    go_enter Try.func20, Try.ntmps20
    go_wp2_with fail
    refine wp_region_planT (.free 0 (.free 1 (.free 2 (.free 3 (.free 4 (.free 5 (.free 6 (.free 7 (.free 8 (.free 9 (.free 10 (.free 11 (.free 12 (.done)))))))))))))) (by kernel_rfl) (by kernel_rfl) (fun _ _ _ _ _ h => h) M0 (fun w1 M1 => ?_)
    clear M0
    iterate 4 (refine wpT_free rfl rfl (.inl ⟨rfl, fun w _ => by go_simp; rfl⟩) (by assumption) ?_; (conv => arg 6; simp only [Act.put, List.setIfInBounds_toArray, List.set_cons_succ, List.set_cons_zero]))
    iterate 6 (refine wpT_free rfl rfl (.inr ⟨rfl, rfl⟩) (by assumption) ?_; (conv => arg 6; simp only [Act.put, List.setIfInBounds_toArray, List.set_cons_succ, List.set_cons_zero]))
    iterate 3 (refine wpT_free rfl rfl (.inl ⟨rfl, fun w _ => by go_simp; rfl⟩) (by assumption) ?_; (conv => arg 6; simp only [Act.put, List.setIfInBounds_toArray, List.set_cons_succ, List.set_cons_zero]))
    refine wpT_done ?_
    go_wp2_with fail
    go_ret2
    exact ⟨rfl, M1⟩
end Go.Proofs.Ytbofobkpplncaaa
