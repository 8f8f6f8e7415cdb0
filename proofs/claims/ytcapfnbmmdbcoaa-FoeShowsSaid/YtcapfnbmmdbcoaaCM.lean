/- Maps from texts to numbers, in which the i-th key has i. Plain laws; no program is named. -/
import Derived.Test.YtcapfnbmmdbcoaaC0
import Derived.WideKeyEntry
set_option linter.unusedVariables false
set_option linter.unusedSimpArgs false
namespace Go.Proofs.Ytcapfnbmmdbcoaa
open Go.RowKit
open Go.MapKept Go.ChangeShapes Go.WideShapes
open Go.WideElems (findIdx_arr findIdx_born modify_last)
open Go.ChangeMaps (setBlock heap_setBlock_same heap_setBlock_other)
def mapEs (ks : List ByteArray) : List MapEntry := ks.mapIdx fun i s => ⟨.string s, .int .i64 (i : Int), i⟩
abbrev mapO (ks : List ByteArray) : Obj := .map (mapEs ks).toArray ks.length
theorem mapEs_get (ks : List ByteArray) (i : Nat) : (mapEs ks)[i]? = (ks[i]?).map fun s => ⟨.string s, .int .i64 (i : Int), i⟩ := by simp [mapEs]
theorem mapEs_mem {ks : List ByteArray} {e : MapEntry} (h : e ∈ mapEs ks) : ∃ (i : Nat) (s : ByteArray), ks[i]? = some s ∧ e = ⟨.string s, .int .i64 (i : Int), i⟩ := by
  obtain ⟨i, hi, he⟩ := List.mem_iff_getElem.1 h
  have h1 : (mapEs ks)[i]? = some e := by rw [List.getElem?_eq_getElem hi, he]
  rw [mapEs_get] at h1
  cases hs : ks[i]? with
  | none => rw [hs] at h1; cases h1
  | some s =>
    rw [hs] at h1
    injection h1 with h1
    exact ⟨i, s, hs, h1.symm⟩
theorem mapEs_append (ks : List ByteArray) (s : ByteArray) : mapEs (ks ++ [s]) = mapEs ks ++ [⟨.string s, .int .i64 (ks.length : Int), ks.length⟩] := by simp [mapEs, List.mapIdx_append]
theorem mapEs_length (ks : List ByteArray) : (mapEs ks).length = ks.length := by simp [mapEs]
theorem mapEs_born (ks : List ByteArray) : (mapEs ks).map (·.born) = List.range ks.length := by
  apply List.ext_getElem?
  intro i
  rw [List.getElem?_map, mapEs_get]
  by_cases h : i < ks.length
  · rw [List.getElem?_eq_getElem h, List.getElem?_range h]; rfl
  · rw [List.getElem?_eq_none (by omega), List.getElem?_eq_none (by simpa using h)]; rfl
section
variable {P : Program} {k t e : TypeId}
theorem mapEs_keys (hk : P.underlying k = some .string) {ks : List ByteArray} (hs : ∀ s ∈ ks, s.size ≤ maxLen) : ∀ e ∈ mapEs ks, ∃ l, keyOf P k e.key = some l := fun e he => by
  obtain ⟨i, s, h1, rfl⟩ := mapEs_mem he
  exact ⟨_, WideMaps.keyOf_string_mk hk (hs s (List.mem_of_getElem? h1))⟩
theorem find_no (hk : P.underlying k = some .string) {ks : List ByteArray} (hs : ∀ s ∈ ks, s.size ≤ maxLen) {s : ByteArray} (h : s.size ≤ maxLen) (hno : s ∉ ks) (w : World) : (Instr.findKey k (.string s) (mapEs ks)).run P w = .ok none w := by
  rcases (WideMaps.string_law hk).find w (WideMaps.keyOf_string_mk hk h) (mapEs ks) (mapEs_keys hk hs) with ⟨h1, _⟩ | ⟨j, e0, h1, h2, h3⟩
  · exact h1
  · exfalso
    rw [mapEs_get] at h2
    cases hj : ks[j]? with
    | none => rw [hj] at h2; cases h2
    | some s' =>
      rw [hj] at h2
      injection h2 with h2
      subst h2
      injection h3 with h3
      subst h3
      exact hno (List.mem_of_getElem? hj)
theorem find_yes (hk : P.underlying k = some .string) {ks : List ByteArray} (hs : ∀ s ∈ ks, s.size ≤ maxLen) (hn : ks.Nodup) {s : ByteArray} {i : Nat} (hi : ks[i]? = some s) (w : World) : (Instr.findKey k (.string s) (mapEs ks)).run P w = .ok (some (i, .int .i64 (i : Int))) w := by
  have h := hs s (List.mem_of_getElem? hi)
  rcases (WideMaps.string_law hk).find w (WideMaps.keyOf_string_mk hk h) (mapEs ks) (mapEs_keys hk hs) with ⟨_, h2⟩ | ⟨j, e0, h1, h2, h3⟩
  · exact absurd rfl (h2 ⟨.string s, .int .i64 (i : Int), i⟩ (List.mem_of_getElem? (i := i) (by rw [mapEs_get, hi]; rfl)))
  · rw [mapEs_get] at h2
    cases hj : ks[j]? with
    | none => rw [hj] at h2; cases h2
    | some s' =>
      rw [hj] at h2
      injection h2 with h2
      subst h2
      injection h3 with h3
      subst h3
      have hij : j = i := (List.getElem?_inj (List.getElem?_eq_some_iff.1 hj).1 hn).1 (by rw [hj, hi])
      subst hij
      exact h1
theorem run_lookup_no (ht : P.underlying t = some (.map k e)) (hk : P.underlying k = some .string) (he : ∀ u : World, (zeroValue e).run P u = .ok (.int .i64 0) u) {ks : List ByteArray} (hs : ∀ s ∈ ks, s.size ≤ maxLen) {s : ByteArray} (h : s.size ≤ maxLen) (hno : s ∉ ks) {w : World} {b : Nat} (hb : w.heap[b]? = some (mapO ks)) :
    (Instr.lookup t (.map (some b)) (.string s) true).run P w = .ok (.tuple #[.int .i64 0, .bool false]) w := by
  simp [Instr.lookup, run_underlying ht, MapKept.run_getObj_map hb, (WideMaps.string_law hk).check w _ (WideMaps.keyOf_string_mk hk h), find_no hk hs h hno, he]
theorem run_lookup_yes (ht : P.underlying t = some (.map k e)) (hk : P.underlying k = some .string) {ks : List ByteArray} (hs : ∀ s ∈ ks, s.size ≤ maxLen) (hn : ks.Nodup) {s : ByteArray} {i : Nat} (hi : ks[i]? = some s) {w : World} {b : Nat} (hb : w.heap[b]? = some (mapO ks)) :
    (Instr.lookup t (.map (some b)) (.string s) true).run P w = .ok (.tuple #[.int .i64 (i : Int), .bool true]) w := by
  simp [Instr.lookup, run_underlying ht, MapKept.run_getObj_map hb, (WideMaps.string_law hk).check w _ (WideMaps.keyOf_string_mk hk (hs s (List.mem_of_getElem? hi))), find_yes hk hs hn hi]
/-- A map in which a key was just made. -/
abbrev mapO1 (ks : List ByteArray) (s : ByteArray) : Obj := .map (mapEs ks ++ [MapEntry.mk (.string s) (.int .i64 0) ks.length]).toArray (ks.length + 1)
theorem run_entry (ht : P.underlying t = some (.map k e)) (hk : P.underlying k = some .string) (he : ∀ u : World, (zeroValue e).run P u = .ok (.int .i64 0) u) {ks : List ByteArray} (hs : ∀ s ∈ ks, s.size ≤ maxLen) {s : ByteArray} (h : s.size ≤ maxLen) (hno : s ∉ ks) {w : World} {b : Nat} (hb : w.heap[b]? = some (mapO ks)) :
    (Instr.mapEntry t (.map (some b)) (.string s)).run P w = .ok (.tuple #[.int .i64 0, goInt ks.length]) (setBlock w b (mapO1 ks s)) := by
  simp [Instr.mapEntry, run_underlying ht, MapKept.run_getObj_map hb, (WideMaps.string_law hk).check w _ (WideMaps.keyOf_string_mk hk h), find_no hk hs h hno, he, MapKept.run_setObj_map _ hb, Result.andThen, setBlock]
theorem run_estore {ks : List ByteArray} {s : ByteArray} {w : World} {b : Nat} (hb : w.heap[b]? = some (mapO1 ks s)) :
    (Instr.entryStore t (.map (some b)) (goInt ks.length) (.int .i64 (ks.length : Int))).run P w = .ok () (setBlock w b (mapO (ks ++ [s]))) := by
  have hidx : (mapEs ks ++ [MapEntry.mk (.string s) (.int .i64 0) ks.length]).findIdx? (fun e => ((e.born : Nat) : Int) == ((ks.length : Nat) : Int)) = some ks.length := by
    refine findIdx_born (e0 := ⟨.string s, .int .i64 0, ks.length⟩) ?_ (by rw [List.getElem?_append_right (by rw [mapEs_length]; omega), mapEs_length]; simp)
    rw [List.map_append, mapEs_born]
    refine List.nodup_append.2 ⟨List.nodup_range, by simp, fun a ha c hc e1 => ?_⟩
    simp only [List.map_cons, List.map_nil, List.mem_singleton] at hc
    rw [List.mem_range] at ha
    omega
  have hmod : (mapEs ks ++ [MapEntry.mk (.string s) (.int .i64 0) ks.length]).modify ks.length (fun e => { e with val := .int .i64 (ks.length : Int) }) = mapEs (ks ++ [s]) := by
    rw [mapEs_append]
    have := modify_last (fun e : MapEntry => { e with val := .int .i64 (ks.length : Int) }) ⟨.string s, .int .i64 0, ks.length⟩ (mapEs ks)
    rw [mapEs_length] at this
    exact this
  simp [Instr.entryStore, MapKept.run_getObj_map hb, asInt, asIntOf, goInt, hidx, hmod, MapKept.run_setObj_map _ hb, Result.andThen, setBlock, mapO]
end
section
variable {P : Program} {ops : Array Oper} {rest : List Oper} {o : Oper} {a : Act} {w w0 : World} {Q : Exit → Act → World → Prop} {E : List Nat} {L L' : List Item} {t k e : TypeId}
theorem grown_setBlock {es : Array MapEntry} {c : Nat} {b : Nat} (hb : w.heap[b]? = some (.map es c)) (o' : Obj) : w.grownBy (setBlock w b o') (some b) :=
  ⟨rfl, rfl, rfl, by simp [setBlock], fun i _ hi => heap_setBlock_other hb o' (fun e => hi (by rw [e]))⟩
theorem Mem.setMap (M : Mem w0 E w L) {es : Array MapEntry} {c : Nat} {b : Nat} {o' : Obj} (hs : Swap (.blk b (.map es c)) (.blk b o') L L') : Mem w0 E (setBlock w b o') L' :=
  M.swap hs (grown_setBlock (M.holds _ hs.mem) o') (.inr rfl) (heap_setBlock_same (M.holds _ hs.mem) o') (fun b hb => .inl hb)
theorem wpList_lkNo (m : Nat) (hm : o.dst = some m) (ht : P.underlying t = some (.map k e)) (hk : P.underlying k = some .string) (he : ∀ u : World, (zeroValue e).run P u = .ok (.int .i64 0) u) (hgd : o.guard = none) {x y : Operand} (ho : o.op = .lookup t x y true) {b : Nat} (hx : a.eval x = .map (some b)) {s : ByteArray} (hy : a.eval y = .string s)
    {ks : List ByteArray} (hs : ∀ s ∈ ks, s.size ≤ maxLen) (h0 : s.size ≤ maxLen) (hno : s ∉ ks) (hb : w.heap[b]? = some (mapO ks)) (h : wpList P ops Q rest (a.put (some m) (.tuple #[.int .i64 0, .bool false])) w) : wpList P ops Q (o :: rest) a w :=
  wpList_plain hgd fun K hK => by
    unfold Oper.wp execOp
    simp only [ho, hx, hy, Sem.run_bind, Sem.run_pure, Result.andThen_ok, run_lookup_no ht hk he hs h0 hno hb]
    refine hK _ _ ?_
    rw [hm]
    exact h
theorem wpList_lkYes (m : Nat) (hm : o.dst = some m) (i : Nat) (ht : P.underlying t = some (.map k e)) (hk : P.underlying k = some .string) (hgd : o.guard = none) {x y : Operand} (ho : o.op = .lookup t x y true) {b : Nat} (hx : a.eval x = .map (some b)) {s : ByteArray} (hy : a.eval y = .string s)
    {ks : List ByteArray} (hs : ∀ s ∈ ks, s.size ≤ maxLen) (hn : ks.Nodup) (hi : ks[i]? = some s) (hb : w.heap[b]? = some (mapO ks)) (h : wpList P ops Q rest (a.put (some m) (.tuple #[.int .i64 (i : Int), .bool true])) w) : wpList P ops Q (o :: rest) a w :=
  wpList_plain hgd fun K hK => by
    unfold Oper.wp execOp
    simp only [ho, hx, hy, Sem.run_bind, Sem.run_pure, Result.andThen_ok, run_lookup_yes ht hk hs hn hi hb]
    refine hK _ _ ?_
    rw [hm]
    exact h
theorem wpList_entry (m : Nat) (hm : o.dst = some m) (ht : P.underlying t = some (.map k e)) (hk : P.underlying k = some .string) (he : ∀ u : World, (zeroValue e).run P u = .ok (.int .i64 0) u) (hgd : o.guard = none) {x y : Operand} (ho : o.op = .mapEntry t x y) {b : Nat} (hx : a.eval x = .map (some b)) {s : ByteArray} (hy : a.eval y = .string s)
    {ks : List ByteArray} (hs : ∀ s ∈ ks, s.size ≤ maxLen) (h0 : s.size ≤ maxLen) (hno : s ∉ ks) (M : Mem w0 E w L) (hsw : Swap (.blk b (mapO ks)) (.blk b (mapO1 ks s)) L L')
    (h : ∀ w', Mem w0 E w' L' → wpList P ops Q rest (a.put (some m) (.tuple #[.int .i64 0, goInt ks.length])) w') : wpList P ops Q (o :: rest) a w :=
  wpList_plain hgd fun K hK => by
    unfold Oper.wp execOp
    simp only [ho, hx, hy, Sem.run_bind, Sem.run_pure, Result.andThen_ok, run_entry ht hk he hs h0 hno (M.holds _ hsw.mem)]
    refine hK _ _ ?_
    rw [hm]
    exact h _ (M.setMap hsw)
theorem wpList_estore (hgd : o.guard = none) {x y z : Operand} (ho : o.op = .entryStore t x y z) {b : Nat} (hx : a.eval x = .map (some b)) {ks : List ByteArray} {s : ByteArray} {n : Nat} (hn : ks.length = n) (hy : a.eval y = .int .i64 (n : Int)) (hz : a.eval z = .int .i64 (n : Int))
    (M : Mem w0 E w L) (hsw : Swap (.blk b (mapO1 ks s)) (.blk b (mapO (ks ++ [s]))) L L')
    (h : ∀ w', Mem w0 E w' L' → wpList P ops Q rest (a.put o.dst undef) w') : wpList P ops Q (o :: rest) a w :=
  wpList_plain hgd fun K hK => by
    subst hn
    rw [show (Value.int .i64 (ks.length : Int)) = goInt ks.length from rfl] at hy
    unfold Oper.wp execOp
    simp only [ho, hx, hy, hz, Sem.run_bind, Sem.run_pure, Result.andThen_ok, run_estore (M.holds _ hsw.mem)]
    exact hK _ _ (h _ (M.setMap hsw))
end
end Go.Proofs.Ytcapfnbmmdbcoaa
