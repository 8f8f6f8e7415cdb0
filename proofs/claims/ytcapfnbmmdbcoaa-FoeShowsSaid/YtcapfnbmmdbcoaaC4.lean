/- Terms: shapes differ; a table in memory; a slice of keys is made, and copied. -/
import Derived.Test.YtcapfnbmmdbcoaaC3
import Derived.Great.FillDense
import Derived.Lib.SliceRun
set_option linter.unusedVariables false
set_option linter.unusedSimpArgs false
namespace Go.Proofs.Ytcapfnbmmdbcoaa
open Go.RowKit
/-! ### 1. Terms -/
structure Tm where
  kind : Int
  text : ByteArray
  keys : List (List Int)
  deriving DecidableEq
structure TmOk (t : Tm) : Prop where
  k0 : 0 ≤ t.kind
  k1 : t.kind < 256
  tx : t.text.size ≤ 1000
  kl : t.keys.length ≤ 1000
  ks : ∀ k ∈ t.keys, KeyOk k
def shapeS (t : Tm) : ByteArray := strOfNums (shapeL t.kind t.text t.keys)
theorem fourL_byte (n : Int) : ∀ x ∈ fourL n, isByte x := by
  intro x hx
  simp only [fourL, List.mem_cons, List.not_mem_nil, or_false] at hx
  rcases hx with rfl | rfl | rfl | rfl <;> exact ⟨by omega, by omega⟩
theorem nameL_byte (n : Int) : ∀ x ∈ nameL n, isByte x := by
  intro x hx
  simp only [nameL, List.mem_append] at hx
  rcases hx with (hx | hx) | hx
  · simp only [List.mem_cons, List.not_mem_nil, or_false] at hx
    rcases hx with rfl | rfl | rfl | rfl <;> exact ⟨by omega, by omega⟩
  · exact fourL_byte n x hx
  · rw [List.mem_replicate] at hx
    obtain ⟨_, rfl⟩ := hx
    exact ⟨by omega, by omega⟩
theorem nameL_ok (n : Int) : KeyOk (nameL n) := ⟨nameL_length n, nameL_byte n⟩
theorem shapeL_byte {t : Tm} (h : TmOk t) : ∀ x ∈ shapeL t.kind t.text t.keys, isByte x := by
  intro x hx
  simp only [shapeL, List.mem_append, List.mem_flatten] at hx
  rcases hx with ((hx | hx) | hx) | ⟨k, hk, hx⟩
  · rw [List.mem_singleton] at hx
    subst hx
    exact ⟨h.k0, h.k1⟩
  · exact fourL_byte _ x hx
  · exact bytesOf_all _ x hx
  · exact (h.ks k hk).2 x hx
theorem shapeS_size (t : Tm) (h : TmOk t) : (shapeS t).size ≤ maxLen := by
  have h1 := flat_len h.ks
  have h2 := h.tx
  have h3 := h.kl
  rw [shapeS, strOfNums_size, shapeL]
  simp only [List.length_append, bytesOf_length, h1, fourL, List.length_cons, List.length_nil, maxLen]
  omega
theorem flat_inj : ∀ {ks qs : List (List Int)}, (∀ k ∈ ks, KeyOk k) → (∀ k ∈ qs, KeyOk k) → ks.flatten = qs.flatten → ks = qs
  | [], [], _, _, _ => rfl
  | [], q :: qs, _, hq, h => by
    have h1 := (hq q (by simp)).1
    have := congrArg List.length h
    rw [List.flatten_cons, List.length_append] at this
    simp only [List.flatten_nil, List.length_nil] at this
    omega
  | k :: ks, [], hk, _, h => by
    have h1 := (hk k (by simp)).1
    have := congrArg List.length h
    rw [List.flatten_cons, List.length_append] at this
    simp only [List.flatten_nil, List.length_nil] at this
    omega
  | k :: ks, q :: qs, hk, hq, h => by
    rw [List.flatten_cons, List.flatten_cons] at h
    obtain ⟨h1, h2⟩ := List.append_inj h (by rw [(hk k (by simp)).1, (hq q (by simp)).1])
    rw [h1, flat_inj (fun k h => hk k (by simp [h])) (fun k h => hq k (by simp [h])) h2]
theorem fourL_inj {m n : Int} (h0 : 0 ≤ m) (h1 : m < 4294967296) (h2 : 0 ≤ n) (h3 : n < 4294967296) (h : fourL m = fourL n) : m = n := by
  simp only [fourL, List.cons.injEq, and_true] at h
  omega
theorem shapeS_inj {t u : Tm} (ht : TmOk t) (hu : TmOk u) (h : shapeS t = shapeS u) : t = u := by
  have h1 := str_inj _ _ (shapeL_byte ht) (shapeL_byte hu) h
  unfold shapeL at h1
  rw [List.append_assoc, List.append_assoc, List.append_assoc, List.append_assoc] at h1
  obtain ⟨h2, h3⟩ := List.append_inj h1 rfl
  obtain ⟨h4, h5⟩ := List.append_inj h3 rfl
  have h6 := fourL_inj (by omega) (by have := ht.tx; omega) (by omega) (by have := hu.tx; omega) h4
  obtain ⟨h7, h8⟩ := List.append_inj h5 (by rw [bytesOf_length, bytesOf_length]; omega)
  have h9 := flat_inj ht.ks hu.ks h8
  have h10 : t.text = u.text := by rw [← str_bytesOf t.text, h7, str_bytesOf]
  simp only [List.cons.injEq, and_true] at h2
  cases t
  cases u
  simp_all
/-! ### 2. A table in memory -/
def blkA (A : Option Addr) : List Nat := (A.map (·.block)).toList
structure TabP (K : Nat → Prop) (w : World) (g mb : Nat) (A : Option Addr) (c : Nat) (ts : List Tm) : Prop where
  hg : w.heap[g]? = some (cellsO 88 [.slice A ts.length c, .map (some mb)])
  hm : w.heap[mb]? = some (mapO (ts.map shapeS))
  row : ∃ cs, w.ownsRow 0 95 3 (.slice A ts.length c) ts.length cs ∧ ∀ (i : Nat) (t : Tm), ts[i]? = some t → ∃ B d, cs[3 * i]? = some (.int .i64 t.kind) ∧ cs[3 * i + 1]? = some (.string t.text) ∧ cs[3 * i + 2]? = some (.slice B t.keys.length d) ∧ t.keys.length ≤ d ∧ (B = none → d = 0) ∧ RowT w 26 B (nums .u8 t.keys.flatten) ∧ (t.keys ≠ [] → ∀ ad, B = some ad → K ad.block)
  ok : ∀ t ∈ ts, TmOk t
  nd : ts.Nodup
  few : ts.length ≤ 1000000
  kg : K g
  km : K mb
  kA : ∀ b ∈ blkA A, K b
/-- What else is in memory stays: but for the table's own blocks and new ones. -/
def TabE (g mb : Nat) (A : Option Addr) : List Nat := g :: mb :: blkA A
theorem TabP.typeA {K : Nat → Prop} {w : World} {g mb c : Nat} {A : Option Addr} {ts : List Tm} (h : TabP K w g mb A c ts) : ∀ ad, A = some ad → ∃ arr m, w.heap[ad.block]? = some (.cells arr 95 m) := fun ad hA => by
  obtain ⟨cs, ho, _⟩ := h.row
  rcases ho.2 with ⟨h', _⟩ | ⟨b, cap, cur, h', _, hb, _⟩
  · injection h' with h1 _ _
    rw [hA] at h1
    cases h1
  · injection h' with h1 _ _
    rw [hA] at h1
    injection h1 with h1
    subst h1
    exact ⟨_, _, hb⟩
/-- Keys in memory stay when the table is written. -/
theorem RowT.tab {K : Nat → Prop} {w w' : World} {g mb c : Nat} {A B : Option Addr} {ts : List Tm} {cs : List Value} {L : List Item} (h : RowT w 26 B cs) (T : TabP K w g mb A c ts) (M : Mem w (TabE g mb A) w' L) : RowT w' 26 B cs :=
  h.same fun b off arr m hB hh => M.old b (Array.getElem?_eq_some_iff.1 hh).1 (fun hb => by
    simp only [TabE, blkA, List.mem_cons, Option.mem_toList, Option.map_eq_some_iff] at hb
    rcases hb with rfl | rfl | ⟨ad, hA, rfl⟩
    · rw [T.hg] at hh
      injection hh with hh
      injection hh with _ hh _
      exact absurd hh (by decide)
    · rw [T.hm] at hh
      injection hh with hh
      cases hh
    · obtain ⟨arr', m', h'⟩ := T.typeA ad hA
      rw [h'] at hh
      injection hh with hh
      injection hh with _ hh _
      exact absurd hh (by decide))
/-- The table stays where its blocks stay. -/
theorem TabP.keep {K : Nat → Prop} {w w' : World} {g mb c : Nat} {A : Option Addr} {ts : List Tm} (h : TabP K w g mb A c ts) (hk : ∀ b, K b → b < w.heap.size → w'.heap[b]? = w.heap[b]?) : TabP K w' g mb A c ts := by
  obtain ⟨h1, h2, ⟨cs, h3, h4⟩, h5, h6, h7, k1, k2, k3⟩ := h
  refine ⟨by rw [hk g k1 (Array.getElem?_eq_some_iff.1 h1).1, h1], by rw [hk mb k2 (Array.getElem?_eq_some_iff.1 h2).1, h2], ⟨cs, ?_, fun i t hi => ?_⟩, h5, h6, h7, k1, k2, k3⟩
  · rcases h3.2 with ⟨h', hn⟩ | ⟨b, cap, cur, h', a1, a2, a3⟩
    · exact ⟨h3.1, .inl ⟨h', hn⟩⟩
    · refine ⟨h3.1, .inr ⟨b, cap, cur, h', a1, ?_, a3⟩⟩
      rw [hk b (k3 b (by injection h' with e1 _ _; rw [e1]; simp [blkA])) (Array.getElem?_eq_some_iff.1 a2).1, a2]
  · obtain ⟨B, d, a1, a2, a3, a4, a5, a6, a7⟩ := h4 i t hi
    refine ⟨B, d, a1, a2, a3, a4, a5, ?_, a7⟩
    by_cases hn : t.keys = []
    · rw [hn]; exact RowT.nil
    · exact a6.same fun b off arr m hB hh => hk b (a7 hn _ hB) (Array.getElem?_eq_some_iff.1 hh).1
theorem TabP.below {K : Nat → Prop} {w w' : World} {g mb c : Nat} {A : Option Addr} {ts : List Tm} (h : TabP K w g mb A c ts) (hb : Below w.heap.size w w') : TabP K w' g mb A c ts :=
  h.keep fun b _ hb' => hb.block b hb'
theorem TabP.mono {K K' : Nat → Prop} {w : World} {g mb c : Nat} {A : Option Addr} {ts : List Tm} (h : TabP K w g mb A c ts) (hk : ∀ b, K b → K' b) : TabP K' w g mb A c ts := by
  obtain ⟨h1, h2, ⟨cs, h3, h4⟩, h5, h6, h7, k1, k2, k3⟩ := h
  refine ⟨h1, h2, ⟨cs, h3, fun i t hi => ?_⟩, h5, h6, h7, hk _ k1, hk _ k2, fun b hb => hk _ (k3 b hb)⟩
  obtain ⟨B, d, a1, a2, a3, a4, a5, a6, a7⟩ := h4 i t hi
  exact ⟨B, d, a1, a2, a3, a4, a5, a6, fun hn ad hB => hk _ (a7 hn ad hB)⟩
/-- All blocks of the table are there. -/
theorem TabP.lt {K : Nat → Prop} {w : World} {g mb c : Nat} {A : Option Addr} {ts : List Tm} (h : TabP K w g mb A c ts) : TabP (fun b => K b ∧ b < w.heap.size) w g mb A c ts := by
  have hA := h.typeA
  obtain ⟨h1, h2, ⟨cs, h3, h4⟩, h5, h6, h7, k1, k2, k3⟩ := h
  refine ⟨h1, h2, ⟨cs, h3, fun i t hi => ?_⟩, h5, h6, h7, ⟨k1, (Array.getElem?_eq_some_iff.1 h1).1⟩, ⟨k2, (Array.getElem?_eq_some_iff.1 h2).1⟩, fun b hb => ⟨k3 b hb, ?_⟩⟩
  · obtain ⟨B, d, a1, a2, a3, a4, a5, a6, a7⟩ := h4 i t hi
    refine ⟨B, d, a1, a2, a3, a4, a5, a6, fun hn ad hB => ⟨a7 hn ad hB, ?_⟩⟩
    have hl := flat_len (h5 t (List.mem_of_getElem? hi)).ks
    have hp : 0 < t.keys.length := List.length_pos_iff.2 hn
    have h0 : 0 < (nums .u8 t.keys.flatten).length := by rw [nums_length]; omega
    obtain ⟨b, off, arr, m, hB', hh, _⟩ := a6 0 _ (List.getElem?_eq_getElem h0)
    rw [hB'] at hB
    injection hB with hB
    subst hB
    exact (Array.getElem?_eq_some_iff.1 hh).1
  · simp only [blkA, Option.mem_toList, Option.map_eq_some_iff] at hb
    obtain ⟨ad, hA', rfl⟩ := hb
    obtain ⟨arr, m, hh⟩ := hA ad hA'
    exact (Array.getElem?_eq_some_iff.1 hh).1
theorem TabP.E_lt {K : Nat → Prop} {w : World} {g mb c : Nat} {A : Option Addr} {ts : List Tm} (h : TabP K w g mb A c ts) : ∀ b ∈ TabE g mb A, K b ∧ b < w.heap.size := fun b hb => by
  have h' := h.lt
  simp only [TabE, List.mem_cons] at hb
  rcases hb with rfl | rfl | hb
  · exact h'.kg
  · exact h'.km
  · exact h'.kA b hb
/-! ### 3. Slices of keys -/
section
variable {P : Program} {ops : Array Oper} {rest : List Oper} {o : Oper} {a : Act} {w w0 : World} {Q : Exit → Act → World → Prop} {E : List Nat} {L L' : List Item}
theorem run_buildSliceG {t e : TypeId} {n size : Nat} {parts : Array (Nat × Value)} {cells : Array Value} {z : Value} (ht : P.underlying t = some (.slice e)) (hi : (P.info? e).map (fun i => (i.zero, i.size)) = some (some z, size)) (hs0 : 0 < size) (hn : n * size ≤ 16777216)
    (hf : Instr.fill (fun i => some (i * size, size)) ((Array.range (n * size)).map ((if n * size = 0 then #[] else z.cells)[· % (if n * size = 0 then #[] else z.cells).size]!)) parts.toList = some cells) (w : World) :
    (Instr.buildSlice t n parts).run P w = .ok (.slice (some ⟨w.heap.size, 0, none⟩) n n) (w.alloc (.cells cells e)) := by
  obtain ⟨i, hii, hp⟩ := Option.map_eq_some_iff.1 hi
  simp only [Prod.mk.injEq] at hp
  obtain ⟨hz, hs⟩ := hp
  have hr : (newRow e cells).run P w = .ok ⟨w.heap.size, 0, none⟩ (w.alloc (.cells cells e)) := by simp [newRow, newObj, Sem.run]
  by_cases h0 : n * size = 0
  · rw [if_pos h0] at hf
    obtain rfl : n = 0 := (Nat.mul_eq_zero.1 h0).resolve_right (by omega)
    rw [Nat.zero_mul] at hf
    have e0 : Array.range 0 = #[] := rfl
    rw [e0] at hf
    have hf' : Instr.fill (fun i => some (i * size, size)) #[] parts.toList = some cells := by simpa using hf
    simp [Instr.buildSlice, run_underlying ht, sizeOf, typeInfo, hii, hs, e0, hf', hr]
  · rw [if_neg h0] at hf
    have h1 : ¬ (2 ^ 24 < n * size) := by omega
    simp [Instr.buildSlice, run_underlying ht, sizeOf, typeInfo, zeroValue, hii, hs, hz, h0, h1, hf, hr]
/-- A slice of n parts of 'size' cells is made. -/
theorem wpList_bsG {t e : TypeId} {z : Value} {size : Nat} (ht : P.underlying t = some (.slice e)) (hi : (P.info? e).map (fun i => (i.zero, i.size)) = some (some z, size)) (hs0 : 0 < size) (m : Nat) (hm : o.dst = some m) (hgd : o.guard = none) {parts : Array (Nat × Operand)} (vs : List Value) (ho : o.op = .buildSlice t vs.length parts) (hn : vs.length * size ≤ 16777216)
    (hv : (parts.toList.map fun (i, x) => (i, a.eval x)) = (vs.zipIdx 0).map fun x => (x.2, x.1)) (h1 : ∀ v ∈ vs, v.cells.size = size) (M : Mem w0 E w L)
    (h : ∀ b w', Mem w0 E w' (.blk b (cellsO e (vs.flatMap fun v => v.cells.toList)) :: L) → wpList P ops Q rest (a.put (some m) (.slice (some ⟨b, 0, none⟩) vs.length vs.length)) w') : wpList P ops Q (o :: rest) a w :=
  wpList_plain hgd fun K hK => by
    have hf := Great.fill_whole hs0 vs ((Array.range (vs.length * size)).map ((if vs.length * size = 0 then #[] else z.cells)[· % (if vs.length * size = 0 then #[] else z.cells).size]!)) h1 (by simp)
    rw [← hv] at hf
    have hr := run_buildSliceG (P := P) (parts := parts.map fun (i, x) => (i, a.eval x)) ht hi hs0 hn (by simpa using hf) w
    unfold Oper.wp execOp
    simp only [ho, Sem.run_bind, Sem.run_pure, Result.andThen_ok, hr]
    rw [← hm] at h
    exact hK _ _ (h _ _ (M.alloc _))
end
theorem iz26 : (Try.prog.info? 26).map (fun i => (i.zero, i.size)) = some (some (.agg (nums .u8 (List.replicate 32 0)).toArray), 32) := by kernel_rfl
theorem i26' : (Try.prog.info? 26).map (fun i => (i.zero, i.size, i.bytes)) = some (some (.agg (nums .u8 (List.replicate 32 0)).toArray), 32, 32) := by kernel_rfl
theorem iz95 : (Try.prog.info? 95).map (fun i => (i.zero, i.size)) = some (some (.agg #[.int .i64 0, .string ByteArray.empty, .slice none 0 0]), 3) := by kernel_rfl
theorem i95' : (Try.prog.info? 95).map (fun i => (i.zero, i.size, i.bytes)) = some (some (.agg #[.int .i64 0, .string ByteArray.empty, .slice none 0 0]), 3, 48) := by kernel_rfl
section
variable {ops : Array Oper} {rest : List Oper} {o : Oper} {a : Act} {w w0 : World} {Q : Exit → Act → World → Prop} {E : List Nat} {L L' : List Item}
theorem keyCells {k : List Int} (h : KeyOk k) : (Value.agg (nums .u8 k).toArray).cells.size = 32 := by
  show (nums .u8 k).toArray.size = 32
  simp [nums_length, h.1]
/-- []Key{k} -/
theorem wpList_bsK1 (m : Nat) (hm : o.dst = some m) (hgd : o.guard = none) {x : Operand} (ho : o.op = .buildSlice 34 1 #[(0, x)]) {k : List Int} (hx : a.eval x = .agg (nums .u8 k).toArray) (hk : KeyOk k) (M : Mem w0 E w L)
    (h : ∀ b w', Mem w0 E w' (.blk b (rowO .u8 26 [k].flatten) :: L) → wpList Try.prog ops Q rest (a.put (some m) (.slice (some ⟨b, 0, none⟩) 1 1)) w') : wpList Try.prog ops Q (o :: rest) a w :=
  wpList_bsG Try.underlying34 iz26 (by decide) m hm hgd [.agg (nums .u8 k).toArray] ho (by simp) (by simp [hx]) (by simp only [List.mem_singleton]; rintro v rfl; exact keyCells hk) M fun b w' M' => h b w' (by
    rw [show ([Value.agg (nums .u8 k).toArray].flatMap fun v => v.cells.toList) = nums .u8 [k].flatten from by simp [Value.cells]] at M'
    exact M')
/-- []Key{k, l} -/
theorem wpList_bsK2 (m : Nat) (hm : o.dst = some m) (hgd : o.guard = none) {x y : Operand} (ho : o.op = .buildSlice 34 2 #[(0, x), (1, y)]) {k l : List Int} (hx : a.eval x = .agg (nums .u8 k).toArray) (hy : a.eval y = .agg (nums .u8 l).toArray) (hk : KeyOk k) (hl : KeyOk l) (M : Mem w0 E w L)
    (h : ∀ b w', Mem w0 E w' (.blk b (rowO .u8 26 [k, l].flatten) :: L) → wpList Try.prog ops Q rest (a.put (some m) (.slice (some ⟨b, 0, none⟩) 2 2)) w') : wpList Try.prog ops Q (o :: rest) a w :=
  wpList_bsG Try.underlying34 iz26 (by decide) m hm hgd [.agg (nums .u8 k).toArray, .agg (nums .u8 l).toArray] ho (by simp) (by simp [hx, hy]) (by simp only [List.mem_cons, List.not_mem_nil, or_false]; rintro v (rfl | rfl); exact keyCells hk; exact keyCells hl) M fun b w' M' => h b w' (by
    rw [show ([Value.agg (nums .u8 k).toArray, Value.agg (nums .u8 l).toArray].flatMap fun v => v.cells.toList) = nums .u8 [k, l].flatten from by simp [Value.cells, nums]] at M'
    exact M')
/-- []Key{} -/
theorem wpList_bsK0 (m : Nat) (hm : o.dst = some m) (hgd : o.guard = none) (ho : o.op = .buildSlice 34 0 #[]) (M : Mem w0 E w L)
    (h : ∀ b w', Mem w0 E w' (.vec (some ⟨b, 0, none⟩) 0 0 26 32 [] :: L) → wpList Try.prog ops Q rest (a.put (some m) (.slice (some ⟨b, 0, none⟩) 0 0)) w') : wpList Try.prog ops Q (o :: rest) a w :=
  wpList_bsG Try.underlying34 iz26 (by decide) m hm hgd [] ho (by decide) (by simp) (by simp) M fun b w' M' => h b w' (M'.toVec (n := 0) rfl (by decide) Swap.head)
/-- []Term{t} -/
theorem wpList_bsT1 (m : Nat) (hm : o.dst = some m) (hgd : o.guard = none) {x : Operand} (ho : o.op = .buildSlice 45 1 #[(0, x)]) {u v s : Value} (hx : a.eval x = .agg #[u, v, s]) (M : Mem w0 E w L)
    (h : ∀ b w', Mem w0 E w' (.blk b (cellsO 95 [u, v, s]) :: L) → wpList Try.prog ops Q rest (a.put (some m) (.slice (some ⟨b, 0, none⟩) 1 1)) w') : wpList Try.prog ops Q (o :: rest) a w :=
  wpList_bsG Try.underlying45 iz95 (by decide) m hm hgd [.agg #[u, v, s]] ho (by simp) (by simp [hx]) (by simp only [List.mem_singleton]; rintro v rfl; rfl) M fun b w' M' => h b w' (by
    rw [show ([Value.agg #[u, v, s]].flatMap fun v => v.cells.toList) = [u, v, s] from by simp [Value.cells]] at M'
    exact M')
end
/-- A slice of some keys comes back; no old memory is written. -/
def KeysR (ks : List (List Int)) (w : World) (e : Ending) (w' : World) : Prop := ∃ A c, e = .returned (.slice A ks.length c) ∧ ks.length ≤ c ∧ (A = none → c = 0) ∧ RowT w' 26 A (nums .u8 ks.flatten) ∧ Mem w [] w' [.vec A ks.length c 26 32 (nums .u8 ks.flatten)]
theorem RowT.none_nil {w : World} {t : TypeId} {cs : List Value} (h : RowT w t none cs) : cs = [] := by
  cases cs with
  | nil => rfl
  | cons v cs =>
    obtain ⟨b, off, arr, m, hA, _⟩ := h 0 v rfl
    cases hA
theorem Mem.vec_nil {w w0 : World} {E : List Nat} {L : List Item} {A : Option Addr} {n cap size : Nat} {t : TypeId} {cs : List Value} (M : Mem w0 E w L) (hin : .vec A n cap t size cs ∈ L) : A = none → cap = 0 := fun hA => by
  have h : w.ownsRow 0 t size (.slice A n cap) n cs := M.holds _ hin
  rcases h.2 with ⟨h', hn⟩ | ⟨g, cap', cur, h', _⟩
  · injection h' with _ _ h2
  · injection h' with h1 _ _
    rw [hA] at h1
    cases h1
theorem keys_none {w : World} {ks : List (List Int)} (hk : ∀ k ∈ ks, KeyOk k) (h : RowT w 26 none (nums .u8 ks.flatten)) : ks = [] := by
  have h1 := h.none_nil
  have h2 : ks.flatten.length = 0 := by
    have := congrArg List.length h1
    simpa [nums_length] using this
  rw [flat_len hk] at h2
  exact List.eq_nil_of_length_eq_zero (by omega)
set_option maxRecDepth 100000 in
theorem Clone44 (A : Option Addr) (c : Nat) (ks : List (List Int)) (w : World) (hk : ∀ k ∈ ks, KeyOk k) (hr : RowT w 26 A (nums .u8 ks.flatten)) (hn : A = none → c = 0) (hl : ks.length ≤ 1000) :
    Calls Try.prog 44 #[.slice A ks.length c] w (KeysR ks w) := by
  have M0 := Mem.start w
  cases A with
  | none =>
    obtain rfl := hn rfl
    obtain rfl := keys_none hk hr
    clear hn
    show Calls Try.prog 44 #[.slice none 0 0] w (KeysR [] w)
    have heq : ∀ w' : World, (binOp .eql 34 (.slice none 0 0) (.slice none 0 0)).run Try.prog w' = .ok (.bool true) w' := fun w' => Lib.run_eql_slice_nil w' 34 26 none 0 0 0 0 Try.underlying34
    go_enter Try.func44, Try.ntmps44
    go_wp2_with fail
    go_ret
    exact ⟨none, 0, rfl, Nat.le_refl _, fun _ => rfl, RowT.nil, M0.nil 26 32⟩
  | some ad =>
    have HR := hid hr
    have hfl := flat_len hk
    have HK := hid hk
    clear hn hr hk
    have heq : ∀ w' : World, (binOp .eql 34 (.slice (some ad) ks.length c) (.slice none 0 0)).run Try.prog w' = .ok (.bool false) w' := fun w' => Lib.run_eql_slice_nil w' 34 26 (some ad) ks.length c 0 0 Try.underlying34
    go_enter Try.func44, Try.ntmps44
    go_wp2_with (first | (apply wpList_bsK0 5; (· rfl); (· rfl); (· rfl); (· exact M0); intro b5 w1 M1; (conv => arg 5; simp only [Act.put, List.setIfInBounds_toArray, List.set_cons_succ, List.set_cons_zero])) | (refine wpList_appS Try.underlying34 i26' rfl (by decide) rfl rfl rfl rfl M1 (fun A' cap' => Swap.head) (HR.out.mem M1) (by rw [nums_length, hfl]) (nums_one .u8 _) (by omega) (by omega) (fun A' cap' w2 M2 => ?_); (conv => arg 5; simp only [Act.put, List.setIfInBounds_toArray, List.set_cons_succ, List.set_cons_zero])))
    simp only [Nat.zero_add, List.nil_append] at M2 ⊢
    go_wp2_with fail
    go_ret
    exact ⟨A', cap', rfl, M2.vec_cap List.mem_cons_self, M2.vec_nil List.mem_cons_self, M2.vecT List.mem_cons_self, M2⟩
end Go.Proofs.Ytcapfnbmmdbcoaa
