/- More laws on memory as a list of items. -/
import Derived.Test.YtcapfnbmmdbcoaaM
set_option linter.unusedVariables false
set_option linter.unusedSimpArgs false
namespace Go.Proofs.Ytcapfnbmmdbcoaa
open Go.RowKit
section
variable {P : Program} {ops : Array Oper} {rest : List Oper} {o : Oper} {a : Act} {w w0 : World} {Q : Exit → Act → World → Prop} {E : List Nat} {L L' : List Item}
theorem rd_cut (xs : List Int) (i n j : Nat) (h : j < n) : rd ((xs.drop i).take n) j = rd xs (i + j) := by
  simp [rd, List.getD_eq_getElem?_getD, h]
/-- A part of a row is read (an array in an array). -/
theorem wpList_ldmidN {ty : TypeId} {d : TypeDesc} {n : Nat} (hu : P.underlying ty = some d) (hsz : (P.info? ty).map (·.size) = some n) (hgd : o.guard = none) {x : Operand} (ho : o.op = .load ty x) (hd : d.isRow = true) {g off : Nat}
    (hx : a.eval x = .pointer (some ⟨g, off, none⟩)) (M : Mem w0 E w L) {k : IntKind} {t : TypeId} {xs : List Int} (hin : .blk g (rowO k t xs) ∈ L) (hl : off + n ≤ xs.length)
    (h : wpList P ops Q rest (a.put o.dst (.agg (nums k ((xs.drop off).take n)).toArray)) w) : wpList P ops Q (o :: rest) a w :=
  wpList_load_mid hgd ty x ho g off hx (nums k ((xs.drop off).take n)) d (fun j v hv => by
    have hj : j < ((xs.drop off).take n).length := by
      have := (List.getElem?_eq_some_iff.1 hv).1
      rwa [nums_length] at this
    rw [nums_get k _ j hj] at hv
    have hj2 : j < n := by simp at hj; omega
    rw [M.cellN hin (i := off + j) (by omega), ← hv, rd_cut _ _ _ _ hj2]) hu hd (by rw [hsz, nums_length]; simp; omega) h
/-- The slice that a literal makes. -/
theorem run_buildSlice {t e : TypeId} {n : Nat} {parts : Array (Nat × Value)} {cells : Array Value} {z : Value} (ht : P.underlying t = some (.slice e)) (hi : (P.info? e).map (fun i => (i.zero, i.size)) = some (some z, 1)) (hn : n ≤ 1000)
    (hf : Instr.fill (fun i => some (i * 1, 1)) ((Array.range (n * 1)).map (z.cells[· % z.cells.size]!)) parts.toList = some cells) (w : World) :
    (Instr.buildSlice t n parts).run P w = .ok (.slice (some ⟨w.heap.size, 0, none⟩) n n) (w.alloc (.cells cells e)) := by
  obtain ⟨i, hii, hp⟩ := Option.map_eq_some_iff.1 hi
  simp only [Prod.mk.injEq] at hp
  obtain ⟨hz, hs⟩ := hp
  have h1 : ¬ (2 ^ 24 < n * 1) := by omega
  have hr : (newRow e cells).run P w = .ok ⟨w.heap.size, 0, none⟩ (w.alloc (.cells cells e)) := by simp [newRow, newObj, Sem.run]
  by_cases h0 : n = 0
  · subst h0
    have e0 : Array.range 0 = #[] := rfl
    have hf' : Instr.fill (fun i => some (i, 1)) #[] parts.toList = some cells := by simpa [e0] using hf
    simp [Instr.buildSlice, run_underlying ht, sizeOf, typeInfo, hii, hs, e0, hf', hr]
  · have hf' : Instr.fill (fun i => some (i, 1)) ((Array.range n).map (z.cells[· % z.cells.size]!)) parts.toList = some cells := by simpa using hf
    simp only [Nat.mul_one] at h1
    simp [Instr.buildSlice, run_underlying ht, sizeOf, typeInfo, zeroValue, hii, hs, hz, h0, hf', hr]
    omega
theorem wpList_bsN {t e : TypeId} {z : Value} (ht : P.underlying t = some (.slice e)) (hi : (P.info? e).map (fun i => (i.zero, i.size)) = some (some z, 1)) (m : Nat) (hm : o.dst = some m) (hgd : o.guard = none) {n : Nat} {parts : Array (Nat × Operand)} (ho : o.op = .buildSlice t n parts) (hn : n ≤ 1000)
    {cs : List Value} (hf : Instr.fill (fun i => some (i * 1, 1)) ((Array.range (n * 1)).map (z.cells[· % z.cells.size]!)) (parts.toList.map fun (i, x) => (i, a.eval x)) = some cs.toArray) (M : Mem w0 E w L)
    (h : ∀ b w', Mem w0 E w' (.blk b (cellsO e cs) :: L) → wpList P ops Q rest (a.put (some m) (.slice (some ⟨b, 0, none⟩) n n)) w') : wpList P ops Q (o :: rest) a w :=
  wpList_plain hgd fun K hK => by
    have hr := run_buildSlice (P := P) (parts := parts.map fun (i, x) => (i, a.eval x)) (cells := cs.toArray) ht hi hn (by simpa using hf) w
    unfold Oper.wp execOp
    simp only [ho, Sem.run_bind, Sem.run_pure, Result.andThen_ok, hr]
    rw [← hm] at h
    exact hK _ _ (h _ _ (M.alloc _))
/-- The nil slice owns nothing. -/
theorem Mem.nil (M : Mem w0 E w L) (e : TypeId) (size : Nat) : Mem w0 E w (.vec none 0 0 e size [] :: L) :=
  M.push (grownBy_refl w none) (World.ownsRow_nil w 0 e size) (by simp [Item.block, Value.ownBlock])
theorem own_form {base : Nat} {e : TypeId} {size n : Nat} {v : Value} {xs : List Value} (h : w.ownsRow base e size v n xs) : ∃ A c, v = .slice A n c := by
  rcases h.2 with ⟨rfl, rfl⟩ | ⟨g, cap, cur, rfl, _⟩
  · exact ⟨none, 0, rfl⟩
  · exact ⟨_, cap, rfl⟩
/-- append(v, ys...), v the call's own, ys a row. -/
theorem wpList_app {t e : TypeId} {z : Value} {size bytes : Nat} (ht : P.underlying t = some (.slice e)) (hi : (P.info? e).map (fun i => (i.zero, i.size, i.bytes)) = some (some z, size, bytes)) (hz : z.cells.size = size) (hs0 : 0 < size) (hgd : o.guard = none) {s x : Operand}
    (ho : o.op = .call { callee := .builtin .append, args := #[s, x], argTypes := #[t, t] }) {A : Option Addr} {n cap m c : Nat} (hs : a.eval s = .slice A n cap) {g : Nat} (hx : a.eval x = .slice (some ⟨g, 0, none⟩) m c)
    (M : Mem w0 E w L) {cs ds : List Value} {L' : Option Addr → Nat → List Item} (hsw : ∀ A' cap', Swap (.vec A n cap e size cs) (.vec A' (n + m) cap' e size (cs ++ ds)) L (L' A' cap')) (hin : .blk g (cellsO e ds) ∈ L) (hl : ds.length = m * size) (h1 : ∀ v ∈ ds, v.oneCell' = true)
    (hb : (n + m) * bytes ≤ 140737488355328) (hb2 : n + m ≤ 140737488355328)
    (h : ∀ A' cap' w', Mem w0 E w' (L' A' cap') → wpList P ops Q rest (a.put o.dst (.slice A' (n + m) cap')) w') : wpList P ops Q (o :: rest) a w := by
  obtain ⟨i, hii, hp⟩ := Option.map_eq_some_iff.1 hi
  simp only [Prod.mk.injEq] at hp
  obtain ⟨hz', hs', hby⟩ := hp
  have hown : w.ownsRow 0 e size (.slice A n cap) n cs := M.holds _ (hsw none 0).mem
  have hcells : ∀ j u, ds[j]? = some u → w.cell? ((⟨g, 0, none⟩ : Addr).add j) = some u := fun j u hu => by
    have e1 : (⟨g, 0, none⟩ : Addr).add j = ⟨g, j, none⟩ := by rw [Addr.add_lit, Nat.zero_add]
    rw [e1]
    exact M.cell hin hu
  obtain ⟨v', w', hr, hown', hg, hnil, hat⟩ := run_append_own_at (P := P) w 0 t o.type e i z size bytes ht hii hz' hs' hby hz hs0 (.slice A n cap) n cs hown ⟨g, 0, none⟩ m c ds hl hcells h1 (by simp only [maxLen]; omega) hb (Nat.zero_le _)
  obtain ⟨A', cap', rfl⟩ := own_form hown'
  refine wpList_plain hgd fun K hK => ?_
  unfold Oper.wp execOp
  simp only [ho, resolve, invoke, builtin, Sem.run_bind, Sem.run_pure, Result.andThen_ok, List.map_toArray, List.map_cons, List.map_nil, hs, hx, hr]
  refine hK _ _ (h A' cap' w' (M.swap (hsw A' cap') hg (.inr rfl) hown' (fun b hb' => ?_)))
  rcases hat with hat | hat
  · left; rw [Item.block, ← hat]; exact hb'
  · right
    have : some b = some w.heap.size := by rw [← hat]; exact hb'.symm
    simp only [Option.some.injEq] at this
    omega
theorem wpList_appN {t e : TypeId} {k : IntKind} {bytes : Nat} (ht : P.underlying t = some (.slice e)) (hi : (P.info? e).map (fun i => (i.zero, i.size, i.bytes)) = some (some (.int k 0), 1, bytes)) (hgd : o.guard = none) {s x : Operand}
    (ho : o.op = .call { callee := .builtin .append, args := #[s, x], argTypes := #[t, t] }) {A : Option Addr} {n cap m c : Nat} (hs : a.eval s = .slice A n cap) {g : Nat} (hx : a.eval x = .slice (some ⟨g, 0, none⟩) m c)
    (M : Mem w0 E w L) {xs ys : List Int} {L' : Option Addr → Nat → List Item} (hsw : ∀ A' cap', Swap (.vec A n cap e 1 (nums k xs)) (.vec A' (n + m) cap' e 1 (nums k (xs ++ ys))) L (L' A' cap')) (hin : .blk g (cellsO e (nums k ys)) ∈ L) (hl : ys.length = m)
    (hb : (n + m) * bytes ≤ 140737488355328) (hb2 : n + m ≤ 140737488355328)
    (h : ∀ A' cap' w', Mem w0 E w' (L' A' cap') → wpList P ops Q rest (a.put o.dst (.slice A' (n + m) cap')) w') : wpList P ops Q (o :: rest) a w :=
  wpList_app ht hi rfl (by decide) hgd ho hs hx M (fun A' cap' => by rw [← nums_append]; exact hsw A' cap') hin (by rw [nums_length]; omega) (nums_one k ys) hb hb2 h
/-- append(v, y), v the call's own: the goal's world is that of the variadic's box. -/
theorem wpList_app1 {t e : TypeId} {k : IntKind} {bytes : Nat} (ht : P.underlying t = some (.slice e)) (hi : (P.info? e).map (fun i => (i.zero, i.size, i.bytes)) = some (some (.int k 0), 1, bytes)) (hgd : o.guard = none) {s x : Operand}
    (ho : o.op = .call { callee := .builtin .append, args := #[s, x], argTypes := #[t, t] }) {A : Option Addr} {n cap : Nat} (hs : a.eval s = .slice A n cap) (hx : a.eval x = .slice (some ⟨w.heap.size, 0, none⟩) 1 1)
    (M : Mem w0 E w L) {xs : List Int} {y : Int} {L' : Option Addr → Nat → List Item} (hsw : ∀ A' cap', Swap (.vec A n cap e 1 (nums k xs)) (.vec A' (n + 1) cap' e 1 (nums k (xs ++ [y]))) L (L' A' cap'))
    (hb : (n + 1) * bytes ≤ 140737488355328) (hb2 : n + 1 ≤ 140737488355328)
    (h : ∀ A' cap' w', Mem w0 E w' (L' A' cap') → wpList P ops Q rest (a.put o.dst (.slice A' (n + 1) cap')) w') : wpList P ops Q (o :: rest) a (w.alloc (.cells #[.int k y] e)) :=
  wpList_appN (ys := [y]) (L' := fun A' cap' => .blk w.heap.size (.cells #[.int k y] e) :: L' A' cap') ht hi hgd ho hs hx (M.alloc (.cells #[.int k y] e)) (fun A' cap' => Swap.tail (hsw A' cap')) List.mem_cons_self rfl hb hb2 (fun A' cap' w' M' => h A' cap' w' M'.tail)
theorem wpList_app4 {t e : TypeId} {k : IntKind} {bytes : Nat} (ht : P.underlying t = some (.slice e)) (hi : (P.info? e).map (fun i => (i.zero, i.size, i.bytes)) = some (some (.int k 0), 1, bytes)) (hgd : o.guard = none) {s x : Operand}
    (ho : o.op = .call { callee := .builtin .append, args := #[s, x], argTypes := #[t, t] }) {A : Option Addr} {n cap : Nat} (hs : a.eval s = .slice A n cap) (hx : a.eval x = .slice (some ⟨w.heap.size, 0, none⟩) 4 4)
    (M : Mem w0 E w L) {xs : List Int} {y0 y1 y2 y3 : Int} {L' : Option Addr → Nat → List Item} (hsw : ∀ A' cap', Swap (.vec A n cap e 1 (nums k xs)) (.vec A' (n + 4) cap' e 1 (nums k (xs ++ [y0, y1, y2, y3]))) L (L' A' cap'))
    (hb : (n + 4) * bytes ≤ 140737488355328) (hb2 : n + 4 ≤ 140737488355328)
    (h : ∀ A' cap' w', Mem w0 E w' (L' A' cap') → wpList P ops Q rest (a.put o.dst (.slice A' (n + 4) cap')) w') : wpList P ops Q (o :: rest) a (w.alloc (.cells #[.int k y0, .int k y1, .int k y2, .int k y3] e)) :=
  wpList_appN (ys := [y0, y1, y2, y3]) (L' := fun A' cap' => .blk w.heap.size (.cells #[.int k y0, .int k y1, .int k y2, .int k y3] e) :: L' A' cap') ht hi hgd ho hs hx (M.alloc (.cells #[.int k y0, .int k y1, .int k y2, .int k y3] e)) (fun A' cap' => Swap.tail (hsw A' cap')) List.mem_cons_self rfl hb hb2 (fun A' cap' w' M' => h A' cap' w' M'.tail)
/-- string(v), v bytes of the call's own. -/
theorem Mem.vcell (M : Mem w0 E w L) {A : Option Addr} {n cap size : Nat} {e : TypeId} {cs : List Value} (hin : .vec A n cap e size cs ∈ L) : cs.length = n * size ∧ ∀ ad, A = some ad → ∀ j v, cs[j]? = some v → w.cell? (ad.add j) = some v := by
  have h : w.ownsRow 0 e size (.slice A n cap) n cs := M.holds _ hin
  refine ⟨h.1, fun ad hA j v hv => ?_⟩
  subst hA
  have hat := h.2
  rcases hat with ⟨h', _⟩ | ⟨g, cap', cur, h', _, _⟩
  · cases h'
  · have e1 : ad = ⟨g, 0, none⟩ := by injection h' with h'; injection h' with h'
    subst e1
    exact h.cells (g := g) rfl j v hv
theorem wpList_cvV {src dst e : TypeId} (hs : P.underlying src = some (.slice e)) (he : P.underlying e = some (.int .u8)) (hd : P.underlying dst = some .string) (hgd : o.guard = none) {x : Operand} (ho : o.op = .convert src dst x)
    {A : Option Addr} {n cap : Nat} (hx : a.eval x = .slice A n cap) (M : Mem w0 E w L) {t : TypeId} {xs : List Int} (hin : .vec A n cap t 1 (nums .u8 xs) ∈ L)
    (h : wpList P ops Q rest (a.put o.dst (.string (strOfNums xs))) w) : wpList P ops Q (o :: rest) a w := by
  have hv := M.vcell hin
  have hl : xs.length = n := by have := hv.1; rw [nums_length] at this; omega
  have hr : (convert src dst (.slice A n cap)).run P w = .ok (.string (strOfNums xs)) w := by
    have hown : w.ownsRow 0 t 1 (.slice A n cap) n (nums .u8 xs) := M.holds _ hin
    rcases hown.2 with ⟨h', hn⟩ | ⟨g, cap', cur, h', _, _⟩
    · injection h' with hA hn' hc'
      subst hA hn' hc'
      obtain rfl : xs = [] := List.eq_nil_of_length_eq_zero hl
      exact run_convert_bytes_nil w src e hs he 0 0 dst hd
    · injection h' with hA hn' hc'
      subst hA
      refine run_convert_bytes_arg w src e hs he g 0 n cap xs hl (fun i hi => ?_) dst hd
      have := hv.2 ⟨g, 0, none⟩ rfl i (.int .u8 (rd xs i)) (nums_get .u8 xs i (by omega))
      rw [Addr.add_lit] at this
      exact this
  refine wpList_plain hgd fun K hK => ?_
  unfold Oper.wp execOp
  simp only [ho, hx, Sem.run_bind, Sem.run_pure, Result.andThen_ok, hr]
  exact hK _ _ h
end
end Go.Proofs.Ytcapfnbmmdbcoaa
