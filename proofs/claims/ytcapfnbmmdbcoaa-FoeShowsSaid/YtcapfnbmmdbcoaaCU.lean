/- Laws of memory for what a call owns (TS); names of terms that are new or old. -/
import Derived.Test.YtcapfnbmmdbcoaaCA
import Derived.Deep.DeepCutAuto
set_option linter.unusedVariables false
set_option linter.unusedSimpArgs false
namespace Go.Proofs.Ytcapfnbmmdbcoaa
open Go.RowKit
section
variable {P : Program} {ops : Array Oper} {rest : List Oper} {o : Oper} {a : Act} {w w0 : World} {Q : Exit → Act → World → Prop} {L L' : List Item} {R : Res}
theorem wpH_al {ty : TypeId} {k : IntKind} {n : Nat} (m : Nat) (H : TS R w0 w L) (hR : Ok R) (hz : (P.info? ty).map (·.zero) = some (some (.agg (nums k (List.replicate n 0)).toArray))) (hm : o.dst = some m) (hgd : o.guard = none) (ho : o.op = .alloc ty)
    (h : ∀ b w', TS R w0 w' (.blk b (rowO k ty (List.replicate n 0)) :: L) → wpList P ops Q rest (a.put (some m) (.pointer (some ⟨b, 0, none⟩))) w') : wpList P ops Q (o :: rest) a w :=
  wpList_alN hz m hm hgd ho H.reb fun b w' M => h b w' (H.step hR M)
theorem wpH_bx (m : Nat) (H : TS R w0 w L) (hR : Ok R) (hm : o.dst = some m) (hgd : o.guard = none) {ty : TypeId} {x : Operand} (ho : o.op = .box ty x) {k : IntKind} {xs : List Int} (hx : a.eval x = .agg (nums k xs).toArray)
    (h : ∀ b w', TS R w0 w' (.blk b (rowO k ty xs) :: L) → wpList P ops Q rest (a.put (some m) (.pointer (some ⟨b, 0, none⟩))) w') : wpList P ops Q (o :: rest) a w :=
  wpList_bxN m hm hgd ho hx H.reb fun b w' M => h b w' (H.step hR M)
theorem wpH_st (H : TS R w0 w L) (hR : Ok R) {ty : TypeId} {n : Nat} (hsz : (P.info? ty).map (·.size) = some n) (hgd : o.guard = none) {x y : Operand} (ho : o.op = .store ty x y) {g : Nat} (hx : a.eval x = .pointer (some ⟨g, 0, none⟩)) {k : IntKind} {ys : List Int}
    (hy : a.eval y = .agg (nums k ys).toArray) {t : TypeId} {xs : List Int} (hs : Swap (.blk g (rowO k t xs)) (.blk g (rowO k t ys)) L L') (hn : xs.length = n) (hn' : ys.length = n)
    (h : ∀ w', TS R w0 w' L' → wpList P ops Q rest (a.put o.dst undef) w') : wpList P ops Q (o :: rest) a w :=
  wpList_strowN hsz hgd ho hx hy H.reb hs hn hn' fun w' M => h w' (H.step hR M)
theorem wpH_st0 (hd : o.dst = none) (H : TS R w0 w L) (hR : Ok R) {ty : TypeId} {n : Nat} (hsz : (P.info? ty).map (·.size) = some n) (hgd : o.guard = none) {x y : Operand} (ho : o.op = .store ty x y) {g : Nat} (hx : a.eval x = .pointer (some ⟨g, 0, none⟩)) {k : IntKind} {ys : List Int}
    (hy : a.eval y = .agg (nums k ys).toArray) {t : TypeId} {xs : List Int} (hs : Swap (.blk g (rowO k t xs)) (.blk g (rowO k t ys)) L L') (hn : xs.length = n) (hn' : ys.length = n)
    (h : ∀ w', TS R w0 w' L' → wpList P ops Q rest a w') : wpList P ops Q (o :: rest) a w :=
  wpH_st H hR hsz hgd ho hx hy hs hn hn' fun w' H' => by rw [hd]; exact h w' H'
end
section
variable {ops : Array Oper} {rest : List Oper} {o : Oper} {a : Act} {w w0 : World} {Q : Exit → Act → World → Prop} {L L' : List Item} {R : Res}
theorem wpH_bsK1 (m : Nat) (H : TS R w0 w L) (hR : Ok R) (hm : o.dst = some m) (hgd : o.guard = none) {x : Operand} (ho : o.op = .buildSlice 34 1 #[(0, x)]) {k : List Int} (hx : a.eval x = .agg (nums .u8 k).toArray) (hk : KeyOk k)
    (h : ∀ b w', TS R w0 w' (.blk b (rowO .u8 26 [k].flatten) :: L) → wpList Try.prog ops Q rest (a.put (some m) (.slice (some ⟨b, 0, none⟩) 1 1)) w') : wpList Try.prog ops Q (o :: rest) a w :=
  wpList_bsK1 m hm hgd ho hx hk H.reb fun b w' M => h b w' (H.step hR M)
theorem wpH_bsK2 (m : Nat) (H : TS R w0 w L) (hR : Ok R) (hm : o.dst = some m) (hgd : o.guard = none) {x y : Operand} (ho : o.op = .buildSlice 34 2 #[(0, x), (1, y)]) {k l : List Int} (hx : a.eval x = .agg (nums .u8 k).toArray) (hy : a.eval y = .agg (nums .u8 l).toArray) (hk : KeyOk k) (hl : KeyOk l)
    (h : ∀ b w', TS R w0 w' (.blk b (rowO .u8 26 [k, l].flatten) :: L) → wpList Try.prog ops Q rest (a.put (some m) (.slice (some ⟨b, 0, none⟩) 2 2)) w') : wpList Try.prog ops Q (o :: rest) a w :=
  wpList_bsK2 m hm hgd ho hx hy hk hl H.reb fun b w' M => h b w' (H.step hR M)
theorem wpH_bsK3 (m : Nat) (H : TS R w0 w L) (hR : Ok R) (hm : o.dst = some m) (hgd : o.guard = none) {x y z : Operand} (ho : o.op = .buildSlice 34 3 #[(0, x), (1, y), (2, z)]) {k l q : List Int} (hx : a.eval x = .agg (nums .u8 k).toArray) (hy : a.eval y = .agg (nums .u8 l).toArray) (hz : a.eval z = .agg (nums .u8 q).toArray) (hk : KeyOk k) (hl : KeyOk l) (hq : KeyOk q)
    (h : ∀ b w', TS R w0 w' (.blk b (rowO .u8 26 [k, l, q].flatten) :: L) → wpList Try.prog ops Q rest (a.put (some m) (.slice (some ⟨b, 0, none⟩) 3 3)) w') : wpList Try.prog ops Q (o :: rest) a w :=
  wpList_bsG Try.underlying34 iz26 (by decide) m hm hgd [.agg (nums .u8 k).toArray, .agg (nums .u8 l).toArray, .agg (nums .u8 q).toArray] ho (by simp) (by simp [hx, hy, hz]) (by simp only [List.mem_cons, List.not_mem_nil, or_false]; rintro v (rfl | rfl | rfl); exact keyCells hk; exact keyCells hl; exact keyCells hq) H.reb fun b w' M' => h b w' (H.step hR (by
    rw [show ([Value.agg (nums .u8 k).toArray, Value.agg (nums .u8 l).toArray, Value.agg (nums .u8 q).toArray].flatMap fun v => v.cells.toList) = nums .u8 [k, l, q].flatten from by simp [Value.cells, nums]] at M'
    exact M'))
theorem wpH_bsK4 (m : Nat) (H : TS R w0 w L) (hR : Ok R) (hm : o.dst = some m) (hgd : o.guard = none) {x y z u : Operand} (ho : o.op = .buildSlice 34 4 #[(0, x), (1, y), (2, z), (3, u)]) {k l q r : List Int} (hx : a.eval x = .agg (nums .u8 k).toArray) (hy : a.eval y = .agg (nums .u8 l).toArray) (hz : a.eval z = .agg (nums .u8 q).toArray) (hu : a.eval u = .agg (nums .u8 r).toArray) (hk : KeyOk k) (hl : KeyOk l) (hq : KeyOk q) (hr : KeyOk r)
    (h : ∀ b w', TS R w0 w' (.blk b (rowO .u8 26 [k, l, q, r].flatten) :: L) → wpList Try.prog ops Q rest (a.put (some m) (.slice (some ⟨b, 0, none⟩) 4 4)) w') : wpList Try.prog ops Q (o :: rest) a w :=
  wpList_bsG Try.underlying34 iz26 (by decide) m hm hgd [.agg (nums .u8 k).toArray, .agg (nums .u8 l).toArray, .agg (nums .u8 q).toArray, .agg (nums .u8 r).toArray] ho (by simp) (by simp [hx, hy, hz, hu]) (by simp only [List.mem_cons, List.not_mem_nil, or_false]; rintro v (rfl | rfl | rfl | rfl); exact keyCells hk; exact keyCells hl; exact keyCells hq; exact keyCells hr) H.reb fun b w' M' => h b w' (H.step hR (by
    rw [show ([Value.agg (nums .u8 k).toArray, Value.agg (nums .u8 l).toArray, Value.agg (nums .u8 q).toArray, Value.agg (nums .u8 r).toArray].flatMap fun v => v.cells.toList) = nums .u8 [k, l, q, r].flatten from by simp [Value.cells, nums]] at M'
    exact M'))
end
theorem TS.drawn {R : Res} {w0 w : World} {L : List Item} (h : TS R w0 w L) (hR : Ok R) (n : Nat) : TS R w0 { w with drawn := n } L := h.call0 hR ((Mem.start w).drawn n)
theorem wp_region_planTS {P : Program} {a : Act} {w w0 : World} {Q : Exit → Act → World → Prop} {id : Nat} {ops : Array Oper} {R : Res} {L : List Item} (s : PlanT) (hm : P.follows .mixedOrders = true) (hB : (Region.noSelect ops && planTB .any ops s (Array.replicate ops.size false) && decide (s.depth ≤ ops.size)) = true)
    (hQ : ∀ c a (d : Tmp) v w, Q (.panic c) (Act.put a (some d) v) w → Q (.panic c) a w) (H : TS R w0 w L) (hR : Ok R)
    (h : ∀ w1, TS R w0 w1 L → wpPlanT P ops (fun w' => Mem w0 [] w' L) Q s a w1) : (Code.region id ops true).wp P Q a w := by
  simp only [Bool.and_eq_true, decide_eq_true_eq] at hB
  obtain ⟨⟨hs, hB⟩, hl⟩ := hB
  exact wp_region_held (S := fun w' => Mem w0 [] w' L) hm (planT_any (P := P) (Q := Q) hs hQ s _ _ a _ hl hB (h _ (H.drawn hR (w.drawn + 1))))
/-- As wp_region_planTS, the operations behind a name. -/
theorem wp_region_planTG {P : Program} {a : Act} {w w0 : World} {Q : Exit → Act → World → Prop} {id : Nat} {ops : Array Oper} {R : Res} {L : List Item} (s : PlanT) (hm : P.follows .mixedOrders = true) (hB : (Region.noSelect ops && planTB .any ops s (Array.replicate ops.size false) && decide (s.depth ≤ ops.size)) = true)
    (hQ : ∀ c a (d : Tmp) v w, Q (.panic c) (Act.put a (some d) v) w → Q (.panic c) a w) (H : TS R w0 w L) (hR : Ok R)
    (h : ∀ (ops' : Array Oper) (Q' : Exit → Act → World → Prop), Hid (ops' = ops) → Hid (Q' = Q) → ∀ w1, TS R w0 w1 L → wpPlanT P ops' (fun w' => Mem w0 [] w' L) Q' s a w1) : (Code.region id ops true).wp P Q a w :=
  wp_region_planTS s hm hB hQ H hR fun w1 H1 => h ops Q (hid rfl) (hid rfl) w1 H1
theorem mem_swap2 {α : Type} {x y z : α} {L : List α} (h : z ∈ y :: x :: L) : z ∈ x :: y :: L := by
  simp only [List.mem_cons] at h ⊢
  rcases h with h | h | h
  · exact .inr (.inl h)
  · exact .inl h
  · exact .inr (.inr h)
theorem TS.swap {P : Res} {w0 w : World} {x y : Item} {L : List Item} (h : TS P w0 w (x :: y :: L)) : TS P w0 w (y :: x :: L) := by
  obtain ⟨K, a1, a2, a3⟩ := h.ex
  have M := h.mem
  refine ⟨⟨K, a1, a2, fun z hz => a3 z (mem_swap2 hz)⟩, M.os, M.tape, M.output, M.size, M.old, fun z hz => M.holds z (mem_swap2 hz), fun z hz => M.fresh z (mem_swap2 hz), ?_⟩
  have := M.apart
  simp only [List.pairwise_cons, List.mem_cons] at this ⊢
  obtain ⟨b1, b2, b3⟩ := this
  refine ⟨fun z hz b hb e => ?_, fun z hz => b1 z (.inr hz), b3⟩
  rcases hz with rfl | hz
  · exact b1 y (.inl rfl) b e hb
  · exact b2 z hz b hb e
/-! ### Names of terms -/
theorem nm_new {ts : List Tm} {t : Tm} (h : t ∉ ts) : nm ts t = kn ts.length ∧ putL ts t = ts ++ [t] := by
  refine ⟨?_, by rw [putL, if_neg h]⟩
  rw [nm_kn, List.idxOf_eq_length h]
theorem nm_old {ts : List Tm} {t : Tm} {i : Nat} (hi : ts[i]? = some t) (hn : ts.Nodup) : nm ts t = kn i ∧ putL ts t = ts := by
  have hm := List.mem_of_getElem? hi
  refine ⟨?_, by rw [putL, if_pos hm]⟩
  have h1 := List.idxOf_lt_length_of_mem hm
  have h2 := get_idx hm
  have : ts.idxOf t = i := (List.getElem?_inj h1 hn).1 (by rw [h2, hi])
  rw [nm_kn, this]
end Go.Proofs.Ytcapfnbmmdbcoaa
