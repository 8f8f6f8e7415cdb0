/- What a call owns, some of it from its caller. Plain laws. -/
import Derived.Test.YtcapfnbmmdbcoaaDA
set_option linter.unusedVariables false
set_option linter.unusedSimpArgs false
namespace Go.Proofs.Ytcapfnbmmdbcoaa
open Go.RowKit
/-- The thing P (in blocks of K0, the caller's, or new ones), and the items L, new, apart; all else is as it was in w0. -/
structure TF (K0 : Nat → Prop) (P : Res) (w0 w : World) (L : List Item) : Prop where
  os : w.os = w0.os
  tape : w.tape = w0.tape
  output : w.output = w0.output
  size : w0.heap.size ≤ w.heap.size
  lt0 : ∀ b, K0 b → b < w0.heap.size
  ex : ∃ K : Nat → Prop, P K w ∧ (∀ b, K b → (K0 b ∨ w0.heap.size ≤ b) ∧ b < w.heap.size) ∧ ∀ x ∈ L, ∀ b, x.block = some b → ¬ K b
  old : ∀ b, b < w0.heap.size → ¬ K0 b → w.heap[b]? = w0.heap[b]?
  holds : ∀ x ∈ L, x.holds w
  fresh : ∀ x ∈ L, ∀ b, x.block = some b → w0.heap.size ≤ b
  apart : L.Pairwise fun x y => ∀ b, x.block = some b → y.block ≠ some b
section
variable {K K0 : Nat → Prop} {P P' Q : Res} {w0 w w' : World} {L L' L2 : List Item}
theorem TF.start (h : P K w) (hlt : ∀ b, K b → b < w.heap.size) : TF K P w w [] :=
  ⟨rfl, rfl, rfl, Nat.le_refl _, hlt, ⟨K, h, fun b hb => ⟨.inl hb, hlt b hb⟩, by simp⟩, fun _ _ _ => rfl, by simp, by simp, List.Pairwise.nil⟩
theorem TF.of (F : FootK K P w w') (hlt : ∀ b, K b → b < w.heap.size) : TF K P w w' [] :=
  ⟨F.os, F.tape, F.output, F.size, hlt, (by obtain ⟨K', h1, h2⟩ := F.run; exact ⟨K', h1, h2, by simp⟩), F.old, by simp, by simp, List.Pairwise.nil⟩
theorem TF.foot (h : TF K P w w' L) : FootK K P w w' :=
  ⟨h.os, h.tape, h.output, h.size, (by obtain ⟨K', h1, h2, _⟩ := h.ex; exact ⟨K', h1, h2⟩), h.old⟩
theorem TF.reb (h : TF K0 P w0 w L) : Mem w (blks L) w L :=
  ⟨rfl, rfl, rfl, Nat.le_refl _, fun _ _ _ => rfl, h.holds, fun x hx b hb => .inl (mem_blks.2 ⟨x, hx, hb⟩), h.apart⟩
theorem TF.sub (h : TF K0 P w0 w L) (hs : L'.Sublist L) : TF K0 P w0 w L' := by
  obtain ⟨K, a1, a2, a3⟩ := h.ex
  exact ⟨h.os, h.tape, h.output, h.size, h.lt0, ⟨K, a1, a2, fun x hx => a3 x (hs.subset hx)⟩, h.old, fun x hx => h.holds x (hs.subset hx), fun x hx => h.fresh x (hs.subset hx), h.apart.sublist hs⟩
theorem TF.step (h : TF K0 P w0 w L) (hP : Ok P) (M : Mem w (blks L) w' L') : TF K0 P w0 w' L' := by
  obtain ⟨K, hK, hlt, hap⟩ := h.ex
  have hst : Stays K w w' := fun b hb hl => M.old b hl (fun hin => by
    obtain ⟨x, hx, hxb⟩ := mem_blks.1 hin
    exact hap x hx b hxb hb)
  refine ⟨M.os.trans h.os, M.tape.trans h.tape, M.output.trans h.output, Nat.le_trans h.size M.size, h.lt0, ⟨K, hP.keep hK hst, fun b hb => ⟨(hlt b hb).1, Nat.lt_of_lt_of_le (hlt b hb).2 M.size⟩, fun x hx b hxb hb => ?_⟩, fun i hi hn => ?_, M.holds, fun x hx b hxb => ?_, M.apart⟩
  · rcases M.fresh x hx b hxb with h1 | h1
    · obtain ⟨y, hy, hyb⟩ := mem_blks.1 h1
      exact hap y hy b hyb hb
    · have := (hlt b hb).2
      omega
  · rw [M.old i (Nat.lt_of_lt_of_le hi h.size) (fun hin => by
      obtain ⟨x, hx, hxb⟩ := mem_blks.1 hin
      have := h.fresh x hx i hxb
      omega)]
    exact h.old i hi hn
  · rcases M.fresh x hx b hxb with h1 | h1
    · obtain ⟨y, hy, hyb⟩ := mem_blks.1 h1
      exact h.fresh y hy b hyb
    · exact Nat.le_trans h.size h1
/-- A callee made memory. -/
theorem TF.call (h : TF K0 P w0 w L) (hP : Ok P) (M : Mem w [] w' L2) : TF K0 P w0 w' (L2 ++ L) :=
  h.step hP (h.reb.join M)
theorem TF.call0 (h : TF K0 P w0 w L) (hP : Ok P) (M : Mem w [] w' []) : TF K0 P w0 w' L := h.call hP M
/-- A callee turned the thing into another one, and left items. -/
theorem TF.turn (h : TF K0 P w0 w L) (hap : ∀ x ∈ L, ∀ b, x.block = some b → ¬ K b) (hK : ∀ b, K b → (K0 b ∨ w0.heap.size ≤ b) ∧ b < w.heap.size) (F : TF K P' w w' L2) : TF K0 P' w0 w' (L2 ++ L) := by
  obtain ⟨K', a1, a2, a3⟩ := F.ex
  have hst : ∀ x ∈ L, ∀ b, x.block = some b → w'.heap[b]? = w.heap[b]? := fun x hx b hxb => F.old b (Item.lt (h.holds x hx) hxb) (hap x hx b hxb)
  refine ⟨F.os.trans h.os, F.tape.trans h.tape, F.output.trans h.output, Nat.le_trans h.size F.size, h.lt0, ⟨K', a1, fun b hb => ⟨?_, (a2 b hb).2⟩, fun x hx b hxb hb => ?_⟩, fun b hl hn => ?_, fun x hx => ?_, fun x hx b hxb => ?_, ?_⟩
  · rcases (a2 b hb).1 with h1 | h1
    · exact (hK b h1).1
    · exact .inr (Nat.le_trans h.size h1)
  · rcases List.mem_append.1 hx with hx | hx
    · exact a3 x hx b hxb hb
    · rcases (a2 b hb).1 with h1 | h1
      · exact hap x hx b hxb h1
      · have := Item.lt (h.holds x hx) hxb
        omega
  · rw [F.old b (Nat.lt_of_lt_of_le hl h.size) (fun hb => by
      rcases (hK b hb).1 with h1 | h1
      · exact hn h1
      · omega)]
    exact h.old b hl hn
  · rcases List.mem_append.1 hx with hx | hx
    · exact F.holds x hx
    · exact Item.stays (h.holds x hx) (hst x hx)
  · rcases List.mem_append.1 hx with hx | hx
    · exact Nat.le_trans h.size (F.fresh x hx b hxb)
    · exact h.fresh x hx b hxb
  · refine pairwise_join F.apart h.apart fun x hx y hy b hb e => ?_
    have h1 := F.fresh x hx b hb
    have h2 := Item.lt (h.holds y hy) e
    omega
theorem TF.star (a2 : Q K0 w) {K1 K2 : Nat → Prop} (F : TF K1 P' w w' L) (hQ : Ok Q) (hq : Q K2 w) (a3 : ∀ b, K1 b → K b) (a4 : ∀ b, K2 b → K b) (a5 : ∀ b, K1 b → ¬ K2 b) (hlt : ∀ b, K b → b < w.heap.size) : TF K (starR P' Q) w w' L := by
  obtain ⟨K1', b1, b2, b3⟩ := F.ex
  have hk : Stays K2 w w' := fun b hb hl => F.old b hl (fun h => a5 b h hb)
  refine ⟨F.os, F.tape, F.output, F.size, hlt, ⟨fun b => K1' b ∨ K2 b, ⟨K1', K2, b1, hQ.keep hq hk, fun b h => .inl h, fun b h => .inr h, fun b h h2 => ?_⟩, fun b hb => ?_, fun x hx b hxb hb => ?_⟩, fun b hl hn => F.old b hl (fun h => hn (a3 b h)), F.holds, F.fresh, F.apart⟩
  · rcases (b2 b h).1 with h1 | h1
    · exact a5 b h1 h2
    · have := hlt b (a4 b h2)
      omega
  · rcases hb with hb | hb
    · exact ⟨(b2 b hb).1.imp (a3 b) id, (b2 b hb).2⟩
    · exact ⟨.inl (a4 b hb), Nat.lt_of_lt_of_le (hlt b (a4 b hb)) F.size⟩
  · rcases hb with hb | hb
    · exact b3 x hx b hxb hb
    · have := hlt b (a4 b hb)
      have := F.fresh x hx b hxb
      omega
theorem starR_comm (h : starR P Q K w) : starR Q P K w := by
  obtain ⟨K1, K2, a1, a2, a3, a4, a5⟩ := h
  exact ⟨K2, K1, a2, a1, a4, a3, fun b h h' => a5 b h' h⟩
theorem TF.comm (h : TF K0 (starR P Q) w0 w L) : TF K0 (starR Q P) w0 w L := by
  obtain ⟨K, a1, a2, a3⟩ := h.ex
  exact ⟨h.os, h.tape, h.output, h.size, h.lt0, ⟨K, starR_comm a1, a2, a3⟩, h.old, h.holds, h.fresh, h.apart⟩
/-- A call by its small contract: on the whole thing, on the left part, on the right part. -/
theorem TF.run {Pr : Program} {f : FuncId} {args : Array Value} {R : Ending → List Item → Prop} (h : TF K0 P w0 w L) (hc : ∀ K : Nat → Prop, P K w → (∀ b, K b → b < w.heap.size) → Calls Pr f args w fun e w' => ∃ L2, R e L2 ∧ TF K P' w w' L2) : Calls Pr f args w fun e w' => ∃ L2, R e L2 ∧ TF K0 P' w0 w' (L2 ++ L) := by
  obtain ⟨K, a1, a2, a3⟩ := h.ex
  exact (hc K a1 (fun b hb => (a2 b hb).2)).mono fun e w' ⟨L2, he, F⟩ => ⟨L2, he, h.turn a3 a2 F⟩
theorem TF.runL {Pr : Program} {f : FuncId} {args : Array Value} {R : Ending → List Item → Prop} (h : TF K0 (starR P Q) w0 w L) (hQ : Ok Q) (hc : ∀ K : Nat → Prop, P K w → (∀ b, K b → b < w.heap.size) → Calls Pr f args w fun e w' => ∃ L2, R e L2 ∧ TF K P' w w' L2) : Calls Pr f args w fun e w' => ∃ L2, R e L2 ∧ TF K0 (starR P' Q) w0 w' (L2 ++ L) := by
  refine h.run fun K ⟨K1, K2, b1, b2, b3, b4, b5⟩ hlt => ?_
  exact (hc K1 b1 (fun b hb => hlt b (b3 b hb))).mono fun e w' ⟨L2, he, F⟩ => ⟨L2, he, TF.star (K0 := K2) b2 F hQ b2 b3 b4 b5 hlt⟩
theorem TF.runR {Pr : Program} {f : FuncId} {args : Array Value} {R : Ending → List Item → Prop} (h : TF K0 (starR Q P) w0 w L) (hQ : Ok Q) (hc : ∀ K : Nat → Prop, P K w → (∀ b, K b → b < w.heap.size) → Calls Pr f args w fun e w' => ∃ L2, R e L2 ∧ TF K P' w w' L2) : Calls Pr f args w fun e w' => ∃ L2, R e L2 ∧ TF K0 (starR Q P') w0 w' (L2 ++ L) :=
  (h.comm.runL hQ hc).mono fun e w' ⟨L2, he, F⟩ => ⟨L2, he, F.comm⟩
/-- Items join the thing. -/
theorem TF.absorb (h : TF K0 P w0 w (L2 ++ L)) {Q : Res} (hQ : Q (fun b => b ∈ blks L2) w) (hP : Ok P) : TF K0 (starR P Q) w0 w L := by
  obtain ⟨K, a1, a2, a3⟩ := h.ex
  have hap := List.pairwise_append.1 h.apart
  refine ⟨h.os, h.tape, h.output, h.size, h.lt0, ⟨fun b => K b ∨ b ∈ blks L2, ⟨K, fun b => b ∈ blks L2, a1, hQ, fun b h => .inl h, fun b h => .inr h, fun b hb hin => ?_⟩, fun b hb => ?_, fun x hx b hxb hb => ?_⟩, h.old, fun x hx => h.holds x (List.mem_append_right _ hx), fun x hx => h.fresh x (List.mem_append_right _ hx), hap.2.1⟩
  · obtain ⟨x, hx, hxb⟩ := mem_blks.1 hin
    exact a3 x (List.mem_append_left _ hx) b hxb hb
  · rcases hb with hb | hb
    · exact a2 b hb
    · obtain ⟨x, hx, hxb⟩ := mem_blks.1 hb
      exact ⟨.inr (h.fresh x (List.mem_append_left _ hx) b hxb), Item.lt (h.holds x (List.mem_append_left _ hx)) hxb⟩
  · rcases hb with hb | hb
    · exact a3 x (List.mem_append_right _ hx) b hxb hb
    · obtain ⟨y, hy, hyb⟩ := mem_blks.1 hb
      exact hap.2.2 y hy x hx b hyb hxb
end
end Go.Proofs.Ytcapfnbmmdbcoaa
namespace Go.Proofs.Ytcapfnbmmdbcoaa
open Go.RowKit
section
variable {P : Program} {ops : Array Oper} {rest : List Oper} {o : Oper} {a : Act} {w w0 : World} {Q : Exit → Act → World → Prop} {L L' : List Item} {R : Res} {K0 : Nat → Prop}
theorem wpF_al {ty : TypeId} {k : IntKind} {n : Nat} (m : Nat) (H : TF K0 R w0 w L) (hR : Ok R) (hz : (P.info? ty).map (·.zero) = some (some (.agg (nums k (List.replicate n 0)).toArray))) (hm : o.dst = some m) (hgd : o.guard = none) (ho : o.op = .alloc ty)
    (h : ∀ b w', TF K0 R w0 w' (.blk b (rowO k ty (List.replicate n 0)) :: L) → wpList P ops Q rest (a.put (some m) (.pointer (some ⟨b, 0, none⟩))) w') : wpList P ops Q (o :: rest) a w :=
  wpList_alN hz m hm hgd ho H.reb fun b w' M => h b w' (H.step hR M)
theorem wpF_bx (m : Nat) (H : TF K0 R w0 w L) (hR : Ok R) (hm : o.dst = some m) (hgd : o.guard = none) {ty : TypeId} {x : Operand} (ho : o.op = .box ty x) {k : IntKind} {xs : List Int} (hx : a.eval x = .agg (nums k xs).toArray)
    (h : ∀ b w', TF K0 R w0 w' (.blk b (rowO k ty xs) :: L) → wpList P ops Q rest (a.put (some m) (.pointer (some ⟨b, 0, none⟩))) w') : wpList P ops Q (o :: rest) a w :=
  wpList_bxN m hm hgd ho hx H.reb fun b w' M => h b w' (H.step hR M)
theorem wpF_bxC (m : Nat) (H : TF K0 R w0 w L) (hR : Ok R) (hm : o.dst = some m) (hgd : o.guard = none) {ty : TypeId} {x : Operand} (ho : o.op = .box ty x) {cs : List Value} (hx : a.eval x = .agg cs.toArray)
    (h : ∀ b w', TF K0 R w0 w' (.blk b (cellsO ty cs) :: L) → wpList P ops Q rest (a.put (some m) (.pointer (some ⟨b, 0, none⟩))) w') : wpList P ops Q (o :: rest) a w :=
  wpList_bx hgd ho H.reb hx rfl fun b w' M => by rw [hm]; exact h b w' (H.step hR M)
theorem wpF_st0 (hd : o.dst = none) (H : TF K0 R w0 w L) (hR : Ok R) {ty : TypeId} {n : Nat} (hsz : (P.info? ty).map (·.size) = some n) (hgd : o.guard = none) {x y : Operand} (ho : o.op = .store ty x y) {g : Nat} (hx : a.eval x = .pointer (some ⟨g, 0, none⟩)) {k : IntKind} {ys : List Int}
    (hy : a.eval y = .agg (nums k ys).toArray) {t : TypeId} {xs : List Int} (hs : Swap (.blk g (rowO k t xs)) (.blk g (rowO k t ys)) L L') (hn : xs.length = n) (hn' : ys.length = n)
    (h : ∀ w', TF K0 R w0 w' L' → wpList P ops Q rest a w') : wpList P ops Q (o :: rest) a w :=
  wpList_strowN hsz hgd ho hx hy H.reb hs hn hn' fun w' M => by rw [hd]; exact h w' (H.step hR M)
theorem wpF_ld {ty : TypeId} {d : TypeDesc} {n : Nat} (H : TF K0 R w0 w L) (hu : P.underlying ty = some d) (hsz : (P.info? ty).map (·.size) = some n) (hgd : o.guard = none) {x : Operand} (ho : o.op = .load ty x) (hd : d.isRow = true) {g : Nat}
    (hx : a.eval x = .pointer (some ⟨g, 0, none⟩)) {k : IntKind} {t : TypeId} {xs : List Int} (hin : .blk g (rowO k t xs) ∈ L) (hn : xs.length = n)
    (h : wpList P ops Q rest (a.put o.dst (.agg (nums k xs).toArray)) w) : wpList P ops Q (o :: rest) a w :=
  wpList_ldrowN hu hsz hgd ho hd hx H.reb hin hn h
end
section
variable {ops : Array Oper} {rest : List Oper} {o : Oper} {a : Act} {w w0 : World} {Q : Exit → Act → World → Prop} {L L' : List Item} {R : Res} {K0 : Nat → Prop}
theorem wpF_bsK1 (m : Nat) (H : TF K0 R w0 w L) (hR : Ok R) (hm : o.dst = some m) (hgd : o.guard = none) {x : Operand} (ho : o.op = .buildSlice 34 1 #[(0, x)]) {k : List Int} (hx : a.eval x = .agg (nums .u8 k).toArray) (hk : KeyOk k)
    (h : ∀ b w', TF K0 R w0 w' (.blk b (rowO .u8 26 [k].flatten) :: L) → wpList Try.prog ops Q rest (a.put (some m) (.slice (some ⟨b, 0, none⟩) 1 1)) w') : wpList Try.prog ops Q (o :: rest) a w :=
  wpList_bsK1 m hm hgd ho hx hk H.reb fun b w' M => h b w' (H.step hR M)
theorem wpF_bsK2 (m : Nat) (H : TF K0 R w0 w L) (hR : Ok R) (hm : o.dst = some m) (hgd : o.guard = none) {x y : Operand} (ho : o.op = .buildSlice 34 2 #[(0, x), (1, y)]) {k l : List Int} (hx : a.eval x = .agg (nums .u8 k).toArray) (hy : a.eval y = .agg (nums .u8 l).toArray) (hk : KeyOk k) (hl : KeyOk l)
    (h : ∀ b w', TF K0 R w0 w' (.blk b (rowO .u8 26 [k, l].flatten) :: L) → wpList Try.prog ops Q rest (a.put (some m) (.slice (some ⟨b, 0, none⟩) 2 2)) w') : wpList Try.prog ops Q (o :: rest) a w :=
  wpList_bsK2 m hm hgd ho hx hy hk hl H.reb fun b w' M => h b w' (H.step hR M)
/-- append(v, x...) of keys, v the call's own. -/
theorem wpF_appK {L' : Option Addr → Nat → List Item} (m : Nat) (H : TF K0 R w0 w L) (hR : Ok R) (hm : o.dst = some m) (hgd : o.guard = none) {s x : Operand} (ho : o.op = .call { callee := .builtin .append, args := #[s, x], argTypes := #[34, 34] }) {A B : Option Addr} {ks qs : List (List Int)} {n cap c : Nat} (hs : a.eval s = .slice A n cap) (hx : a.eval x = .slice B qs.length c)
    (hsw : ∀ A' cap', Swap (.vec A n cap 26 32 (nums .u8 ks.flatten)) (.vec A' (n + qs.length) cap' 26 32 (nums .u8 (ks ++ qs).flatten)) L (L' A' cap')) {t2 : TypeId} (hr : RowT w t2 B (nums .u8 qs.flatten)) (hq : ∀ k ∈ qs, KeyOk k) (hb : n + qs.length ≤ 1000000)
    (h : ∀ A' cap' w', TF K0 R w0 w' (L' A' cap') → wpList Try.prog ops Q rest (a.put (some m) (.slice A' (n + qs.length) cap')) w') : wpList Try.prog ops Q (o :: rest) a w :=
  wpList_appSm m hm Try.underlying34 i26' rfl (by decide) hgd ho hs hx H.reb (fun A' cap' => by rw [← nums_append, ← List.flatten_append]; exact hsw A' cap') hr (by rw [nums_length, flat_len hq]) (nums_one .u8 _) (by omega) (by omega) fun A' cap' w' M => h A' cap' w' (H.step hR M)
end
/-- A region that draws its order; S: the items are there, and T holds. -/
theorem wp_region_planTF {P : Program} {a : Act} {w w0 : World} {Q : Exit → Act → World → Prop} {id : Nat} {ops : Array Oper} {R : Res} {K0 : Nat → Prop} {L : List Item} (T : World → Prop) (s : PlanT) (hm : P.follows .mixedOrders = true) (hB : (Region.noSelect ops && planTB .any ops s (Array.replicate ops.size false) && decide (s.depth ≤ ops.size)) = true)
    (hQ : ∀ c a (d : Tmp) v w, Q (.panic c) (Act.put a (some d) v) w → Q (.panic c) a w) (H : TF K0 R w0 w L) (hR : Ok R)
    (h : ∀ (ops' : Array Oper) (Q' : Exit → Act → World → Prop), Hid (ops' = ops) → Hid (Q' = Q) → ∀ w1, TF K0 R w0 w1 L → wpPlanT P ops' (fun w' => (∃ v E, Mem v E w' L) ∧ T w') Q' s a w1) : (Code.region id ops true).wp P Q a w :=
  wp_region_planS (fun w' => (∃ v E, Mem v E w' L) ∧ T w') s hm hB hQ fun w1 hb => h ops Q (hid rfl) (hid rfl) w1 (H.call0 hR ⟨hb.os, hb.tape, hb.output, hb.size, fun i hi _ => hb.block i hi, by simp, by simp, List.Pairwise.nil⟩)
end Go.Proofs.Ytcapfnbmmdbcoaa
namespace Go.Proofs.Ytcapfnbmmdbcoaa
open Go.RowKit
/-- The pot p over the table g: what was seen (a slice S), what was made. -/
structure PotP (K : Nat → Prop) (w : World) (p g : Nat) (S : Value) (A : Option Addr) (c : Nat) (made : List (List Int)) : Prop where
  hp : w.heap[p]? = some (cellsO 101 [.pointer (some ⟨g, 0, none⟩), S, .slice A made.length c])
  row : w.ownsRow 0 26 32 (.slice A made.length c) made.length (nums .u8 made.flatten)
  ok : ∀ k ∈ made, KeyOk k
  kp : K p
  kA : ∀ b ∈ blkA A, K b
def potR (p g : Nat) (S : Value) (made : List (List Int)) : Res := fun K w => ∃ A c, PotP K w p g S A c made
theorem PotP.keep {K : Nat → Prop} {w w' : World} {p g c : Nat} {S : Value} {A : Option Addr} {made : List (List Int)} (h : PotP K w p g S A c made) (hk : Stays K w w') : PotP K w' p g S A c made :=
  ⟨by rw [hk p h.kp (Array.getElem?_eq_some_iff.1 h.hp).1, h.hp], own_keep h.row hk h.kA, h.ok, h.kp, h.kA⟩
theorem potR_ok (p g : Nat) (S : Value) (made : List (List Int)) : Ok (potR p g S made) := ⟨fun ⟨A, c, T⟩ hs => ⟨A, c, T.keep hs⟩⟩
theorem PotP.ne {K : Nat → Prop} {w : World} {p g c : Nat} {S : Value} {A : Option Addr} {made : List (List Int)} (h : PotP K w p g S A c made) : p ∉ blkA A := fun hin => by
  obtain ⟨arr, m, hh⟩ := own_type h.row p hin
  rw [h.hp] at hh
  injection hh with hh
  injection hh with _ hh _
  exact absurd hh (by decide)
theorem PotP.cells {K : Nat → Prop} {w : World} {p g c : Nat} {S : Value} {A : Option Addr} {made : List (List Int)} (h : PotP K w p g S A c made) :
    w.cell? ⟨p, 0, none⟩ = some (.pointer (some ⟨g, 0, none⟩)) ∧ w.cell? ⟨p, 1, none⟩ = some S ∧ w.cell? ⟨p, 2, none⟩ = some (.slice A made.length c) :=
  ⟨by rw [cell_of_row w p 0 _ 101 (0, 0) h.hp]; rfl, by rw [cell_of_row w p 1 _ 101 (0, 0) h.hp]; rfl, by rw [cell_of_row w p 2 _ 101 (0, 0) h.hp]; rfl⟩
/-- The pot's blocks as items. -/
theorem PotP.items {K : Nat → Prop} {w : World} {p g c : Nat} {S : Value} {A : Option Addr} {made : List (List Int)} (h : PotP K w p g S A c made) :
    Mem w (p :: blkA A) w [.blk p (cellsO 101 [.pointer (some ⟨g, 0, none⟩), S, .slice A made.length c]), .vec A made.length c 26 32 (nums .u8 made.flatten)] := by
  refine ⟨rfl, rfl, rfl, Nat.le_refl _, fun _ _ _ => rfl, ?_, ?_, ?_⟩
  · intro x hx
    simp only [List.mem_cons, List.not_mem_nil, or_false] at hx
    rcases hx with rfl | rfl
    · exact h.hp
    · exact h.row
  · intro x hx b hb
    simp only [List.mem_cons, List.not_mem_nil, or_false] at hx
    rcases hx with rfl | rfl
    · simp only [Item.block, Option.some.injEq] at hb
      left; simp [hb]
    · left; simp [vec_block hb]
  · refine List.pairwise_cons.2 ⟨fun y hy b hb e => ?_, by simp⟩
    rw [List.mem_singleton] at hy
    subst hy
    simp only [Item.block, Option.some.injEq] at hb
    subst hb
    exact h.ne (vec_block e)
theorem PotP.put {K : Nat → Prop} {w wz : World} {p g c c2 : Nat} {S : Value} {A A2 : Option Addr} {made ks : List (List Int)} (T : PotP K w p g S A c made) (hlt : ∀ b, K b → b < w.heap.size) (hk : ∀ k ∈ ks, KeyOk k)
    (M : Mem w (p :: blkA A) wz [.blk p (cellsO 101 [.pointer (some ⟨g, 0, none⟩), S, .slice A2 (made.length + ks.length) c2]), .vec A2 (made.length + ks.length) c2 26 32 (nums .u8 made.flatten ++ nums .u8 ks.flatten)]) : TF K (potR p g S (made ++ ks)) w wz [] := by
  have h1 : wz.heap[p]? = _ := M.holds _ List.mem_cons_self
  have h2 : wz.ownsRow 0 26 32 (.slice A2 (made.length + ks.length) c2) (made.length + ks.length) (nums .u8 made.flatten ++ nums .u8 ks.flatten) := M.holds _ (List.mem_cons_of_mem _ List.mem_cons_self)
  have hK : ∀ b ∈ p :: blkA A, K b := fun b hb => by
    rcases List.mem_cons.1 hb with rfl | hb
    · exact T.kp
    · exact T.kA b hb
  refine ⟨M.os, M.tape, M.output, M.size, hlt, ⟨fun b => (K b ∨ w.heap.size ≤ b) ∧ b < wz.heap.size, ⟨A2, c2, ?_, ?_, fun k hkk => ?_, ⟨.inl T.kp, (Array.getElem?_eq_some_iff.1 h1).1⟩, fun b hb => ⟨?_, own_lt h2 b hb⟩⟩, fun b hb => hb, by simp⟩, fun b hl hn => M.old b hl (fun hin => hn (hK b hin)), by simp, by simp, List.Pairwise.nil⟩
  · rw [List.length_append]; exact h1
  · rw [List.length_append, List.flatten_append, nums_append]; exact h2
  · rcases List.mem_append.1 hkk with h | h
    · exact T.ok k h
    · exact hk k h
  · simp only [blkA, Option.mem_toList, Option.map_eq_some_iff] at hb
    obtain ⟨ad, rfl, rfl⟩ := hb
    exact (M.fresh _ (List.mem_cons_of_mem _ List.mem_cons_self) ad.block rfl).imp (hK _) id
set_option maxRecDepth 100000 in
set_option maxHeartbeats 4000000 in
theorem put72 {K : Nat → Prop} {w : World} {p g : Nat} {S : Value} {made : List (List Int)} (h : potR p g S made K w) (hlt : ∀ b, K b → b < w.heap.size) {B : Option Addr} {d : Nat} {ks : List (List Int)} (hS : S.oneCell' = true) (hk : ∀ k ∈ ks, KeyOk k) (hr : RowT w 26 B (nums .u8 ks.flatten)) (hn : made.length + ks.length ≤ 1000000) :
    Calls Try.prog 72 #[.pointer (some ⟨p, 0, none⟩), .slice B ks.length d] w fun e w' => ∃ L2, (e = .returned (.tuple #[]) ∧ L2 = []) ∧ TF K (potR p g S (made ++ ks)) w w' L2 := by
  obtain ⟨A, c, T⟩ := h
  have M := T.items
  have HT := hid T
  have HR := hid hr
  have HK := hid hk
  have hfl := flat_len hk
  have c2 := M.cell (i := 2) (g := p) (t := 101) (cs := [.pointer (some ⟨g, 0, none⟩), S, .slice A made.length c]) List.mem_cons_self rfl
  clear T hr hk
  go_enter Try.func72, Try.ntmps72
  go_wp2_with (first | (refine wpList_appSm 10 rfl Try.underlying34 i26' rfl (by decide) rfl rfl rfl rfl M (fun A' cap' => Swap.tail Swap.head) HR.out (by rw [nums_length, hfl]) (nums_one .u8 _) (by omega) (by omega) ?_; clear M c2; intro A2 c2 wn M; (conv => arg 5; simp only [Act.put, List.setIfInBounds_toArray, List.set_cons_succ, List.set_cons_zero])) | (refine wpList_stM (v := .slice A2 (made.length + ks.length) c2) rfl rfl s34 rfl rfl rfl M Swap.head (by simp) ?_; clear M; intro wz M; (conv => arg 5; simp only [Act.put, List.setIfInBounds_toArray, List.set_cons_succ, List.set_cons_zero])))
  go_end0
  rw [show ([Value.pointer (some ⟨g, 0, none⟩), S, .slice A made.length c].set 2 (.slice A2 (made.length + ks.length) c2)) = [.pointer (some ⟨g, 0, none⟩), S, .slice A2 (made.length + ks.length) c2] from rfl] at M
  exact ⟨[], ⟨rfl, rfl⟩, HT.out.put hlt HK.out M⟩
end Go.Proofs.Ytcapfnbmmdbcoaa
namespace Go.Proofs.Ytcapfnbmmdbcoaa
open Go.RowKit
/-- A row that reads as cells, of a block of whatever type. -/
def RowC (w : World) (A : Option Addr) (cs : List Value) : Prop := ∀ (i : Nat) (v : Value), cs[i]? = some v → ∃ b off, A = some ⟨b, off, none⟩ ∧ w.cell? ⟨b, off + i, none⟩ = some v
theorem RowC.cell {w : World} {A : Option Addr} {cs : List Value} (h : RowC w A cs) {i : Nat} {v : Value} (hi : cs[i]? = some v) : ∃ b off, A = some ⟨b, off, none⟩ ∧ w.cell? ⟨b, off + i, none⟩ = some v := h i v hi
theorem RowT.toC {w : World} {t : TypeId} {A : Option Addr} {cs : List Value} (h : RowT w t A cs) : RowC w A cs := fun i v hi => h.cell hi
theorem RowC.mem {w0 w : World} {A : Option Addr} {cs : List Value} {L : List Item} (h : RowC w0 A cs) (M : Mem w0 [] w L) : RowC w A cs := fun i v hi => by
  obtain ⟨b, off, hA, hc⟩ := h i v hi
  exact ⟨b, off, hA, M.cell0 hc⟩
theorem TF.cellO {K0 : Nat → Prop} {P : Res} {w0 w : World} {L : List Item} (h : TF K0 P w0 w L) {ad : Addr} {v : Value} (hc : w0.cell? ad = some v) (hn : ¬ K0 ad.block) : w.cell? ad = some v := by
  rw [← hc]
  exact World.cell?_of_block (h.old _ (World.block_lt_of_cell? w0 ad hc) hn)
theorem TF.rowC {K0 : Nat → Prop} {P : Res} {w0 w : World} {L : List Item} (h : TF K0 P w0 w L) {A : Option Addr} {cs : List Value} (hr : RowC w0 A cs) (hA : cs ≠ [] → ∀ ad, A = some ad → ¬ K0 ad.block) : RowC w A cs := fun i v hi => by
  obtain ⟨b, off, hAe, hc⟩ := hr i v hi
  exact ⟨b, off, hAe, h.cellO hc (show ¬ K0 b from hA (fun e => by rw [e] at hi; simp at hi) ⟨b, off, none⟩ hAe)⟩
/-- A step (api.Cook). -/
structure Ck where
  kind : Int
  n : Int
  text : ByteArray
  keys : List Int
  raw : List Int
structure CkOk (c : Ck) : Prop where
  tx : c.text.size ≤ 200
  kl : c.keys.length ≤ 10
  raw : KeyOk c.raw
def ckCells (c : Ck) (I : Option Addr) (ic : Nat) : List Value := [.int .i64 c.kind, .int .i64 c.n, .string c.text, .slice I c.keys.length ic] ++ nums .u8 c.raw
def inR (made : List (List Int)) (i : Int) : Bool := decide (0 ≤ i) && decide (i < (made.length : Int))
def getK (made : List (List Int)) (i : Int) : List Int := made.getD i.toNat []
/-- The keys that a step names. -/
def namedL (made : List (List Int)) (is : List Int) : Option (List (List Int)) := if is.all (inR made) then some (is.map (getK made)) else none
def NamedR (w : World) (least : Int) : Option (List (List Int)) → Ending → World → Prop
  | none, e, w' => e = .returned (.tuple #[.slice none 0 0, .bool false]) ∧ Mem w [] w' []
  | some l, e, w' => ∃ B d, e = .returned (.tuple #[.slice B l.length d, .bool (decide (least ≤ (l.length : Int)))]) ∧ Mem w [] w' [.vec B l.length d 26 32 (nums .u8 l.flatten)]
theorem getK_ok {made : List (List Int)} (h : ∀ k ∈ made, KeyOk k) {i : Int} (hi : inR made i = true) : made[i.toNat]? = some (getK made i) ∧ KeyOk (getK made i) := by
  unfold inR at hi
  simp only [Bool.and_eq_true, decide_eq_true_eq] at hi
  have hl : i.toNat < made.length := by omega
  have h1 : made[i.toNat]? = some (getK made i) := by rw [getK, List.getD_eq_getElem?_getD, List.getElem?_eq_getElem hl]; rfl
  exact ⟨h1, h _ (List.mem_of_getElem? h1)⟩
set_option maxRecDepth 100000 in
set_option maxHeartbeats 4000000 in
theorem named71 {K : Nat → Prop} {w : World} {p g : Nat} {S : Value} {made : List (List Int)} (h : potR p g S made K w) (hm : made.length ≤ 100000) {c : Ck} {I : Option Addr} {ic : Nat} (hc : CkOk c) (hI : RowC w I (nums .i64 c.keys)) (least : Int) :
    Calls Try.prog 71 #[.pointer (some ⟨p, 0, none⟩), .agg (ckCells c I ic).toArray, .int .i64 least] w (NamedR w least (namedL made c.keys)) := by
  obtain ⟨A, ca, T⟩ := h
  have M0 := Mem.start w
  have HT := hid T
  have HI := hid hI
  have kl := hc.kl
  obtain ⟨res, hres⟩ : ∃ x, x = namedL made c.keys := ⟨_, rfl⟩
  rw [← hres]
  have HRES := hid hres
  clear T hI hc hres
  go_enter Try.func71, Try.ntmps71
  go_wp2_with (refine wpList_bx (cs := ckCells c I ic) rfl rfl M0 rfl rfl (fun b4 w1 M1 => ?_); clear M0; have c3 := M1.cell (i := 3) List.mem_cons_self rfl; (conv => arg 5; simp only [Act.put, List.setIfInBounds_toArray, List.set_cons_succ, List.set_cons_zero]))
  clear c3
  go_loopw [8, 14] (fun o n wr => ∃ (i : Nat) (B : Option Addr) (d : Nat), i ≤ c.keys.length ∧ n = .int .i64 i ∧ o = .slice B i d ∧ Mem w [] wr [.vec B i d 26 32 (nums .u8 ((c.keys.take i).map (getK made)).flatten)] ∧ Hid ((c.keys.take i).all (inR made) = true)) (fun _ n _ => c.keys.length - (intOf n).toNat)
  case atStart => exact ⟨0, none, 0, by omega, rfl, rfl, (M1.nil 26 32).sub (by (repeat (first | exact List.Sublist.refl _ | apply List.Sublist.cons_cons | apply List.Sublist.cons))), hid rfl⟩
  case round =>
    obtain ⟨i, B, d, hi, rfl, rfl, Mi, HA⟩ := hrel
    clear M1
    by_cases hlt : i < c.keys.length
    · have hltI : (i : Int) < (c.keys.length : Int) := by omega
      obtain ⟨a, hae⟩ : ∃ a, c.keys[i]? = some a := ⟨c.keys[i], List.getElem?_eq_getElem hlt⟩
      obtain ⟨bi, oi, hIe, hcell⟩ := HI.out.cell (i := i) (v := .int .i64 a) (by simp [nums, hae])
      subst hIe
      have ci := Mi.cell0 hcell
      have HAE := hid hae
      have cp := Mi.cell0 HT.out.cells.2.2
      clear hae hcell
      cases hin : inR made a
      · have hn : namedL made c.keys = none := by
          rw [namedL, if_neg]
          rw [Bool.not_eq_true, List.all_eq_false]
          exact ⟨a, List.mem_of_getElem? HAE.out, by simp [hin]⟩
        have HN := hid hn
        clear hn
        unfold inR at hin
        by_cases h0 : a < 0
        · go_wp2_with (first | (apply wpList_want; (· rfl)))
          go_ret2
          rw [HRES.out, HN.out]
          exact ⟨rfl, Mi.sub (List.nil_sublist _)⟩
        · have h1 : (made.length : Int) ≤ a := by
            simp only [Bool.and_eq_false_iff, decide_eq_false_iff_not] at hin
            omega
          clear hin
          go_wp2_with (first | (apply wpList_want; (· rfl)))
          go_ret2
          rw [HRES.out, HN.out]
          exact ⟨rfl, Mi.sub (List.nil_sublist _)⟩
      · obtain ⟨hg, hgk⟩ := getK_ok HT.out.ok hin
        have HIN := hid hin
        unfold inR at hin
        simp only [Bool.and_eq_true, decide_eq_true_eq] at hin
        obtain ⟨h0, h1⟩ := hin
        obtain ⟨b2, o2, hA2, hcc⟩ := keys_at HT.out.ok (A := A) (w := w) (ks := made) (by
          have := HT.out.row
          intro j v hj
          rcases this.2 with ⟨h', hn⟩ | ⟨gg, cap', cur, h', _, hh, _, _, _, htk⟩
          · have hl := this.1
            rw [hn, Nat.zero_mul] at hl
            rw [List.eq_nil_of_length_eq_zero hl] at hj
            simp at hj
          · injection h' with hA _ _
            refine ⟨gg, 0, cur, _, hA, hh, ?_⟩
            rw [← htk, List.getElem?_take] at hj
            split at hj
            · rw [Nat.zero_add]; simpa using hj
            · cases hj) hg
        subst hA2
        have HCC := hid (Mi.cells0 hcc)
        have HGK := hid hgk
        have hj2 : a.toNat < made.length := by omega
        obtain ⟨j, rfl⟩ : ∃ j : Nat, a = (j : Int) := ⟨a.toNat, by omega⟩
        rw [Int.toNat_natCast] at HCC hj2
        clear hcc hg hgk
        go_wp2_with (first | (apply wpList_want; (· rfl)) | (refine wpList_ldagg 36 rfl Try.underlying26 rfl rfl rfl rfl HCC.out (s26k HGK.out) ?_; (conv => arg 5; simp only [Act.put, List.setIfInBounds_toArray, List.set_cons_succ, List.set_cons_zero])) | (refine wpList_bsK1 37 rfl rfl rfl rfl HGK.out Mi ?_; clear Mi ci cp; intro b37 w3 M; (conv => arg 5; simp only [Act.put, List.setIfInBounds_toArray, List.set_cons_succ, List.set_cons_zero])) | (refine wpList_appSm 38 rfl Try.underlying34 i26' rfl (by decide) rfl rfl rfl rfl M (fun A' cap' => Swap.tail Swap.head) (M.blkT List.mem_cons_self) (by rw [nums_length, List.flatten_cons, List.flatten_nil, List.append_nil, HGK.out.1]) (nums_one .u8 _) (by omega) (by omega) ?_; clear M; intro A2 c2 w4 M; (conv => arg 5; simp only [Act.put, List.setIfInBounds_toArray, List.set_cons_succ, List.set_cons_zero])))
        go_round
        case rel =>
          refine ⟨i + 1, A2, c2, by omega, by go_num, rfl, ?_, ?_⟩
          · have h2 : (c.keys.take (i + 1)).map (getK made) = (c.keys.take i).map (getK made) ++ [getK made (j : Int)] := by
              obtain ⟨hl, he⟩ := List.getElem?_eq_some_iff.1 HAE.out
              rw [List.take_succ_eq_append_getElem hl, he]
              simp
            rw [h2, List.flatten_append, nums_append]
            exact M.sub (by (repeat (first | exact List.Sublist.refl _ | apply List.Sublist.cons_cons | apply List.Sublist.cons)))
          · refine hid ?_
            obtain ⟨hl, he⟩ := List.getElem?_eq_some_iff.1 HAE.out
            rw [List.take_succ_eq_append_getElem hl, List.all_append, HA.out, he]
            simp [HIN.out]
        case measure => simp [intOf]; omega
    · obtain rfl : i = c.keys.length := by omega
      go_wp2_with fail
      go_ret2
      have h1 := HA.out
      rw [List.take_of_length_le (Nat.le_refl _)] at h1 Mi
      rw [HRES.out, namedL, if_pos h1]
      refine ⟨B, d, ?_, by rw [List.length_map]; exact Mi⟩
      rw [List.length_map]
      rfl
end Go.Proofs.Ytcapfnbmmdbcoaa
namespace Go.Proofs.Ytcapfnbmmdbcoaa
open Go.RowKit
theorem shape_iff {k : List Int} (hk : KeyOk k) : nameL (numK k) = k ↔ k.take 4 = [116, 101, 114, 109] ∧ k.drop 8 = List.replicate 24 0 := by
  constructor
  · intro h
    rw [← h]
    exact ⟨rfl, rfl⟩
  · rintro ⟨h1, h2⟩
    obtain ⟨r4l, r4u⟩ := rd_byte hk.2 4
    obtain ⟨r5l, r5u⟩ := rd_byte hk.2 5
    obtain ⟨r6l, r6u⟩ := rd_byte hk.2 6
    obtain ⟨r7l, r7u⟩ := rd_byte hk.2 7
    have hl := hk.1
    have h3 : fourL (numK k) = (k.drop 4).take 4 := by
      have e : (k.drop 4).take 4 = [rd k 4, rd k 5, rd k 6, rd k 7] := by
        apply List.ext_getElem?
        intro i
        match i with
        | 0 => simp [rd, List.getD_eq_getElem?_getD, List.getElem?_eq_getElem (show 4 < k.length by omega)]
        | 1 => simp [rd, List.getD_eq_getElem?_getD, List.getElem?_eq_getElem (show 5 < k.length by omega)]
        | 2 => simp [rd, List.getD_eq_getElem?_getD, List.getElem?_eq_getElem (show 6 < k.length by omega)]
        | 3 => simp [rd, List.getD_eq_getElem?_getD, List.getElem?_eq_getElem (show 7 < k.length by omega)]
        | i + 4 => rw [List.getElem?_eq_none (by simp; omega), List.getElem?_eq_none (by simp)]
      rw [e, fourL, numK]
      simp only [List.cons.injEq, and_true]
      omega
    have h4 : k = k.take 4 ++ ((k.drop 4).take 4 ++ k.drop 8) := by
      have a1 := (List.take_append_drop 4 k).symm
      have a2 := (List.take_append_drop 4 (k.drop 4)).symm
      rw [List.drop_drop] at a2
      conv => lhs; rw [a1, a2]
    rw [nameL, h3, List.append_assoc, ← h1, ← h2]
    exact h4.symm
theorem term_str {k : List Int} (hk : KeyOk k) : ((strOfNums (k.take 4)).toList == [116, 101, 114, 109]) = decide (k.take 4 = [116, 101, 114, 109]) := by
  by_cases h : k.take 4 = [116, 101, 114, 109]
  · rw [h, decide_eq_true rfl]
    kernel_rfl
  · rw [decide_eq_false h]
    have h2 := str_eqb (strOfNums (k.take 4)) (strOfNums [116, 101, 114, 109])
    rw [decide_eq_false (fun e => h (str_inj _ _ (fun x hx => hk.2 x (List.mem_of_mem_take hx)) (by intro x hx; simp at hx; rcases hx with rfl | rfl | rfl | rfl <;> exact ⟨by decide, by decide⟩) e))] at h2
    rw [← h2]
    congr 1
    kernel_rfl
theorem u131 : Try.prog.underlying 131 = some (.array 24 5) := by kernel_rfl
theorem run_arr24 (a : Option Addr) (len cap : Nat) (h : 24 ≤ len) (w : World) : (Instr.arrayAt 131 (.slice a len cap)).run Try.prog w = .ok (.pointer a) w := by
  have h1 : ¬ len < 24 := by omega
  simp [Instr.arrayAt, run_underlying u131, h1]
def zT : List Int := List.replicate 24 0
theorem b131z : ∀ w : World, (Instr.build 131 #[]).run Try.prog w = .ok (.agg (nums .u8 zT).toArray) w := fun w => by kernel_rfl
theorem wpList_arr24 {ops : Array Oper} {rest : List Oper} {o : Oper} {a : Act} {w : World} {Q : Exit → Act → World → Prop} (m : Nat) (hm : o.dst = some m) (hgd : o.guard = none) {x : Operand} (ho : o.op = .sliceToArrayPointer 131 x) {ad : Option Addr} {len cap : Nat} (hx : a.eval x = .slice ad len cap) (hl : 24 ≤ len)
    (h : wpList Try.prog ops Q rest (a.put (some m) (.pointer ad)) w) : wpList Try.prog ops Q (o :: rest) a w :=
  wpList_plain hgd fun K hK => by
    unfold Oper.wp execOp
    simp only [ho, hx, Sem.run_bind, Sem.run_pure, Result.andThen_ok, run_arr24 ad len cap hl]
    refine hK _ _ ?_
    rw [hm]
    exact h
theorem wpList_eq131 {ops : Array Oper} {rest : List Oper} {o : Oper} {a : Act} {w : World} {Q : Exit → Act → World → Prop} (m : Nat) (hm : o.dst = some m) (hgd : o.guard = none) {x y : Operand} {r : TypeId} (ho : o.op = .binOp .eql 131 x y r) {xs ys : List Int} (hx : a.eval x = .agg (nums .u8 xs).toArray) (hy : a.eval y = .agg (nums .u8 ys).toArray) (lx : xs.length = 24) (ly : ys.length = 24)
    (h : wpList Try.prog ops Q rest (a.put (some m) (.bool (decide (xs = ys)))) w) : wpList Try.prog ops Q (o :: rest) a w :=
  wpList_plain hgd fun K hK => by
    unfold Oper.wp
    obtain ⟨i, hi, his⟩ := Option.map_eq_some_iff.1 s5
    rw [run_eqN u131 Try.underlying5 hi his pk5 c5 (by kernel_rfl) ho hx hy lx ly]
    refine hK _ _ ?_
    rw [hm]
    exact h
set_option maxRecDepth 100000 in
set_option maxHeartbeats 4000000 in
theorem shaped73 (k : List Int) (w : World) (hk : KeyOk k) : Calls Try.prog 73 #[.agg (nums .u8 k).toArray] w (BoolR (decide (nameL (numK k) = k)) w) := by
  have M0 := Mem.start w
  have HK := hid hk
  have HI := hid (shape_iff hk)
  have HT := hid (term_str hk)
  have H0 := hid (show k.drop 0 = k from List.drop_zero)
  have H8 := hid (show (k.drop (0 + Int.toNat 8)).take 24 = k.drop 8 from by rw [show 0 + Int.toNat 8 = 8 from rfl, List.take_of_length_le (by rw [List.length_drop, hk.1]; decide)])
  clear hk
  obtain ⟨res, hres⟩ : ∃ x, x = decide (nameL (numK k) = k) := ⟨_, rfl⟩
  rw [← hres]
  have HRES := hid hres
  clear hres
  by_cases h4 : k.take 4 = [116, 101, 114, 109]
  · have hq : ((strOfNums (k.take 4)).toList == [116, 101, 114, 109]) = true := by rw [HT.out, decide_eq_true h4]
    have H4 := hid h4
    clear h4
    go_enter Try.func73, Try.ntmps73
    go_wp2_with (first | (refine wpList_bxN 1 rfl rfl rfl rfl M0 (fun b1 w1 M1 => ?_); clear M0; (conv => arg 5; simp only [Act.put, List.setIfInBounds_toArray, List.set_cons_succ, List.set_cons_zero])) | (apply wpList_want; (· rfl)) | (refine wpList_cvS Try.underlying37 Try.underlying5 Try.underlying9 rfl rfl rfl M1 List.mem_cons_self (by rw [HK.out.1]; decide) ?_; rw [H0.out]; (conv => arg 5; simp only [Act.put, List.setIfInBounds_toArray, List.set_cons_succ, List.set_cons_zero])) | (refine wpList_slE Try.underlying26 s5 rfl rfl rfl rfl (by decide) (by decide) ?_; (conv => arg 5; simp only [Act.put, List.setIfInBounds_toArray, List.set_cons_succ, List.set_cons_zero])) | (refine wpList_arr24 8 rfl rfl rfl rfl (by decide) ?_; (conv => arg 5; simp only [Act.put, List.setIfInBounds_toArray, List.set_cons_succ, List.set_cons_zero])) | (refine wpList_ldmidN u131 s131 rfl rfl rfl rfl M1 List.mem_cons_self (by rw [HK.out.1]; decide) ?_; (conv => arg 5; simp only [Act.put, List.setIfInBounds_toArray, List.set_cons_succ, List.set_cons_zero])) | (refine wpList_bld (vs := #[]) b131z rfl rfl rfl ?_; (conv => arg 5; simp only [Act.put, List.setIfInBounds_toArray, List.set_cons_succ, List.set_cons_zero])) | (refine wpList_eq131 11 rfl rfl rfl rfl rfl (by rw [List.length_take, List.length_drop, HK.out.1]; rfl) rfl ?_; rw [H8.out]; (conv => arg 5; simp only [Act.put, List.setIfInBounds_toArray, List.set_cons_succ, List.set_cons_zero])))
    go_ret
    rw [HRES.out, decide_eq_decide.2 HI.out]
    refine ⟨?_, M1.sub (List.nil_sublist _)⟩
    rw [show decide (k.take 4 = [116, 101, 114, 109] ∧ k.drop 8 = List.replicate 24 0) = decide (k.drop 8 = zT) from decide_eq_decide.2 ⟨fun h => h.2, fun h => ⟨H4.out, h⟩⟩]
    rfl
  · have hq : ((strOfNums (k.take 4)).toList == [116, 101, 114, 109]) = false := by rw [HT.out, decide_eq_false h4]
    have H4 := hid h4
    clear h4
    go_enter Try.func73, Try.ntmps73
    go_wp2_with (first | (refine wpList_bxN 1 rfl rfl rfl rfl M0 (fun b1 w1 M1 => ?_); clear M0; (conv => arg 5; simp only [Act.put, List.setIfInBounds_toArray, List.set_cons_succ, List.set_cons_zero])) | (apply wpList_want; (· rfl)) | (refine wpList_cvS Try.underlying37 Try.underlying5 Try.underlying9 rfl rfl rfl M1 List.mem_cons_self (by rw [HK.out.1]; decide) ?_; rw [H0.out]; (conv => arg 5; simp only [Act.put, List.setIfInBounds_toArray, List.set_cons_succ, List.set_cons_zero])))
    go_ret
    rw [HRES.out, decide_eq_false (fun h => H4.out (HI.out.1 h).1)]
    exact ⟨rfl, M1.sub (List.nil_sublist _)⟩
end Go.Proofs.Ytcapfnbmmdbcoaa
namespace Go.Proofs.Ytcapfnbmmdbcoaa
open Go.RowKit
/-- A slice of steps, read. -/
def CksR (w : World) (A : Option Addr) (cs : List Ck) : Prop :=
  ∀ (i : Nat) (c : Ck), cs[i]? = some c → ∃ b off I ic, A = some ⟨b, off, none⟩ ∧ (∀ (j : Nat) (v : Value), (ckCells c I ic)[j]? = some v → w.cell? ⟨b, off + i * 36 + j, none⟩ = some v) ∧ RowC w I (nums .i64 c.keys) ∧ KeyOk c.raw
theorem CksR.mem {w0 w : World} {A : Option Addr} {cs : List Ck} {L : List Item} (h : CksR w0 A cs) (M : Mem w0 [] w L) : CksR w A cs := fun i c hi => by
  obtain ⟨b, off, I, ic, hA, hc, hr, hk⟩ := h i c hi
  exact ⟨b, off, I, ic, hA, M.cells0 hc, hr.mem M, hk⟩
def greatC (c : Ck) : Bool := decide (200 < c.text.size) || decide (10 < c.keys.length)
def greatL (cs : List Ck) : Bool := decide (60 < cs.length) || cs.any greatC
set_option maxRecDepth 100000 in
set_option maxHeartbeats 4000000 in
theorem great19 (A : Option Addr) (d : Nat) (cs : List Ck) (w : World) (h : CksR w A cs) : Calls Try.prog 19 #[.slice A cs.length d] w (BoolR (greatL cs) w) := by
  have M0 := Mem.start w
  have H := hid h
  clear h
  obtain ⟨res, hres⟩ : ∃ x, x = greatL cs := ⟨_, rfl⟩
  rw [← hres]
  have HRES := hid hres
  clear hres
  by_cases hl : 60 < cs.length
  · have hlI : (60 : Int) < (cs.length : Int) := by omega
    go_enter Try.func19, Try.ntmps19
    go_wp2_with fail
    go_ret
    rw [HRES.out, greatL, decide_eq_true hl]
    exact ⟨rfl, M0⟩
  · have hlI : ¬ (60 : Int) < (cs.length : Int) := by omega
    go_enter Try.func19, Try.ntmps19
    go_wp2_with fail
    go_loopw [3] (fun n wr => ∃ i : Nat, i ≤ cs.length ∧ n = .int .i64 i ∧ Mem w [] wr [] ∧ Hid ((cs.take i).any greatC = false)) (fun n _ => cs.length - (intOf n).toNat)
    case atStart => exact ⟨0, by omega, rfl, M0, hid rfl⟩
    case round =>
      obtain ⟨i, hi, rfl, Mi, HA⟩ := hrel
      clear M0
      by_cases hlt : i < cs.length
      · have hltI : (i : Int) < (cs.length : Int) := by omega
        obtain ⟨c, hce⟩ : ∃ c, cs[i]? = some c := ⟨cs[i], List.getElem?_eq_getElem hlt⟩
        obtain ⟨b, off, I, ic, rfl, hc, _⟩ := H.out i c hce
        have c2 := Mi.cell0 (hc 2 (.string c.text) rfl)
        have c3 := Mi.cell0 (hc 3 (.slice I c.keys.length ic) rfl)
        have HCE := hid hce
        clear hce hc
        by_cases h1 : 200 < c.text.size
        · have h1I : (200 : Int) < (c.text.size : Int) := by omega
          go_wp2_with (first | (apply wpList_want; (· rfl)))
          go_ret
          rw [HRES.out, greatL, show cs.any greatC = true from List.any_eq_true.2 ⟨c, List.mem_of_getElem? HCE.out, by simp [greatC, h1]⟩, Bool.or_true]
          exact ⟨rfl, Mi⟩
        · have h1I : ¬ (200 : Int) < (c.text.size : Int) := by omega
          by_cases h2 : 10 < c.keys.length
          · have h2I : (10 : Int) < (c.keys.length : Int) := by omega
            go_wp2_with (first | (apply wpList_want; (· rfl)))
            go_ret
            rw [HRES.out, greatL, show cs.any greatC = true from List.any_eq_true.2 ⟨c, List.mem_of_getElem? HCE.out, by simp [greatC, h2]⟩, Bool.or_true]
            exact ⟨rfl, Mi⟩
          · have h2I : ¬ (10 : Int) < (c.keys.length : Int) := by omega
            have HG := hid (show greatC c = false from by simp [greatC]; omega)
            go_wp2_with (first | (apply wpList_want; (· rfl)))
            go_round
            case rel =>
              refine ⟨i + 1, by omega, by go_num, Mi, hid ?_⟩
              obtain ⟨hl2, he⟩ := List.getElem?_eq_some_iff.1 HCE.out
              rw [List.take_succ_eq_append_getElem hl2, List.any_append, HA.out, he]
              simp [HG.out]
            case measure => simp [intOf]; omega
      · obtain rfl : i = cs.length := by omega
        go_wp2_with fail
        go_ret
        have h1 := HA.out
        rw [List.take_of_length_le (Nat.le_refl _)] at h1
        rw [HRES.out, greatL, decide_eq_false hl, h1]
        exact ⟨rfl, Mi⟩
end Go.Proofs.Ytcapfnbmmdbcoaa
namespace Go.Proofs.Ytcapfnbmmdbcoaa
open Go.RowKit
open Go.ChangeMaps (setBlock heap_setBlock_same heap_setBlock_other)
/-- How many keys a step needs. -/
def leastT (kind : Int) : Int := if kind = 4 then 1 else if kind = 5 then 2 else if kind = 6 then 2 else if kind = 7 then 3 else 0
def ent (k v : Int) (n : Nat) : MapEntry := ⟨.int .i64 k, .int .i64 v, n⟩
def needEs : List MapEntry := [ent 4 1 0, ent 5 2 1, ent 6 2 2, ent 7 3 3]
abbrev needO (n : Nat) : Obj := .map (needEs.take n).toArray n
theorem ki : Try.prog.underlying 122 = some (.map 3 3) := by kernel_rfl
theorem run_chk (w : World) (em : Bool) (x : Int) : (Instr.checkKey em 10000 3 (.int .i64 x)).run Try.prog w = .ok () w := by
  unfold Instr.checkKey
  simp [run_underlying Try.underlying3]
theorem run_ins (n : Nat) (k v : Int) (hf : Instr.findNow (.int .i64) (.int .i64 k) (needEs.take n) 0 = some none) (he : (needEs.take n) ++ [ent k v n] = needEs.take (n + 1)) {w : World} {b : Nat} (hb : w.heap[b]? = some (needO n)) :
    (Instr.mapUpdate 122 (.map (some b)) (.int .i64 k) (.int .i64 v)).run Try.prog w = .ok () (setBlock w b (needO (n + 1))) := by
  have h1 := MapKept.run_findKey (w := w) Try.underlying3 hf
  have h2 : ((needEs.take n).toArray.push (ent k v n)) = (needEs.take (n + 1)).toArray := by rw [← he]; simp
  unfold ent at h2
  simp [Instr.mapUpdate, run_underlying ki, MapKept.run_getObj_map hb, run_chk, h1, h2, MapKept.run_setObj_map _ hb, Result.andThen, setBlock]
theorem run_need (k : Int) {w : World} {b : Nat} (hb : w.heap[b]? = some (needO 4)) :
    (Instr.lookup 122 (.map (some b)) (.int .i64 k) false).run Try.prog w = .ok (.int .i64 (leastT k)) w := by
  have hz : ∀ u : World, (zeroValue 3).run Try.prog u = .ok (.int .i64 0) u := fun u => by kernel_rfl
  have key : ∀ r, Instr.findNow (.int .i64) (.int .i64 k) needEs 0 = some r → (r.map (·.2)).getD (.int .i64 0) = .int .i64 (leastT k) → (Instr.lookup 122 (.map (some b)) (.int .i64 k) false).run Try.prog w = .ok (.int .i64 (leastT k)) w := by
    intro r hr hv
    have h1 := MapKept.run_findKey (w := w) Try.underlying3 hr
    simp only [needEs] at h1
    cases r with
    | none =>
      simp only [Option.map_none, Option.getD_none] at hv
      simp [Instr.lookup, run_underlying ki, MapKept.run_getObj_map hb, run_chk, h1, hz, needEs, hv]
    | some q =>
      obtain ⟨i, v⟩ := q
      simp only [Option.map_some, Option.getD_some] at hv
      simp [Instr.lookup, run_underlying ki, MapKept.run_getObj_map hb, run_chk, h1, needEs, hv]
  by_cases h4 : k = 4
  · subst h4
    exact key (some (0, .int .i64 1)) (by kernel_rfl) rfl
  by_cases h5 : k = 5
  · subst h5
    exact key (some (1, .int .i64 2)) (by kernel_rfl) rfl
  by_cases h6 : k = 6
  · subst h6
    exact key (some (2, .int .i64 2)) (by kernel_rfl) rfl
  by_cases h7 : k = 7
  · subst h7
    exact key (some (3, .int .i64 3)) (by kernel_rfl) rfl
  refine key none ?_ ?_
  · have e4 : (k == 4) = false := by simpa using h4
    have e5 : (k == 5) = false := by simpa using h5
    have e6 : (k == 6) = false := by simpa using h6
    have e7 : (k == 7) = false := by simpa using h7
    simp only [Instr.findNow, Instr.sameNow, needEs, ent]
    rw [e4, e5, e6, e7]
    simp only [if_true]
  · simp [leastT, h4, h5, h6, h7]
section
variable {ops : Array Oper} {rest : List Oper} {o : Oper} {a : Act} {w w0 : World} {Q : Exit → Act → World → Prop} {L L' : List Item} {R : Res} {K0 : Nat → Prop}
theorem wpF_mkMap (m : Nat) (H : TF K0 R w0 w L) (hR : Ok R) (hm : o.dst = some m) (hgd : o.guard = none) {t : TypeId} (ho : o.op = .makeMap t none)
    (h : ∀ b w', TF K0 R w0 w' (.blk b (needO 0) :: L) → wpList Try.prog ops Q rest (a.put (some m) (.map (some b))) w') : wpList Try.prog ops Q (o :: rest) a w :=
  wpList_mkMap hgd ho H.reb fun b w' M => by rw [hm]; exact h b w' (H.step hR M)
theorem wpF_ins (n : Nat) (k v : Int) (hf : Instr.findNow (.int .i64) (.int .i64 k) (needEs.take n) 0 = some none) (he : (needEs.take n) ++ [ent k v n] = needEs.take (n + 1)) (hd : o.dst = none) (H : TF K0 R w0 w L) (hR : Ok R) (hgd : o.guard = none) {x y z : Operand} (ho : o.op = .insert 122 x y z) {b : Nat} (hx : a.eval x = .map (some b)) (hy : a.eval y = .int .i64 k) (hz : a.eval z = .int .i64 v)
    (hsw : Swap (.blk b (needO n)) (.blk b (needO (n + 1))) L L') (h : ∀ w', TF K0 R w0 w' L' → wpList Try.prog ops Q rest a w') : wpList Try.prog ops Q (o :: rest) a w :=
  wpList_plain hgd fun K hK => by
    unfold Oper.wp execOp
    simp only [ho, hx, hy, hz, Sem.run_bind, Sem.run_pure, Result.andThen_ok, run_ins n k v hf he (H.reb.holds _ hsw.mem)]
    refine hK _ _ ?_
    rw [hd]
    exact h _ (H.step hR (H.reb.setMap hsw))
theorem wpF_need (m : Nat) (H : TF K0 R w0 w L) (hm : o.dst = some m) (hgd : o.guard = none) {x y : Operand} (ho : o.op = .lookup 122 x y false) {b : Nat} (hx : a.eval x = .map (some b)) {k : Int} (hy : a.eval y = .int .i64 k) (hin : .blk b (needO 4) ∈ L)
    (h : wpList Try.prog ops Q rest (a.put (some m) (.int .i64 (leastT k))) w) : wpList Try.prog ops Q (o :: rest) a w :=
  wpList_plain hgd fun K hK => by
    unfold Oper.wp execOp
    simp only [ho, hx, hy, Sem.run_bind, Sem.run_pure, Result.andThen_ok, run_need k (H.holds _ hin)]
    refine hK _ _ ?_
    rw [hm]
    exact h
end
end Go.Proofs.Ytcapfnbmmdbcoaa
namespace Go.Proofs.Ytcapfnbmmdbcoaa
open Go.RowKit
/-- 'foe ' ahead of a text. -/
def foeS (s : ByteArray) : ByteArray := ⟨#[102, 111, 101, 32]⟩ ++ s
/-- A term is put: the list, and its name. -/
def putN (ts : List Tm) (t : Tm) : List Tm × List (List Int) := (putL ts t, [nm ts t])
def cookKind (ts : List Tm) (seen : List (List Int)) (c : Ck) (l : List (List Int)) : List Tm × List (List Int) :=
  if c.kind = 1 then (ts, if inR seen c.n then [getK seen c.n] else [])
  else if c.kind = 2 then putN ts ⟨1, foeS c.text, []⟩
  else if c.kind = 3 then putN ts ⟨2, c.text, l⟩
  else if c.kind = 4 then putN ts ⟨3, ⟨#[]⟩, [l.getD 0 []]⟩
  else if c.kind = 5 then (if l.getD 1 [] = zK then (ts, []) else putN ts (agreeT ts (l.getD 0 []) (l.getD 1 [])))
  else if c.kind = 6 then putN ts ⟨6, c.text, l.getD 0 [] :: l.getD 1 [] :: l.drop 2⟩
  else if c.kind = 7 then (ts, match openM ts (l.getD 0 []) (l.getD 1 []) (strOfNums (l.getD 2 [])) with | some (_, ks) => ks | none => [])
  else if c.kind = 8 then (ts, if nameL (numK c.raw) = c.raw then [] else [c.raw])
  else (ts, [])
/-- A step of the stranger. -/
def cookT (ts : List Tm) (seen made : List (List Int)) (c : Ck) : List Tm × List (List Int) :=
  match namedL made c.keys with
  | none => (ts, [])
  | some l => if leastT c.kind ≤ (l.length : Int) then cookKind ts seen c l else (ts, [])
/-- What a step leaves. -/
def CookR (K : Nat → Prop) (p g : Nat) (S : Value) (made : List (List Int)) (w : World) (r : List Tm × List (List Int)) (e : Ending) (w' : World) : Prop :=
  ∃ L2, (e = .returned (.tuple #[]) ∧ L2 = []) ∧ TF K (starR (tabR g r.1) (potR p g S (made ++ r.2))) w w' L2
theorem CookR.none {K : Nat → Prop} {p g : Nat} {S : Value} {made : List (List Int)} {w w' : World} {ts : List Tm} {L : List Item} (H : TF K (starR (tabR g ts) (potR p g S made)) w w' L) : CookR K p g S made w (ts, []) (.returned (.tuple #[])) w' :=
  ⟨[], ⟨rfl, rfl⟩, by rw [List.append_nil]; exact H.sub (List.nil_sublist _)⟩
theorem sz55 {c : Ck} {I : Option Addr} {ic : Nat} (h : CkOk c) : (Try.prog.info? 55).map (·.size) = some (ckCells c I ic).length := by
  rw [ckCells, List.length_append, nums_length, h.raw.1]
  kernel_rfl
theorem TF.cellC {K0 : Nat → Prop} {P : Res} {w0 w : World} {L : List Item} (h : TF K0 P w0 w L) {t : TypeId} {cs : List Value} {b : Nat} (hin : Item.blk b (cellsO t cs) ∈ L) : ∀ (j : Nat) (v : Value), cs[j]? = some v → w.cell? ⟨b, 0 + j, .none⟩ = some v := fun j v hv => by
  rw [Nat.zero_add, cell_of_row w b j cs.toArray t (0, 0) (h.holds _ hin)]
  simpa using hv
/-- The callee 71 under TF. -/
theorem named71T {K0 : Nat → Prop} {Q : Res} {w0 w : World} {L : List Item} {p g : Nat} {S : Value} {made : List (List Int)} (H : TF K0 (starR Q (potR p g S made)) w0 w L) (hm : made.length ≤ 100000) {c : Ck} {I : Option Addr} {ic : Nat} (hc : CkOk c) (hI : RowC w I (nums .i64 c.keys)) (least : Int) :
    Calls Try.prog 71 #[.pointer (some ⟨p, 0, .none⟩), .agg (ckCells c I ic).toArray, .int .i64 least] w (NamedR w least (namedL made c.keys)) := by
  obtain ⟨K, ⟨K1, K2, _, a2, _⟩, _⟩ := H.ex
  exact named71 a2 hm hc hI least
end Go.Proofs.Ytcapfnbmmdbcoaa
namespace Go.Proofs.Ytcapfnbmmdbcoaa
open Go.RowKit
theorem TF.row {K0 : Nat → Prop} {P : Res} {w0 w : World} {L : List Item} (h : TF K0 P w0 w L) {t : TypeId} {A : Option Addr} {vs : List Value} (hr : RowT w0 t A vs) (hA : ∀ ad, A = some ad → ¬ K0 ad.block) : RowT w t A vs := fun i v hi => by
  obtain ⟨b, off, arr, m, rfl, hh, hv⟩ := hr i v hi
  exact ⟨b, off, arr, m, rfl, by rw [h.old b (Array.getElem?_eq_some_iff.1 hh).1 (hA _ rfl), hh], hv⟩
/-- What stands when a step begins. -/
structure StepP (K : Nat → Prop) (w : World) (p g : Nat) (ts : List Tm) (seen made : List (List Int)) (SA : Option Addr) (sc : Nat) (c : Ck) (I : Option Addr) (ic : Nat) : Prop where
  res : starR (tabR g ts) (potR p g (.slice SA seen.length sc) made) K w
  lt : ∀ b, K b → b < w.heap.size
  tw : ∀ t ∈ ts, TmW t
  tl : ts.length ≤ 800000
  ml : made.length ≤ 100000
  sk : ∀ k ∈ seen, KeyOk k
  sr : RowT w 26 SA (nums .u8 seen.flatten)
  sn : ∀ ad, SA = some ad → ¬ K ad.block
  ck : CkOk c
  ir : RowC w I (nums .i64 c.keys)
  inn : nums .i64 c.keys ≠ [] → ∀ ad, I = some ad → ¬ K ad.block
theorem named71N {K0 : Nat → Prop} {Q : Res} {w0 w : World} {L : List Item} {p g : Nat} {S : Value} {made : List (List Int)} (H : TF K0 (starR Q (potR p g S made)) w0 w L) (hm : made.length ≤ 100000) {c : Ck} {I : Option Addr} {ic : Nat} (hc : CkOk c) (hI : RowC w I (nums .i64 c.keys)) (hn : namedL made c.keys = none) (least : Int) :
    Calls Try.prog 71 #[.pointer (some ⟨p, 0, .none⟩), .agg (ckCells c I ic).toArray, .int .i64 least] w fun e w' => e = .returned (.tuple #[.slice none 0 0, .bool false]) ∧ Mem w [] w' [] :=
  (named71T H hm hc hI least).mono fun e w' h => by rw [hn] at h; exact h
theorem named71S {K0 : Nat → Prop} {Q : Res} {w0 w : World} {L : List Item} {p g : Nat} {S : Value} {made : List (List Int)} (H : TF K0 (starR Q (potR p g S made)) w0 w L) (hm : made.length ≤ 100000) {c : Ck} {I : Option Addr} {ic : Nat} (hc : CkOk c) (hI : RowC w I (nums .i64 c.keys)) {l : List (List Int)} {b : Bool} {least : Int} (hn : namedL made c.keys = some l ∧ decide (least ≤ (l.length : Int)) = b) :
    Calls Try.prog 71 #[.pointer (some ⟨p, 0, .none⟩), .agg (ckCells c I ic).toArray, .int .i64 least] w fun e w' => ∃ B d, e = .returned (.tuple #[.slice B l.length d, .bool b]) ∧ Mem w [] w' [.vec B l.length d 26 32 (nums .u8 l.flatten)] :=
  (named71T H hm hc hI least).mono fun e w' h => by rw [hn.1] at h; rw [← hn.2]; exact h
set_option maxRecDepth 100000 in
set_option maxHeartbeats 4000000 in
theorem step48_a {K : Nat → Prop} {w : World} {p g : Nat} {ts : List Tm} {seen made : List (List Int)} {SA : Option Addr} {sc : Nat} {c : Ck} {I : Option Addr} {ic : Nat} (h : StepP K w p g ts seen made SA sc c I ic) (hnone : ∀ l, namedL made c.keys = some l → ¬ leastT c.kind ≤ (l.length : Int)) :
    Calls Try.prog 48 #[.pointer (some ⟨p, 0, none⟩), .agg (ckCells c I ic).toArray] w (CookR K p g (.slice SA seen.length sc) made w (ts, [])) := by
  have H := TF.start h.res h.lt
  have HR := hid ((tabR_ok g ts).star (potR_ok p g (.slice SA seen.length sc) made))
  have hs := hid h
  cases hc : namedL made c.keys with
  | none =>
    have hn := hid hc
    clear h hnone hc
    go_enter Try.func48, Try.ntmps48
    go_wp2_with (first | (refine wpF_bxC (cs := ckCells c I ic) 3 H HR.out rfl rfl rfl rfl (fun b3 w1 H1 => ?_); clear H; (conv => arg 5; simp only [Act.put, List.setIfInBounds_toArray, List.set_cons_succ, List.set_cons_zero])) | (refine wpF_mkMap 12 H1 HR.out rfl rfl rfl (fun b12 w2 H2 => ?_); clear H1; (conv => arg 5; simp only [Act.put, List.setIfInBounds_toArray, List.set_cons_succ, List.set_cons_zero])) | (refine wpF_ins 0 4 1 (by kernel_rfl) rfl rfl H2 HR.out rfl rfl rfl rfl rfl Swap.head (fun w3 H3 => ?_); clear H2; (conv => arg 5; simp only [Act.put, List.setIfInBounds_toArray, List.set_cons_succ, List.set_cons_zero])) | (refine wpF_ins 1 5 2 (by kernel_rfl) rfl rfl H3 HR.out rfl rfl rfl rfl rfl Swap.head (fun w4 H4 => ?_); clear H3; (conv => arg 5; simp only [Act.put, List.setIfInBounds_toArray, List.set_cons_succ, List.set_cons_zero])) | (refine wpF_ins 2 6 2 (by kernel_rfl) rfl rfl H4 HR.out rfl rfl rfl rfl rfl Swap.head (fun w5 H5 => ?_); clear H4; (conv => arg 5; simp only [Act.put, List.setIfInBounds_toArray, List.set_cons_succ, List.set_cons_zero])) | (refine wpF_ins 3 7 3 (by kernel_rfl) rfl rfl H5 HR.out rfl rfl rfl rfl rfl Swap.head (fun w6 H6 => ?_); clear H5; have c0 := H6.cellC (List.mem_cons_of_mem _ List.mem_cons_self) 0 _ rfl; (conv => arg 5; simp only [Act.put, List.setIfInBounds_toArray, List.set_cons_succ, List.set_cons_zero])) | (refine wpList_ldagg 16 rfl Try.underlying55 rfl rfl rfl rfl (H6.cellC (List.mem_cons_of_mem _ List.mem_cons_self)) (sz55 hs.out.ck) ?_; (conv => arg 5; simp only [Act.put, List.setIfInBounds_toArray, List.set_cons_succ, List.set_cons_zero])) | (refine wpF_need 20 H6 rfl rfl rfl rfl rfl List.mem_cons_self ?_; (conv => arg 5; simp only [Act.put, List.setIfInBounds_toArray, List.set_cons_succ, List.set_cons_zero])) | (refine (named71N H6 hs.out.ml hs.out.ck (H6.rowC hs.out.ir hs.out.inn) hn.out _).mono ?_; rintro e w7 ⟨rfl, M7⟩; have H7 := H6.call0 HR.out M7; clear H6 c0))
    go_end0
    exact CookR.none H7
  | some l =>
    have hn := hid (And.intro hc (decide_eq_false (hnone l hc)))
    clear h hnone hc
    go_enter Try.func48, Try.ntmps48
    go_wp2_with (first | (refine wpF_bxC (cs := ckCells c I ic) 3 H HR.out rfl rfl rfl rfl (fun b3 w1 H1 => ?_); clear H; (conv => arg 5; simp only [Act.put, List.setIfInBounds_toArray, List.set_cons_succ, List.set_cons_zero])) | (refine wpF_mkMap 12 H1 HR.out rfl rfl rfl (fun b12 w2 H2 => ?_); clear H1; (conv => arg 5; simp only [Act.put, List.setIfInBounds_toArray, List.set_cons_succ, List.set_cons_zero])) | (refine wpF_ins 0 4 1 (by kernel_rfl) rfl rfl H2 HR.out rfl rfl rfl rfl rfl Swap.head (fun w3 H3 => ?_); clear H2; (conv => arg 5; simp only [Act.put, List.setIfInBounds_toArray, List.set_cons_succ, List.set_cons_zero])) | (refine wpF_ins 1 5 2 (by kernel_rfl) rfl rfl H3 HR.out rfl rfl rfl rfl rfl Swap.head (fun w4 H4 => ?_); clear H3; (conv => arg 5; simp only [Act.put, List.setIfInBounds_toArray, List.set_cons_succ, List.set_cons_zero])) | (refine wpF_ins 2 6 2 (by kernel_rfl) rfl rfl H4 HR.out rfl rfl rfl rfl rfl Swap.head (fun w5 H5 => ?_); clear H4; (conv => arg 5; simp only [Act.put, List.setIfInBounds_toArray, List.set_cons_succ, List.set_cons_zero])) | (refine wpF_ins 3 7 3 (by kernel_rfl) rfl rfl H5 HR.out rfl rfl rfl rfl rfl Swap.head (fun w6 H6 => ?_); clear H5; have c0 := H6.cellC (List.mem_cons_of_mem _ List.mem_cons_self) 0 _ rfl; (conv => arg 5; simp only [Act.put, List.setIfInBounds_toArray, List.set_cons_succ, List.set_cons_zero])) | (refine wpList_ldagg 16 rfl Try.underlying55 rfl rfl rfl rfl (H6.cellC (List.mem_cons_of_mem _ List.mem_cons_self)) (sz55 hs.out.ck) ?_; (conv => arg 5; simp only [Act.put, List.setIfInBounds_toArray, List.set_cons_succ, List.set_cons_zero])) | (refine wpF_need 20 H6 rfl rfl rfl rfl rfl List.mem_cons_self ?_; (conv => arg 5; simp only [Act.put, List.setIfInBounds_toArray, List.set_cons_succ, List.set_cons_zero])) | (refine (named71S H6 hs.out.ml hs.out.ck (H6.rowC hs.out.ir hs.out.inn) hn.out).mono ?_; rintro e w7 ⟨B, d, rfl, M7⟩; have H7 := H6.call HR.out M7; clear H6 c0))
    go_end0
    exact CookR.none H7
end Go.Proofs.Ytcapfnbmmdbcoaa
