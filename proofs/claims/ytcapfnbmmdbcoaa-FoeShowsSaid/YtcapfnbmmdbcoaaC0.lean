/- Memory: some cells in the middle of a block; copy. Plain laws; no program is named. -/
import Derived.Test.YtcapfnbmmdbcoaaM11
set_option linter.unusedVariables false
set_option linter.unusedSimpArgs false
namespace Go.Proofs.Ytcapfnbmmdbcoaa
open Go.RowKit
section
variable {P : Program} {ops : Array Oper} {rest : List Oper} {o : Oper} {a : Act} {w w0 : World} {Q : Exit → Act → World → Prop} {E : List Nat} {L L' : List Item}
theorem heap_setCells_mid (t : TypeId) (post : List Value) (g : Nat) : ∀ (vs us pre : List Value) (w : World) (off : Nat), off = pre.length → us.length = vs.length → w.heap[g]? = some (cellsO t (pre ++ us ++ post)) →
    (w.setCells g off vs).heap[g]? = some (cellsO t (pre ++ vs ++ post)) ∧ w.grownBy (w.setCells g off vs) (some g)
  | [], us, pre, w, off, _, hl, h => by
    obtain rfl : us = [] := List.length_eq_zero_iff.1 hl
    exact ⟨h, grownBy_refl _ _⟩
  | v :: vs, [], pre, w, off, _, hl, h => by simp at hl
  | v :: vs, u :: us, pre, w, off, ho, hl, h => by
    have h1 := heap_setCell_at w g off (pre ++ u :: us ++ post) t v h
    have e1 : (pre ++ u :: us ++ post).set off v = (pre ++ [v]) ++ us ++ post := by
      subst ho
      simp
    rw [e1] at h1
    have h2 := heap_setCells_mid t post g vs us (pre ++ [v]) (w.setCell ⟨g, off, none⟩ v) (off + 1) (by simp [ho]) (by simpa using hl) h1
    have e2 : pre ++ [v] ++ vs ++ post = pre ++ v :: vs ++ post := by simp
    rw [e2] at h2
    exact ⟨h2.1, (grown_setCell w g off v).trans h2.2⟩
/-- Some cells in the middle of a block are written. -/
theorem Mem.setCells {g off : Nat} {t : TypeId} {pre us vs post : List Value} (M : Mem w0 E w L) (hs : Swap (.blk g (cellsO t (pre ++ us ++ post))) (.blk g (cellsO t (pre ++ vs ++ post))) L L') (ho : off = pre.length) (hl : us.length = vs.length) :
    Mem w0 E (w.setCells g off vs) L' :=
  have h := heap_setCells_mid t post g vs us pre w off ho hl (M.holds _ hs.mem)
  M.swap hs h.2 (.inr rfl) h.1 (fun b hb => .inl hb)
theorem Mem.range (M : Mem w0 E w L) {g off : Nat} {t : TypeId} {pre us post : List Value} (hin : .blk g (cellsO t (pre ++ us ++ post)) ∈ L) (ho : off = pre.length) : w.rangeAt g off us := fun j v hv => by
  refine M.cell hin ?_
  have hj := (List.getElem?_eq_some_iff.1 hv).1
  rw [List.getElem?_append_left (by simp; omega), List.getElem?_append_right (by omega), show off + j - pre.length = j from by omega, hv]
/-- copy(d, s) within blocks that are known. -/
theorem wpList_cp (pre us vs post pre2 post2 : List Value) {dT sT e : TypeId} (hu : P.underlying dT = some (.slice e)) (hsz : (P.info? e).map (·.size) = some 1) (hgd : o.guard = none) {d s : Operand}
    (ho : o.op = .call { callee := .builtin .copy, args := #[d, s], argTypes := #[dT, sT] }) {g off dLen dCap gs os sLen sCap : Nat} (hd : a.eval d = .slice (some ⟨g, off, none⟩) dLen dCap) (hs : a.eval s = .slice (some ⟨gs, os, none⟩) sLen sCap)
    (M : Mem w0 E w L) {t ts : TypeId} (hsw : Swap (.blk g (cellsO t (pre ++ us ++ post))) (.blk g (cellsO t (pre ++ vs ++ post))) L L') (hin : .blk gs (cellsO ts (pre2 ++ vs ++ post2)) ∈ L)
    (hoff : off = pre.length) (hos : os = pre2.length) (hl : us.length = vs.length) (hn : vs.length = Nat.min sLen dLen) (h1 : ∀ v ∈ vs, v.oneCell' = true)
    (h : ∀ w', Mem w0 E w' L' → wpList P ops Q rest (a.put o.dst (goInt vs.length)) w') : wpList P ops Q (o :: rest) a w :=
  wpList_plain hgd fun K hK => by
    have hsrc : ∀ j v, vs[j]? = some v → w.cell? ((⟨gs, os, none⟩ : Addr).add j) = some v := fun j v hv => by
      rw [Addr.add_mid]
      exact M.range hin hos j v hv
    have hc : ∀ j, j < vs.length → w.cell? ⟨g, off + j, none⟩ = some (us.getD j undef) := fun j hj => by
      have e : us[j]? = some (us.getD j undef) := by rw [List.getD_eq_getElem?_getD, List.getElem?_eq_getElem (by omega)]; rfl
      exact M.range hsw.mem hoff j _ e
    have hr := run_copy_cells (P := P) w dT sT o.type e g off dLen dCap ⟨gs, os, none⟩ sLen sCap vs hu hsz hn hsrc (fun j hj => by rw [hc j hj]; rfl) (fun j hj => M.free hsw.mem _) h1
    unfold Oper.wp execOp
    simp only [ho, resolve, invoke, builtin, Sem.run_bind, Sem.run_pure, Result.andThen_ok, List.map_toArray, List.map_cons, List.map_nil, hd, hs, hr]
    exact hK _ _ (h _ (M.setCells hsw hoff hl))
theorem extract_nums (s : ByteArray) (n : Nat) : nums .u8 ((bytesOf s).take n) = (s.data.toList.map fun x => Value.int .u8 (x.toNat : Int)).take n := by
  simp [nums, bytesOf, List.map_take]
  rfl
theorem wpList_cpS (n : Nat) (pre us post : List Value) {dT sT e : TypeId} (hu : P.underlying dT = some (.slice e)) (hsz : (P.info? e).map (·.size) = some 1) (hgd : o.guard = none) {d x : Operand}
    (ho : o.op = .call { callee := .builtin .copy, args := #[d, x], argTypes := #[dT, sT] }) {g off dLen dCap : Nat} (hd : a.eval d = .slice (some ⟨g, off, none⟩) dLen dCap) {s : ByteArray} (hx : a.eval x = .string s)
    (M : Mem w0 E w L) {t : TypeId} (hn : n = Nat.min s.size dLen) (hsw : Swap (.blk g (cellsO t (pre ++ us ++ post))) (.blk g (cellsO t (pre ++ nums .u8 ((bytesOf s).take n) ++ post))) L L')
    (hoff : off = pre.length) (hl : us.length = n)
    (h : ∀ w', Mem w0 E w' L' → wpList P ops Q rest (a.put o.dst (goInt n)) w') : wpList P ops Q (o :: rest) a w :=
  wpList_plain hgd fun K hK => by
    have hvl : (nums .u8 ((bytesOf s).take n)).length = n := by
      have : n ≤ s.size := by rw [hn]; exact Nat.min_le_left _ _
      rw [nums_length, List.length_take, bytesOf_length]
      omega
    have hc : ∀ j, j < n → w.cell? ⟨g, off + j, none⟩ = some (us.getD j undef) := fun j hj => by
      have e : us[j]? = some (us.getD j undef) := by rw [List.getD_eq_getElem?_getD, List.getElem?_eq_getElem (by omega)]; rfl
      exact M.range hsw.mem hoff j _ e
    have hst := run_storeCells_cells (P := P) g off (nums .u8 ((bytesOf s).take n)) 0 w (by rw [hvl]; intro j hj; rw [Nat.add_zero, hc j hj]; rfl) (by rw [hvl]; intro j hj; rw [Nat.add_zero]; exact M.free hsw.mem _) (by
      intro v hv
      obtain ⟨z, _, rfl⟩ := List.mem_map.1 hv
      rfl)
    have hr : (Builtin.copy_ #[dT, sT] o.type #[.slice (some ⟨g, off, none⟩) dLen dCap, .string s]).run P w = .ok (goInt n) (w.setCells g off (nums .u8 ((bytesOf s).take n))) := by
      cases hq : P.info? e with
      | none => simp [hq] at hsz
      | some i =>
        have hi : i.size = 1 := by simpa [hq] using hsz
        have he := extract_nums s n
        rw [he] at hst ⊢
        rw [Nat.add_zero] at hst
        simp [Builtin.copy_, run_underlying hu, Builtin.lenOf, Builtin.firstCells, sizeOf, typeInfo, hq, hi, ← hn, hst]
    unfold Oper.wp execOp
    simp only [ho, resolve, invoke, builtin, Sem.run_bind, Sem.run_pure, Result.andThen_ok, List.map_toArray, List.map_cons, List.map_nil, hd, hx, hr]
    exact hK _ _ (h _ (M.setCells hsw hoff (by rw [hl, hvl])))
end
theorem pairwise_join {α : Type} {R : α → α → Prop} : ∀ {L2 L : List α}, L2.Pairwise R → L.Pairwise R → (∀ x ∈ L2, ∀ y ∈ L, R x y) → (L2 ++ L).Pairwise R
  | [], L, _, h, _ => h
  | x :: L2, L, h2, h, hx => by
    obtain ⟨h3, h4⟩ := List.pairwise_cons.1 h2
    refine List.pairwise_cons.2 ⟨fun y hy => ?_, pairwise_join h4 h (fun a ha b hb => hx a (by simp [ha]) b hb)⟩
    rcases List.mem_append.1 hy with hy | hy
    · exact h3 y hy
    · exact hx x (by simp) y hy
/-- What a callee made joins what was known. -/
theorem Mem.join {w0 w w' : World} {E : List Nat} {L L2 : List Item} (M : Mem w0 E w L) (M2 : Mem w [] w' L2) : Mem w0 E w' (L2 ++ L) := by
  have M' := M.call M2.below
  have fr : ∀ x ∈ L2, ∀ b, x.block = some b → w.heap.size ≤ b := fun x hx b hb => (M2.fresh x hx b hb).resolve_left (by simp)
  refine ⟨M'.os, M'.tape, M'.output, M'.size, M'.old, ?_, ?_, ?_⟩
  · intro x hx
    rcases List.mem_append.1 hx with hx | hx
    · exact M2.holds x hx
    · exact M'.holds x hx
  · intro x hx b hb
    rcases List.mem_append.1 hx with hx | hx
    · exact .inr (Nat.le_trans M.size (fr x hx b hb))
    · exact M.fresh x hx b hb
  · refine pairwise_join M2.apart M.apart fun x hx y hy b hb e => ?_
    have h1 := fr x hx b hb
    have h2 := Item.lt (M.holds y hy) e
    omega
section
variable {P : Program} {ops : Array Oper} {rest : List Oper} {o : Oper} {a : Act} {w w0 : World} {Q : Exit → Act → World → Prop} {E : List Nat} {L L' : List Item}
/-- As wpList_cpS and wpList_cp, the slot named. -/
theorem wpList_cpSm (m : Nat) (hm : o.dst = some m) (n : Nat) (pre us post : List Value) {dT sT e : TypeId} (hu : P.underlying dT = some (.slice e)) (hsz : (P.info? e).map (·.size) = some 1) (hgd : o.guard = none) {d x : Operand}
    (ho : o.op = .call { callee := .builtin .copy, args := #[d, x], argTypes := #[dT, sT] }) {g off dLen dCap : Nat} (hd : a.eval d = .slice (some ⟨g, off, none⟩) dLen dCap) {s : ByteArray} (hx : a.eval x = .string s)
    (M : Mem w0 E w L) {t : TypeId} (hn : n = Nat.min s.size dLen) (hsw : Swap (.blk g (cellsO t (pre ++ us ++ post))) (.blk g (cellsO t (pre ++ nums .u8 ((bytesOf s).take n) ++ post))) L L')
    (hoff : off = pre.length) (hl : us.length = n)
    (h : ∀ w', Mem w0 E w' L' → wpList P ops Q rest (a.put (some m) (goInt n)) w') : wpList P ops Q (o :: rest) a w :=
  wpList_cpS n pre us post hu hsz hgd ho hd hx M hn hsw hoff hl (by rw [hm]; exact h)
theorem wpList_cpm (m : Nat) (hm : o.dst = some m) (pre us vs post pre2 post2 : List Value) {dT sT e : TypeId} (hu : P.underlying dT = some (.slice e)) (hsz : (P.info? e).map (·.size) = some 1) (hgd : o.guard = none) {d s : Operand}
    (ho : o.op = .call { callee := .builtin .copy, args := #[d, s], argTypes := #[dT, sT] }) {g off dLen dCap gs os sLen sCap : Nat} (hd : a.eval d = .slice (some ⟨g, off, none⟩) dLen dCap) (hs : a.eval s = .slice (some ⟨gs, os, none⟩) sLen sCap)
    (M : Mem w0 E w L) {t ts : TypeId} (hsw : Swap (.blk g (cellsO t (pre ++ us ++ post))) (.blk g (cellsO t (pre ++ vs ++ post))) L L') (hin : .blk gs (cellsO ts (pre2 ++ vs ++ post2)) ∈ L)
    (hoff : off = pre.length) (hos : os = pre2.length) (hl : us.length = vs.length) (hn : vs.length = Nat.min sLen dLen) (h1 : ∀ v ∈ vs, v.oneCell' = true)
    (h : ∀ w', Mem w0 E w' L' → wpList P ops Q rest (a.put (some m) (goInt vs.length)) w') : wpList P ops Q (o :: rest) a w :=
  wpList_cp pre us vs post pre2 post2 hu hsz hgd ho hd hs M hsw hin hoff hos hl hn h1 (by rw [hm]; exact h)
end
end Go.Proofs.Ytcapfnbmmdbcoaa
