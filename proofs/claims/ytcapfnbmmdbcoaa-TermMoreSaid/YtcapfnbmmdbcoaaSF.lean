/- More on what a call owns: calls in general form; parts that turn about; what was made out of nothing. -/
import Derived.Test.YtcapfnbmmdbcoaaDB
import Derived.Test.YtcapfnbmmdbcoaaSC
import Derived.Test.YtcapfnbmmdbcoaaSE
import Derived.Test.YtcapfnbmmdbcoaaO
import Derived.Deep.Slices
import Derived.Deep.Fields
import Derived.ChangeSame
import Derived.ChangeSlices
import Derived.OpenShut
set_option linter.unusedVariables false
set_option linter.unusedSimpArgs false
namespace Go.Proofs.Ytcapfnbmmdbcoaa
open Go.RowKit
section
variable {K K0 : Nat → Prop} {P P' Q Q' R : Res} {w0 w w' : World} {L L' L2 : List Item}
/-- A call on the whole thing; its contract may be of any form. -/
theorem TF.go {Pr : Program} {f : FuncId} {args : Array Value} {Post : (Nat → Prop) → Ending → World → Prop} (h : TF K0 P w0 w L)
    (hc : ∀ K : Nat → Prop, P K w → (∀ b, K b → b < w.heap.size) → (∀ b, K b → K0 b ∨ w0.heap.size ≤ b) → (∀ x ∈ L, ∀ b, x.block = some b → ¬ K b) → Calls Pr f args w (Post K)) :
    Calls Pr f args w fun e w' => ∃ K, Post K e w' ∧ ∀ P' L2, TF K P' w w' L2 → TF K0 P' w0 w' (L2 ++ L) := by
  obtain ⟨K, a1, a2, a3⟩ := h.ex
  exact (hc K a1 (fun b hb => (a2 b hb).2) (fun b hb => (a2 b hb).1) a3).mono fun e w' he => ⟨K, he, fun P' L2 F => h.turn a3 a2 F⟩
/-- A call on the left part. -/
theorem TF.goL {Pr : Program} {f : FuncId} {args : Array Value} {Post : (Nat → Prop) → Ending → World → Prop} (h : TF K0 (starR P Q) w0 w L) (hQ : Ok Q)
    (hc : ∀ K : Nat → Prop, P K w → (∀ b, K b → b < w.heap.size) → (∀ b, K b → K0 b ∨ w0.heap.size ≤ b) → (∀ x ∈ L, ∀ b, x.block = some b → ¬ K b) → (∀ K2, Q K2 w → True) → Calls Pr f args w (Post K)) :
    Calls Pr f args w fun e w' => ∃ K, Post K e w' ∧ ∀ P' L2, TF K P' w w' L2 → TF K0 (starR P' Q) w0 w' (L2 ++ L) := by
  obtain ⟨K, ⟨K1, K2, b1, b2, b3, b4, b5⟩, a2, a3⟩ := h.ex
  have hlt : ∀ b, K b → b < w.heap.size := fun b hb => (a2 b hb).2
  refine (hc K1 b1 (fun b hb => hlt b (b3 b hb)) (fun b hb => (a2 b (b3 b hb)).1) (fun x hx b hxb hb => a3 x hx b hxb (b3 b hb)) (fun _ _ => trivial)).mono fun e w' he => ⟨K1, he, fun P' L2 F => ?_⟩
  exact h.turn a3 a2 (TF.star (K0 := K2) b2 F hQ b2 b3 b4 b5 hlt)
/-- A call on the left part that looks at the right one. -/
theorem TF.goLR {Pr : Program} {f : FuncId} {args : Array Value} {Post : (Nat → Prop) → Ending → World → Prop} (h : TF K0 (starR P Q) w0 w L) (hQ : Ok Q)
    (hc : ∀ K K2 : Nat → Prop, P K w → Q K2 w → (∀ b, K b → ¬ K2 b) → (∀ b, K b → b < w.heap.size) → (∀ b, K b → K0 b ∨ w0.heap.size ≤ b) → (∀ x ∈ L, ∀ b, x.block = some b → ¬ K b) → Calls Pr f args w (Post K)) :
    Calls Pr f args w fun e w' => ∃ K, Post K e w' ∧ ∀ P' L2, TF K P' w w' L2 → TF K0 (starR P' Q) w0 w' (L2 ++ L) := by
  obtain ⟨K, ⟨K1, K2, b1, b2, b3, b4, b5⟩, a2, a3⟩ := h.ex
  have hlt : ∀ b, K b → b < w.heap.size := fun b hb => (a2 b hb).2
  refine (hc K1 K2 b1 b2 b5 (fun b hb => hlt b (b3 b hb)) (fun b hb => (a2 b (b3 b hb)).1) (fun x hx b hxb hb => a3 x hx b hxb (b3 b hb))).mono fun e w' he => ⟨K1, he, fun P' L2 F => ?_⟩
  exact h.turn a3 a2 (TF.star (K0 := K2) b2 F hQ b2 b3 b4 b5 hlt)
theorem starR_swap (h : starR P (starR Q R) K w) : starR Q (starR P R) K w := by
  obtain ⟨K1, K2, a1, ⟨K3, K4, b1, b2, b3, b4, b5⟩, a3, a4, a5⟩ := h
  refine ⟨K3, fun b => K1 b ∨ K4 b, b1, ⟨K1, K4, a1, b2, fun b h => .inl h, fun b h => .inr h, fun b h h2 => a5 b h (b4 b h2)⟩, fun b h => a4 b (b3 b h), fun b h => h.elim (a3 b) (fun h => a4 b (b4 b h)), fun b h h2 => ?_⟩
  rcases h2 with h2 | h2
  · exact a5 b h2 (b3 b h)
  · exact b5 b h h2
theorem starR_assoc (h : starR (starR P Q) R K w) : starR P (starR Q R) K w := by
  obtain ⟨K1, K2, ⟨K3, K4, b1, b2, b3, b4, b5⟩, a2, a3, a4, a5⟩ := h
  refine ⟨K3, fun b => K4 b ∨ K2 b, b1, ⟨K4, K2, b2, a2, fun b h => .inl h, fun b h => .inr h, fun b h h2 => a5 b (b4 b h) h2⟩, fun b h => a3 b (b3 b h), fun b h => h.elim (fun h => a3 b (b4 b h)) (a4 b), fun b h h2 => ?_⟩
  rcases h2 with h2 | h2
  · exact b5 b h h2
  · exact a5 b (b3 b h) h2
theorem starR_assoc' (h : starR P (starR Q R) K w) : starR (starR P Q) R K w := by
  obtain ⟨K1, K2, a1, ⟨K3, K4, b1, b2, b3, b4, b5⟩, a3, a4, a5⟩ := h
  refine ⟨fun b => K1 b ∨ K3 b, K4, ⟨K1, K3, a1, b1, fun b h => .inl h, fun b h => .inr h, fun b h h2 => a5 b h (b3 b h2)⟩, b2, fun b h => h.elim (a3 b) (fun h => a4 b (b3 b h)), fun b h => a4 b (b4 b h), fun b h h2 => ?_⟩
  rcases h with h | h
  · exact a5 b h (b4 b h2)
  · exact b5 b h h2
theorem TF.map (h : TF K0 P w0 w L) (f : ∀ K : Nat → Prop, P K w → Q K w) : TF K0 Q w0 w L := by
  obtain ⟨K, a1, a2, a3⟩ := h.ex
  exact ⟨h.os, h.tape, h.output, h.size, h.lt0, ⟨K, f K a1, a2, a3⟩, h.old, h.holds, h.fresh, h.apart⟩
theorem TF.perm (h : TF K0 P w0 w L) (hp : L.Perm L') : TF K0 P w0 w L' := by
  obtain ⟨K, a1, a2, a3⟩ := h.ex
  exact ⟨h.os, h.tape, h.output, h.size, h.lt0, ⟨K, a1, a2, fun x hx => a3 x (hp.mem_iff.2 hx)⟩, h.old, fun x hx => h.holds x (hp.mem_iff.2 hx), fun x hx => h.fresh x (hp.mem_iff.2 hx), h.apart.perm hp (fun {x y} hxy b hb e => hxy b e hb)⟩
theorem TF.swap (h : TF K0 (starR P (starR Q R)) w0 w L) : TF K0 (starR Q (starR P R)) w0 w L := h.map fun _ => starR_swap
theorem TF.assoc (h : TF K0 (starR (starR P Q) R) w0 w L) : TF K0 (starR P (starR Q R)) w0 w L := h.map fun _ => starR_assoc
theorem TF.assoc' (h : TF K0 (starR P (starR Q R)) w0 w L) : TF K0 (starR (starR P Q) R) w0 w L := h.map fun _ => starR_assoc'
/-- The right part is let go. -/
theorem TF.dropR (h : TF K0 (starR P Q) w0 w L) : TF K0 P w0 w L := by
  obtain ⟨K, ⟨K1, K2, b1, b2, b3, b4, b5⟩, a2, a3⟩ := h.ex
  exact ⟨h.os, h.tape, h.output, h.size, h.lt0, ⟨K1, b1, fun b hb => a2 b (b3 b hb), fun x hx b hxb hb => a3 x hx b hxb (b3 b hb)⟩, h.old, h.holds, h.fresh, h.apart⟩
/-- A callee made a thing out of nothing, behind what was made ahead. -/
theorem TF.pre (M : Mem w0 [] w L) (F : TF (fun _ => False) Q w w' L2) : TF (fun _ => False) Q w0 w' (L2 ++ L) := by
  have h : TF (fun _ => False) (fun _ _ => True) w0 w L := ⟨M.os, M.tape, M.output, M.size, fun _ h => h.elim, ⟨fun _ => False, trivial, fun _ h => h.elim, fun _ _ _ _ h => h⟩, fun b hb _ => M.old b hb (by simp), M.holds, fun x hx b hb => (M.fresh x hx b hb).resolve_left (by simp), M.apart⟩
  exact h.turn (K := fun _ => False) (fun _ _ _ _ h => h) (fun _ h => h.elim) F
/-- A callee made another thing out of nothing. -/
theorem TF.gain (h : TF K0 P w0 w L) (hP : Ok P) (F : TF (fun _ => False) Q w w' L2) : TF K0 (starR P Q) w0 w' (L2 ++ L) := by
  obtain ⟨K, a1, a2, a3⟩ := h.ex
  obtain ⟨K2, c1, c2, c3⟩ := F.ex
  have hK2 : ∀ b, K2 b → w.heap.size ≤ b ∧ b < w'.heap.size := fun b hb => ⟨(c2 b hb).1.resolve_left id, (c2 b hb).2⟩
  have G : TF K (starR P Q) w w' L2 := by
    refine ⟨F.os, F.tape, F.output, F.size, fun b hb => (a2 b hb).2, ⟨fun b => K b ∨ K2 b, ⟨K, K2, hP.keep a1 (fun b hb hl => F.old b hl id), c1, fun b h => .inl h, fun b h => .inr h, fun b h h2 => ?_⟩, fun b hb => ?_, fun x hx b hxb hb => ?_⟩, fun b hl hn => F.old b hl id, F.holds, F.fresh, F.apart⟩
    · have := (a2 b h).2
      have := (hK2 b h2).1
      omega
    · rcases hb with hb | hb
      · exact ⟨.inl hb, Nat.lt_of_lt_of_le (a2 b hb).2 F.size⟩
      · exact ⟨.inr (hK2 b hb).1, (hK2 b hb).2⟩
    · rcases hb with hb | hb
      · have := (a2 b hb).2
        have := F.fresh x hx b hxb
        omega
      · exact c3 x hx b hxb hb
  exact h.turn a3 a2 G
/-- In the end only new memory was made. -/
theorem TF.toMem (h : TF (fun _ => False) P w0 w L) : Mem w0 [] w L :=
  ⟨h.os, h.tape, h.output, h.size, fun i hi _ => h.old i hi id, h.holds, fun x hx b hb => .inr (h.fresh x hx b hb), h.apart⟩
end
theorem TF.rowN {K0 : Nat → Prop} {P : Res} {w0 w : World} {L : List Item} (h : TF K0 P w0 w L) {t : TypeId} {A : Option Addr} {vs : List Value} (hr : RowT w0 t A vs) (hA : vs ≠ [] → ∀ ad, A = some ad → ¬ K0 ad.block) : RowT w t A vs := fun i v hi => by
  obtain ⟨b, off, arr, m, rfl, hh, hv⟩ := hr i v hi
  exact ⟨b, off, arr, m, rfl, by rw [h.old b (Array.getElem?_eq_some_iff.1 hh).1 (hA (fun e => by rw [e] at hi; simp at hi) _ rfl), hh], hv⟩
/-! ### A row of keys that somebody has -/
def rowR (A : Option Addr) (l : List (List Int)) : Res := fun K w => RowT w 26 A (nums .u8 l.flatten) ∧ (nums .u8 l.flatten ≠ [] → ∀ ad, A = some ad → K ad.block)
theorem rowR_ok (A : Option Addr) (l : List (List Int)) : Ok (rowR A l) := ⟨fun {K w w'} ⟨h1, h2⟩ hs => ⟨fun i v hi => by
  obtain ⟨b, off, arr, m, hA, hh, hv⟩ := h1 i v hi
  have hb := h2 (fun e => by rw [e] at hi; simp at hi) _ hA
  exact ⟨b, off, arr, m, hA, by rw [hs b hb (Array.getElem?_eq_some_iff.1 hh).1, hh], hv⟩, h2⟩⟩
theorem TF.rowT {K0 : Nat → Prop} {Q : Res} {w0 w : World} {L : List Item} {A : Option Addr} {l : List (List Int)} (h : TF K0 (starR Q (rowR A l)) w0 w L) : RowT w 26 A (nums .u8 l.flatten) := by
  obtain ⟨K, ⟨K1, K2, _, b2, _⟩, _⟩ := h.ex
  exact b2.1
theorem TF.potOut {K0 : Nat → Prop} {P : Res} {w0 w : World} {L : List Item} {p g : Nat} {S : Value} {made : List (List Int)} (h : TF K0 (starR P (potR p g S made)) w0 w L) :
    ∃ A c, w.cell? ⟨p, 2, none⟩ = some (.slice A made.length c) ∧ (A = none → c = 0) ∧ TF K0 (starR P (rowR A made)) w0 w L := by
  obtain ⟨K, ⟨K1, K2, b1, ⟨A, c, T⟩, b3, b4, b5⟩, a2, a3⟩ := h.ex
  refine ⟨A, c, T.cells.2.2, fun hA => ?_, h.os, h.tape, h.output, h.size, h.lt0, ⟨K, ⟨K1, K2, b1, ⟨T.items.vecT (List.mem_cons_of_mem _ List.mem_cons_self), fun _ ad hA => T.kA _ (by rw [hA]; simp [blkA])⟩, b3, b4, b5⟩, a2, a3⟩, h.old, h.holds, h.fresh, h.apart⟩
  rcases T.row.2 with ⟨h', _⟩ | ⟨b, cap, cur, h', _⟩
  · injection h' with _ _ h3
  · injection h' with h1 _ _
    rw [hA] at h1
    cases h1
/-- Items become a pot. -/
theorem TF.potIn {K0 : Nat → Prop} {P : Res} {w0 w : World} {L : List Item} {p g c : Nat} {S : Value} {A : Option Addr} {made : List (List Int)} (hP : Ok P) (h : TF K0 P w0 w (.blk p (cellsO 101 [.pointer (some ⟨g, 0, none⟩), S, .slice A made.length c]) :: .vec A made.length c 26 32 (nums .u8 made.flatten) :: L)) (hm : ∀ k ∈ made, KeyOk k) : TF K0 (starR P (potR p g S made)) w0 w L := by
  refine TF.absorb (L2 := [.blk p (cellsO 101 [.pointer (some ⟨g, 0, none⟩), S, .slice A made.length c]), .vec A made.length c 26 32 (nums .u8 made.flatten)]) h ⟨A, c, ?_, ?_, hm, ?_, fun b hb => ?_⟩ hP
  · exact h.holds _ List.mem_cons_self
  · exact h.holds _ (List.mem_cons_of_mem _ List.mem_cons_self)
  · simp [blks, Item.block]
  · rw [mem_blks]
    refine ⟨_, List.mem_cons_of_mem _ List.mem_cons_self, ?_⟩
    simp only [blkA, Option.mem_toList, Option.map_eq_some_iff] at hb
    obtain ⟨ad, rfl, rfl⟩ := hb
    rfl
/-! ### A slice of steps of somebody else's -/
end Go.Proofs.Ytcapfnbmmdbcoaa
namespace Go.Proofs.Ytcapfnbmmdbcoaa
open Go.RowKit
theorem z42 : (Try.prog.info? 42).map (·.zero) = some (some (.agg #[.pointer none])) := by kernel_rfl
theorem sz42 : (Try.prog.info? 42).map (·.size) = some 1 := by kernel_rfl
def z55c : List Value := [.int .i64 0, .int .i64 0, .string ⟨#[]⟩, .slice none 0 0] ++ nums .u8 (List.replicate 32 0)
theorem z55 : (Try.prog.info? 55).map (·.zero) = some (some (.agg z55c.toArray)) := by kernel_rfl
theorem sz55z : (Try.prog.info? 55).map (·.size) = some z55c.length := by kernel_rfl
theorem ck_one {c : Ck} {I : Option Addr} {ic : Nat} : ∀ v ∈ ckCells c I ic, v.oneCell' = true := fun v hv => by
  simp only [ckCells, List.mem_append, List.mem_cons, List.not_mem_nil, or_false, nums, List.mem_map] at hv
  rcases hv with (rfl | rfl | rfl | rfl) | ⟨x, _, rfl⟩ <;> rfl
theorem ck_len {c : Ck} {I : Option Addr} {ic : Nat} (h : CkOk c) : z55c.length = (ckCells c I ic).length := by
  rw [ckCells, List.length_append, nums_length, h.raw.1]
  rfl
theorem row_lt {w : World} {I : Option Addr} {cs : List Value} (hr : RowC w I cs) (hne : cs ≠ []) {ad : Addr} (hI : I = some ad) : ad.block < w.heap.size := by
  obtain ⟨x, xs, hx⟩ := List.exists_cons_of_ne_nil hne
  obtain ⟨b', off', hI', hc'⟩ := hr 0 x (by rw [hx]; rfl)
  rw [hI] at hI'
  injection hI' with hI'
  subst hI'
  exact World.block_lt_of_cell? w _ hc'
section
variable {P : Program} {ops : Array Oper} {rest : List Oper} {o : Oper} {a : Act} {w w0 : World} {Q : Exit → Act → World → Prop} {L L' : List Item} {R : Res} {K0 : Nat → Prop}
theorem wpF_alC (m : Nat) (H : TF K0 R w0 w L) (hR : Ok R) {ty : TypeId} {z : Value} {cs : List Value} (hz : (P.info? ty).map (·.zero) = some (some z)) (hzc : z.cells = cs.toArray) (hm : o.dst = some m) (hgd : o.guard = none) (ho : o.op = .alloc ty)
    (h : ∀ b w', TF K0 R w0 w' (.blk b (cellsO ty cs) :: L) → wpList P ops Q rest (a.put (some m) (.pointer (some ⟨b, 0, none⟩))) w') : wpList P ops Q (o :: rest) a w :=
  wpList_al hgd ho H.reb hz hzc fun b w' M => by rw [hm]; exact h b w' (H.step hR M)
theorem wpF_stC0 (hd : o.dst = none) (H : TF K0 R w0 w L) (hR : Ok R) {ty : TypeId} {vs cs : List Value} (hsz : (P.info? ty).map (·.size) = some vs.length) (hgd : o.guard = none) {x y : Operand} (ho : o.op = .store ty x y) {g : Nat} (hx : a.eval x = .pointer (some ⟨g, 0, none⟩))
    (hy : a.eval y = .agg vs.toArray) {t : TypeId} (hs : Swap (.blk g (cellsO t cs)) (.blk g (cellsO t vs)) L L') (hl : cs.length = vs.length) (h1 : ∀ v ∈ vs, v.oneCell' = true)
    (h : ∀ w', TF K0 R w0 w' L' → wpList P ops Q rest a w') : wpList P ops Q (o :: rest) a w :=
  wpList_strow hgd ho hx hy H.reb hs hsz hl h1 fun w' M => by rw [hd]; exact h w' (H.step hR M)
end
theorem TabP.lt' {K : Nat → Prop} {w : World} {g mb c : Nat} {A : Option Addr} {ts : List Tm} (h : TabP K w g mb A c ts) : TabP (fun b => K b ∧ b < w.heap.size) w g mb A c ts := h.lt
def FreeR (w : World) (e : Ending) (w' : World) : Prop := ∃ g, e = .returned (.agg #[.pointer (some ⟨g, 0, none⟩)]) ∧ TF (fun _ => False) (tabR g []) w w' []
theorem New11T (w : World) : Calls Try.prog 11 #[] w fun e w' => ∃ g, e = .returned (.pointer (some ⟨g, 0, none⟩)) ∧ TF (fun _ => False) (tabR g []) w w' [] :=
  (New11 w).mono fun e w' ⟨g, mb, he, T, M⟩ => ⟨g, he, M.os, M.tape, M.output, M.size, fun _ h => h.elim, ⟨_, ⟨mb, none, 0, T.lt'⟩, fun b hb => ⟨.inr hb.1, hb.2⟩, by simp⟩, fun b hb _ => M.old b hb (by simp), by simp, by simp, List.Pairwise.nil⟩
set_option maxRecDepth 100000 in
set_option maxHeartbeats 4000000 in
theorem NewFree20 (w : World) : Calls Try.prog 20 #[] w (FreeR w) := by
  have M0 := Mem.start w
  go_enter Try.func20, Try.ntmps20
  go_wp2_with (first | (refine wpList_al rfl rfl M0 z42 rfl (cs := [.pointer none]) (fun b0 w1 M1 => ?_); clear M0; (conv => arg 5; simp only [Act.put, List.setIfInBounds_toArray, List.set_cons_succ, List.set_cons_zero])) | (refine (New11T _).mono ?_; rintro e wn ⟨g, rfl, F⟩; have H := TF.pre M1 F; clear M1 F) | (refine wpList_strow (vs := [.pointer (some ⟨g, 0, none⟩)]) rfl rfl rfl rfl H.reb Swap.head sz42 rfl (by simp [Value.oneCell']) (fun wz Mz => ?_); have H2 := H.step (tabR_ok g []) Mz; clear H Mz; (try (conv => arg 5; simp only [Act.put, List.setIfInBounds_toArray, List.set_cons_succ, List.set_cons_zero]))))
  (try simp only [Exit.inBlock, Exit.then])
  refine ret_rowC Try.underlying42 sz42 rfl rfl rfl rfl H2.reb (cs := [.pointer (some ⟨g, 0, none⟩)]) List.mem_cons_self rfl ?_
  exact ⟨g, rfl, H2.sub (List.nil_sublist _)⟩
end Go.Proofs.Ytcapfnbmmdbcoaa
namespace Go.Proofs.Ytcapfnbmmdbcoaa
open Go.RowKit
end Go.Proofs.Ytcapfnbmmdbcoaa
namespace Go.Proofs.Ytcapfnbmmdbcoaa
open Go.RowKit
def k7 : List Int := 7 :: List.replicate 31 0
theorem k7_ok : KeyOk k7 := ⟨by decide, fun x hx => by simp only [k7, List.mem_cons, List.mem_replicate] at hx; rcases hx with rfl | ⟨_, rfl⟩ <;> exact ⟨by decide, by decide⟩⟩
theorem b26k7 : ∀ w : World, (Instr.build 26 #[(0, .int .u8 7)]).run Try.prog w = .ok (.agg (nums .u8 k7).toArray) w := fun w => by kernel_rfl
def z32 : List Int := List.replicate 32 0
theorem z32_ok : KeyOk z32 := ⟨by decide, fun x hx => by simp only [z32, List.mem_replicate] at hx; rw [hx.2]; exact ⟨by decide, by decide⟩⟩
theorem iz55 : (Try.prog.info? 55).map (fun i => (i.zero, i.size)) = some (some (.agg z55c.toArray), 36) := by kernel_rfl
theorem iz3 : (Try.prog.info? 3).map (fun i => (i.zero, i.size)) = some (some (.int .i64 0), 1) := by kernel_rfl
theorem ck_ok {k n : Int} {t : ByteArray} {l : List Int} (h1 : t.size ≤ 200) (h2 : l.length ≤ 10) : CkOk ⟨k, n, t, l, z32⟩ := ⟨h1, h2, z32_ok⟩
theorem k7_Kn (n : Nat) : Kn n k7 := fun h => absurd h (by decide +kernel)
theorem ckCells_size {c : Ck} {I : Option Addr} {ic : Nat} (h : CkOk c) : (Value.agg (ckCells c I ic).toArray).cells.size = 36 := by
  show (ckCells c I ic).toArray.size = 36
  rw [List.size_toArray, ← ck_len (I := I) (ic := ic) h]
  rfl
theorem run_bld {P : Program} {o : Oper} {a : Act} {t : TypeId} {vs : Array (Nat × Value)} {v : Value} (hb : ∀ w : World, (Instr.build t vs).run P w = .ok v w) {parts : Array (Nat × Operand)} (ho : o.op = .build t parts)
    (hp : (parts.toList.map fun (i, x) => (i, a.eval x)) = vs.toList) (w : World) : (execOp a.eval o).run P w = .ok (.value v) w := by
  have hp' : (parts.map fun (i, x) => (i, a.eval x)) = vs := by
    apply Array.toList_inj.1
    simpa using hp
  subst hp'
  unfold execOp
  simp only [ho, Sem.run_bind, Sem.run_pure, Result.andThen_ok, hb]
theorem two_ok : ∀ k ∈ [k7, kn 0], KeyOk k := by simpa using And.intro k7_ok (kn_ok 0)
theorem HashT2 {K0 : Nat → Prop} {Q : Res} (hQ : Ok Q) {w0 w : World} {L : List Item} {g : Nat} {ts : List Tm} (H : TF K0 (starR (tabR g ts) Q) w0 w L) {text : ByteArray} {B : Option Addr} {n d : Nat} {ks : List (List Int)} (hn : n = ks.length) (ht : text.size ≤ 1000) (hk : ∀ k ∈ ks, KeyOk k) (hl : ks.length ≤ 1000) (hr : RowT w 26 B (nums .u8 ks.flatten)) (hB : B = none → d = 0) (hf : ts.length ≤ 900000) :
    Calls Try.prog 13 #[.pointer (some ⟨g, 0, none⟩), .string text, .slice B n d] w fun e w' => IsKey (nm ts ⟨2, text, ks⟩) e ∧ TF K0 (starR (tabR g (putL ts ⟨2, text, ks⟩)) Q) w0 w' L := by
  subst hn
  exact (H.runL hQ (R := fun e L2 => IsKey (nm ts ⟨2, text, ks⟩) e ∧ L2 = []) fun K1 h1 hlt => (HashK h1 ht hk hl hr hB hf).mono fun e w' ⟨he, F⟩ => ⟨[], ⟨he, rfl⟩, TF.of F hlt⟩).mono fun e w' ⟨L2, ⟨he, hL⟩, F⟩ => ⟨he, by rw [hL] at F; exact F⟩
attribute [irreducible] k7
end Go.Proofs.Ytcapfnbmmdbcoaa
namespace Go.Proofs.Ytcapfnbmmdbcoaa
open Go.RowKit
section
variable {K0 : Nat → Prop} {Q : Res} {w0 w : World} {L : List Item} {g m : Nat} {ts ts' : List Tm} {k : List Int}
theorem DrawTN (hQ : Ok Q) (H : TF K0 (starR (tabR g ts) Q) w0 w L) {text : ByteArray} (hq : nm ts ⟨1, text, []⟩ = k ∧ putL ts ⟨1, text, []⟩ = ts') (ht : text.size ≤ 1000) (hf : ts.length ≤ 900000) :
    Calls Try.prog 12 #[.pointer (some ⟨g, 0, none⟩), .string text] w fun e w' => e = .returned (.agg (nums .u8 k).toArray) ∧ TF K0 (starR (tabR g ts') Q) w0 w' L := by
  obtain ⟨rfl, rfl⟩ := hq
  exact DrawT hQ H ht hf
theorem HashTN (hQ : Ok Q) (H : TF K0 (starR (tabR g ts) Q) w0 w L) {text : ByteArray} {B : Option Addr} {n d : Nat} {ks : List (List Int)} (hn : n = ks.length) (hq : nm ts ⟨2, text, ks⟩ = k ∧ putL ts ⟨2, text, ks⟩ = ts') (ht : text.size ≤ 1000) (hk : ∀ k ∈ ks, KeyOk k) (hl : ks.length ≤ 1000) (hr : RowT w 26 B (nums .u8 ks.flatten)) (hB : B = none → d = 0) (hf : ts.length ≤ 900000) :
    Calls Try.prog 13 #[.pointer (some ⟨g, 0, none⟩), .string text, .slice B n d] w fun e w' => e = .returned (.agg (nums .u8 k).toArray) ∧ TF K0 (starR (tabR g ts') Q) w0 w' L := by
  obtain ⟨rfl, rfl⟩ := hq
  exact HashT2 hQ H hn ht hk hl hr hB hf
theorem PubTN (hQ : Ok Q) (H : TF K0 (starR (tabR g ts) Q) w0 w L) {q : List Int} (hq : nm ts ⟨3, ⟨#[]⟩, [q]⟩ = k ∧ putL ts ⟨3, ⟨#[]⟩, [q]⟩ = ts') (hk : KeyOk q) (hf : ts.length ≤ 900000) :
    Calls Try.prog 27 #[.pointer (some ⟨g, 0, none⟩), .agg (nums .u8 q).toArray] w fun e w' => e = .returned (.agg (nums .u8 k).toArray) ∧ TF K0 (starR (tabR g ts') Q) w0 w' L := by
  obtain ⟨rfl, rfl⟩ := hq
  exact PubT hQ H hk hf
theorem SealTN (hQ : Ok Q) (H : TF K0 (starR (tabR g ts) Q) w0 w L) {text : ByteArray} {q l : List Int} {B : Option Addr} {n d : Nat} {ks : List (List Int)} (hn : n = ks.length) (hq : nm ts ⟨6, text, q :: l :: ks⟩ = k ∧ putL ts ⟨6, text, q :: l :: ks⟩ = ts') (ht : text.size ≤ 1000) (hk : KeyOk q) (hkl : KeyOk l) (hks : ∀ k ∈ ks, KeyOk k) (hl : ks.length ≤ 900) (hr : RowT w 26 B (nums .u8 ks.flatten)) (hB : B = none → d = 0) (hf : ts.length ≤ 900000) :
    Calls Try.prog 15 #[.pointer (some ⟨g, 0, none⟩), .agg (nums .u8 q).toArray, .agg (nums .u8 l).toArray, .string text, .slice B n d] w fun e w' => e = .returned (.string (strOfNums k)) ∧ TF K0 (starR (tabR g ts') Q) w0 w' L := by
  obtain ⟨rfl, rfl⟩ := hq
  exact SealT hQ H hn ht hk hkl hks hl hr hB hf
/-- Make of the reference, a term put in its table. -/
theorem MakeRN (hQ : Ok Q) (H : TF K0 (starR Q (refR m ts)) w0 w L) {kind : Int} {text : ByteArray} {ks : List (List Int)} {B : Option Addr} {n d : Nat} (hn : n = ks.length) (hq : nm ts ⟨kind, text, ks⟩ = k ∧ putL ts ⟨kind, text, ks⟩ = ts') (ht : TmOk ⟨kind, text, ks⟩) (hr : RowT w 26 B (nums .u8 ks.flatten)) (hf : ts.length ≤ 900000) :
    Calls Try.prog 45 #[.pointer (some ⟨m, 0, none⟩), .int .i64 kind, .string text, .slice B n d] w fun e w' => e = .returned (.agg (nums .u8 k).toArray) ∧ TF K0 (starR Q (refR m ts')) w0 w' L := by
  subst hn
  obtain ⟨rfl, rfl⟩ := hq
  exact (H.runR hQ (R := fun e L2 => e = .returned (.agg (nums .u8 (nm ts ⟨kind, text, ks⟩)).toArray) ∧ L2 = []) fun K1 h1 hlt => (MakeK (t := ⟨kind, text, ks⟩) h1 hlt ht hr hf).mono fun e w' ⟨he, F⟩ => ⟨[], ⟨he, rfl⟩, TF.of F hlt⟩).mono fun e w' ⟨L2, ⟨he, hL⟩, F⟩ => ⟨he, by rw [hL] at F; exact F⟩
theorem SealRN (hQ : Ok Q) (H : TF K0 (starR Q (refR m ts)) w0 w L) {text : ByteArray} {q l : List Int} {B : Option Addr} {n d : Nat} {ks : List (List Int)} (hn : n = ks.length) (hq : nm ts ⟨6, text, q :: l :: ks⟩ = k ∧ putL ts ⟨6, text, q :: l :: ks⟩ = ts') (ht : text.size ≤ 1000) (hk : KeyOk q) (hkl : KeyOk l) (hks : ∀ k ∈ ks, KeyOk k) (hl : ks.length ≤ 900) (hr : RowT w 26 B (nums .u8 ks.flatten)) (hf : ts.length ≤ 900000) :
    Calls Try.prog 47 #[.pointer (some ⟨m, 0, none⟩), .agg (nums .u8 q).toArray, .agg (nums .u8 l).toArray, .string text, .slice B n d] w fun e w' => e = .returned (.string (strOfNums k)) ∧ TF K0 (starR Q (refR m ts')) w0 w' L := by
  subst hn
  obtain ⟨rfl, rfl⟩ := hq
  exact (H.runR hQ (R := fun e L2 => e = .returned (.string (strOfNums (nm ts ⟨6, text, q :: l :: ks⟩))) ∧ L2 = []) fun K1 h1 hlt => (Seal47 h1 hlt ht hk hkl hks hl hr hf).mono fun e w' ⟨he, F⟩ => ⟨[], ⟨he, rfl⟩, TF.of F hlt⟩).mono fun e w' ⟨L2, ⟨he, hL⟩, F⟩ => ⟨he, by rw [hL] at F; exact F⟩
theorem sec_ok (g m : Nat) (ts ts' : List Tm) : Ok (starR (tabR g ts) (refR m ts')) := (tabR_ok g ts).star (refR_ok m ts')
end
theorem wpF_bsK3 {ops : Array Oper} {rest : List Oper} {o : Oper} {a : Act} {w w0 : World} {Q : Exit → Act → World → Prop} {L : List Item} {R : Res} {K0 : Nat → Prop} (m : Nat) (H : TF K0 R w0 w L) (hR : Ok R) (hm : o.dst = some m) (hgd : o.guard = none) {x y z : Operand} (ho : o.op = .buildSlice 34 3 #[(0, x), (1, y), (2, z)]) {k l q : List Int} (hx : a.eval x = .agg (nums .u8 k).toArray) (hy : a.eval y = .agg (nums .u8 l).toArray) (hz : a.eval z = .agg (nums .u8 q).toArray) (hk : KeyOk k) (hl : KeyOk l) (hq : KeyOk q)
    (h : ∀ b w', TF K0 R w0 w' (.blk b (rowO .u8 26 [k, l, q].flatten) :: L) → wpList Try.prog ops Q rest (a.put (some m) (.slice (some ⟨b, 0, none⟩) 3 3)) w') : wpList Try.prog ops Q (o :: rest) a w :=
  wpList_bsG Try.underlying34 iz26 (by decide) m hm hgd [.agg (nums .u8 k).toArray, .agg (nums .u8 l).toArray, .agg (nums .u8 q).toArray] ho (by simp) (by simp [hx, hy, hz]) (by simp only [List.mem_cons, List.not_mem_nil, or_false]; rintro v (rfl | rfl | rfl); exact keyCells hk; exact keyCells hl; exact keyCells hq) H.reb fun b w' M' => h b w' (H.step hR (by
    rw [show ([Value.agg (nums .u8 k).toArray, Value.agg (nums .u8 l).toArray, Value.agg (nums .u8 q).toArray].flatMap fun v => v.cells.toList) = nums .u8 [k, l, q].flatten from by simp [Value.cells, nums]] at M'
    exact M'))
theorem one_kn (i : Nat) : ∀ k ∈ [kn i], KeyOk k := one_ok (kn_ok i)
end Go.Proofs.Ytcapfnbmmdbcoaa
namespace Go.Proofs.Ytcapfnbmmdbcoaa
open Go.RowKit Go.ChangeShapes Go.WideShapes Go.Deep
section
variable {H : Type} {enc : TypeId × Value → H} {P : Program} {w : World} {base : Nat} {spare : Nat → Bool} {held : Bool}
theorem open_arr {t e : TypeId} {n : Nat} {q : IntKind} {fuel : Nat} {cs : List Value} {x : DataW H × List MemPlace} (ht : P.underlying t = some (.array n e)) (he : P.underlying e = some (.int q)) (hct : P.cellsOf t = n) (hce : P.cellsOf e = 1) (h : DataW.trod enc P w base spare held fuel t cs = some x) :
    ∃ zs : List Int, cs = nums q zs ∧ zs.length = n ∧ ∀ z ∈ zs, (Lit.int q z).wf = true := by
  obtain ⟨xs, m, rfl, rfl, hl, hxl, hi⟩ := DataW.trod_array ht h
  rw [hct] at hl
  have each : ∀ i, i < n → ∃ z, cs[i]? = some (.int q z) ∧ (Lit.int q z).wf = true := fun i hin => by
    have h1 := hi i hin
    rw [hce, Nat.mul_one, List.getElem?_eq_getElem (by omega)] at h1
    obtain ⟨z, e1, _, hw⟩ := DataW.trod_int he h1
    exact ⟨z, cell_of_cut e1, hw⟩
  refine ⟨cs.map (fun v => match v with | .int _ z => z | _ => 0), ?_, by simp [hl], fun z hz => ?_⟩
  · apply List.ext_getElem?
    intro i
    by_cases hin : i < n
    · obtain ⟨z, hz, _⟩ := each i hin
      simp [nums, hz]
    · rw [List.getElem?_eq_none (by omega), List.getElem?_eq_none (by simp [nums]; omega)]
  · obtain ⟨v, hv, rfl⟩ := List.mem_map.1 hz
    obtain ⟨i, hi'⟩ := List.getElem?_of_mem hv
    have hil := (List.getElem?_eq_some_iff.1 hi').1
    obtain ⟨z, hz2, hw⟩ := each i (by omega)
    rw [hi'] at hz2
    injection hz2 with hz2
    subst hz2
    exact hw
/-- A slice of numbers, as a row. -/
theorem open_rowC {t e : TypeId} {k : IntKind} {fuel : Nat} {cs : List Value} {x : DataW H × List MemPlace} (ht : P.underlying t = some (.slice e)) (he : P.underlying e = some (.int k)) (hc : P.cellsOf e = 1) (h : DataW.trod enc P w base spare held fuel t cs = some x) :
    ∃ (I : Option Addr) (ic : Nat) (zs : List Int), cs = [.slice I zs.length ic] ∧ RowC w I (nums k zs) ∧ zs.length ≤ maxLen ∧ ∀ z ∈ zs, (Lit.int k z).wf = true := by
  rcases open_ints ht he hc h with ⟨rfl, _⟩ | ⟨a, len, cap, zs, rfl, _, hl, hm, hz, _, hcell, hw⟩
  · exact ⟨none, 0, [], rfl, fun i v hv => by simp [nums] at hv, by decide, by simp⟩
  · have hlz : len ≤ zs.length := by rw [hz]; split <;> omega
    refine ⟨some a, cap, zs.take len, by rw [List.length_take, Nat.min_eq_left hlz], fun i v hv => ?_, by rw [List.length_take]; omega, fun z hz => hw z (List.mem_of_mem_take hz)⟩
    have hi := (List.getElem?_eq_some_iff.1 hv).1
    rw [nums_length, List.length_take] at hi
    have h1 := hcell i (by omega)
    obtain ⟨b, off, spot⟩ := a
    have hspot : spot = none := by
      have := World.cell?_spot (hcell 0 (by omega))
      simpa [Addr.add] using this
    subst hspot
    refine ⟨b, off, rfl, ?_⟩
    rw [Addr.add_lit] at h1
    rw [h1, ← hv]
    simp [nums, List.getElem?_take, show i < len from by omega, List.getD_eq_getElem?_getD, List.getElem?_eq_getElem (show i < zs.length from by omega)]
end
theorem list_of {α : Type} {p : Nat → α → Prop} : ∀ n : Nat, (∀ i, i < n → ∃ a, p i a) → ∃ l : List α, l.length = n ∧ ∀ (i : Nat) (a : α), l[i]? = some a → p i a
  | 0, _ => ⟨[], rfl, fun i a h => by simp at h⟩
  | n + 1, h => by
    obtain ⟨l, hl, hp⟩ := list_of n (fun i hi => h i (by omega))
    obtain ⟨a, ha⟩ := h n (by omega)
    refine ⟨l ++ [a], by simp [hl], fun i b hb => ?_⟩
    by_cases hi : i < n
    · rw [List.getElem?_append_left (by omega)] at hb
      exact hp i b hb
    · rw [List.getElem?_append_right (by omega)] at hb
      have h0 : i - l.length = 0 := by
        have := (List.getElem?_eq_some_iff.1 hb).1
        simp at this
        omega
      rw [h0] at hb
      simp only [List.getElem?_cons_zero, Option.some.injEq] at hb
      subst hb
      obtain rfl : i = n := by omega
      exact ha
end Go.Proofs.Ytcapfnbmmdbcoaa
namespace Go.Proofs.Ytcapfnbmmdbcoaa
open Go.RowKit
section
variable {K K0 : Nat → Prop} {P P' Q Q' R R1 R2 Z : Res} {w0 w w' : World} {L L' L2 : List Item}
theorem TF.rowNil (h : TF K0 P w0 w L) : TF K0 (starR P (rowR none [])) w0 w L :=
  h.map fun K hP => ⟨K, fun _ => False, hP, ⟨RowT.nil, fun h => absurd rfl h⟩, fun _ h => h, fun _ h => h.elim, fun _ _ h => h⟩
theorem TF.reC (h : TF K0 (starR (starR P R1) (starR Z R2)) w0 w L) : TF K0 (starR P (starR Z R1)) w0 w L :=
  h.map fun K ⟨K1, K2, ⟨Ka, Kb, a1, a2, a3, a4, a5⟩, ⟨Kc, Kd, c1, _, c3, _, _⟩, b3, b4, b5⟩ =>
    ⟨Ka, fun b => Kc b ∨ Kb b, a1, ⟨Kc, Kb, c1, a2, fun b h => .inl h, fun b h => .inr h, fun b h h2 => b5 b (a4 b h2) (c3 b h)⟩, fun b h => b3 b (a3 b h), fun b h => h.elim (fun h => b4 b (c3 b h)) (fun h => b3 b (a4 b h)), fun b h h2 => h2.elim (fun h2 => b5 b (a3 b h) (c3 b h2)) (fun h2 => a5 b h h2)⟩
/-- A new table of the reference's. -/
theorem TF.refNew (hP : Ok P) {m : Nat} (h : TF K0 P w0 w (.blk m (cellsO 48 [.slice none 0 0, .slice none 0 0]) :: L)) : TF K0 (starR P (refR m [])) w0 w L := by
  have h2 := h.step hP (h.reb.nil 95 3)
  have h3 := h2.step hP (h2.reb.nil 72 1)
  have e1 := h3.holds _ (List.mem_cons_of_mem _ List.mem_cons_self)
  have e2 := h3.holds _ List.mem_cons_self
  have e3 := h.holds _ List.mem_cons_self
  refine TF.absorb (L2 := [.blk m (cellsO 48 [.slice none 0 0, .slice none 0 0])]) h ⟨none, 0, none, 0, e3, ⟨[], e1, fun i t hi => by simp at hi⟩, e2, by simp, by simp, by simp, ?_, by simp [blkA], by simp [blkA]⟩ hP
  simp [blks, Item.block]
theorem TF.refCell {m : Nat} {ts : List Tm} (h : TF K0 (starR P (starR (starR (refR m ts) R1) R2)) w0 w L) : ∃ A c, w.cell? ⟨m, 0, none⟩ = some (.slice A ts.length c) := by
  obtain ⟨K, ⟨_, _, _, ⟨_, _, ⟨_, _, ⟨A, c, S, e, T⟩, _⟩, _⟩, _⟩, _⟩ := h.ex
  exact ⟨A, c, T.cap.1⟩
theorem TF.tabCell {g : Nat} {ts : List Tm} (h : TF K0 (starR (tabR g ts) Q) w0 w L) : ∃ A c, w.cell? ⟨g, 0, none⟩ = some (.slice A ts.length c) := by
  obtain ⟨K, ⟨_, _, ⟨mb, A, c, T⟩, _⟩, _⟩ := h.ex
  exact ⟨A, c, by rw [cell_of_row w g 0 _ 88 (0, 0) T.hg]; rfl⟩
theorem TF.rowA {A : Option Addr} {l : List (List Int)} (h : TF K0 (starR P (starR (starR Q (rowR A l)) R2)) w0 w L) : RowT w 26 A (nums .u8 l.flatten) := by
  obtain ⟨K, ⟨_, _, _, ⟨_, _, ⟨_, _, _, hr, _⟩, _⟩, _⟩, _⟩ := h.ex
  exact hr.1
theorem TF.rowB {A : Option Addr} {l : List (List Int)} (h : TF K0 (starR P (starR Z (rowR A l))) w0 w L) : RowT w 26 A (nums .u8 l.flatten) := by
  obtain ⟨K, ⟨_, _, _, ⟨_, _, _, hr, _⟩, _⟩, _⟩ := h.ex
  exact hr.1
theorem refZ_ok (m : Nat) (ts : List Tm) (A : Option Addr) (l : List (List Int)) : Ok (starR (refR m ts) (rowR A l)) := (refR_ok m ts).star (rowR_ok A l)
end
/-! ### The terms of others, as the steps find them -/
theorem zK_Kn (n : Nat) : Kn n zK := fun h => absurd h (by decide +kernel)
theorem kn_Kn {i n : Nat} (h : i < n) (hi : i < 4294967296) : Kn n (kn i) := fun _ => by rw [numK_kn hi]; omega
section
variable {w0 w : World} {L : List Item} {g m bS ac sc : Nat} {cs : List Ck} {A : Option Addr}
end
end Go.Proofs.Ytcapfnbmmdbcoaa
namespace Go.Proofs.Ytcapfnbmmdbcoaa
open Go.RowKit
theorem same25 {A B : Option Addr} {c d n n' : Nat} {ks : List (List Int)} {w : World} (hn : n = ks.length) (hn' : n' = ks.length) (hk : ∀ k ∈ ks, KeyOk k) (hA : RowT w 26 A (nums .u8 ks.flatten)) (hB : RowT w 26 B (nums .u8 ks.flatten)) (hl : ks.length ≤ 100000) :
    Calls Try.prog 25 #[.slice A n c, .slice B n' d] w (BoolR true w) := by
  subst hn hn'
  have := SameKeys25 A B c d ks ks w hk hk hA hB hl hl
  rwa [decide_eq_true rfl] at this
theorem b48 : ∀ w : World, (Instr.build 48 #[]).run Try.prog w = .ok (.agg #[.slice none 0 0, .slice none 0 0]) w := fun w => by kernel_rfl
/-- A region that draws its order; that only new memory came is told, too. -/
theorem wp_region_planTM {P : Program} {a : Act} {w w0 : World} {Q : Exit → Act → World → Prop} {id : Nat} {ops : Array Oper} {R : Res} {K0 : Nat → Prop} {L : List Item} (T : World → Prop) (s : PlanT) (hm : P.follows .mixedOrders = true) (hB : (Region.noSelect ops && planTB .any ops s (Array.replicate ops.size false) && decide (s.depth ≤ ops.size)) = true)
    (hQ : ∀ c a (d : Tmp) v w, Q (.panic c) (Act.put a (some d) v) w → Q (.panic c) a w) (H : TF K0 R w0 w L) (hR : Ok R)
    (h : ∀ (ops' : Array Oper) (Q' : Exit → Act → World → Prop), Hid (ops' = ops) → Hid (Q' = Q) → ∀ w1, TF K0 R w0 w1 L → Mem w [] w1 [] → wpPlanT P ops' (fun w' => (∃ v E, Mem v E w' L) ∧ T w') Q' s a w1) : (Code.region id ops true).wp P Q a w :=
  wp_region_planS (fun w' => (∃ v E, Mem v E w' L) ∧ T w') s hm hB hQ fun w1 hb =>
    have M : Mem w [] w1 [] := ⟨hb.os, hb.tape, hb.output, hb.size, fun i hi _ => hb.block i hi, by simp, by simp, List.Pairwise.nil⟩
    h ops Q (hid rfl) (hid rfl) w1 (H.call0 hR M) M
theorem CksR.mem' {w0 w : World} {A : Option Addr} {cs : List Ck} (h : CksR w0 A cs) (M : Mem w0 [] w []) : CksR w A cs := h.mem M
end Go.Proofs.Ytcapfnbmmdbcoaa
