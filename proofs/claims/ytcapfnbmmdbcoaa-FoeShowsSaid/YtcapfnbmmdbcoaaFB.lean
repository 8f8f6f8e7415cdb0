/- More on what a call owns: calls in general form; parts that turn about; what was made out of nothing. -/
import Derived.Test.YtcapfnbmmdbcoaaDB
import Derived.Test.YtcapfnbmmdbcoaaDC
import Derived.Test.YtcapfnbmmdbcoaaEA
import Derived.Test.YtcapfnbmmdbcoaaO
import Derived.Deep.Slices
import Derived.Deep.Fields
import Derived.ChangeSame
import Derived.ChangeSlices
import Derived.OpenShut
set_option linter.unusedVariables false
set_option linter.unusedSimpArgs false
namespace Go.Proofs.Ytcapfnbmmdbcoaa
open Go.RowKit
section
variable {K K0 : Nat → Prop} {P P' Q Q' R : Res} {w0 w w' : World} {L L' L2 : List Item}
/-- A call on the whole thing; its contract may be of any form. -/
theorem TF.go {Pr : Program} {f : FuncId} {args : Array Value} {Post : (Nat → Prop) → Ending → World → Prop} (h : TF K0 P w0 w L)
    (hc : ∀ K : Nat → Prop, P K w → (∀ b, K b → b < w.heap.size) → (∀ b, K b → K0 b ∨ w0.heap.size ≤ b) → (∀ x ∈ L, ∀ b, x.block = some b → ¬ K b) → Calls Pr f args w (Post K)) :
    Calls Pr f args w fun e w' => ∃ K, Post K e w' ∧ ∀ P' L2, TF K P' w w' L2 → TF K0 P' w0 w' (L2 ++ L) := by
  obtain ⟨K, a1, a2, a3⟩ := h.ex
  exact (hc K a1 (fun b hb => (a2 b hb).2) (fun b hb => (a2 b hb).1) a3).mono fun e w' he => ⟨K, he, fun P' L2 F => h.turn a3 a2 F⟩
/-- A call on the left part. -/
theorem TF.goL {Pr : Program} {f : FuncId} {args : Array Value} {Post : (Nat → Prop) → Ending → World → Prop} (h : TF K0 (starR P Q) w0 w L) (hQ : Ok Q)
    (hc : ∀ K : Nat → Prop, P K w → (∀ b, K b → b < w.heap.size) → (∀ b, K b → K0 b ∨ w0.heap.size ≤ b) → (∀ x ∈ L, ∀ b, x.block = some b → ¬ K b) → (∀ K2, Q K2 w → True) → Calls Pr f args w (Post K)) :
    Calls Pr f args w fun e w' => ∃ K, Post K e w' ∧ ∀ P' L2, TF K P' w w' L2 → TF K0 (starR P' Q) w0 w' (L2 ++ L) := by
  obtain ⟨K, ⟨K1, K2, b1, b2, b3, b4, b5⟩, a2, a3⟩ := h.ex
  have hlt : ∀ b, K b → b < w.heap.size := fun b hb => (a2 b hb).2
  refine (hc K1 b1 (fun b hb => hlt b (b3 b hb)) (fun b hb => (a2 b (b3 b hb)).1) (fun x hx b hxb hb => a3 x hx b hxb (b3 b hb)) (fun _ _ => trivial)).mono fun e w' he => ⟨K1, he, fun P' L2 F => ?_⟩
  exact h.turn a3 a2 (TF.star (K0 := K2) b2 F hQ b2 b3 b4 b5 hlt)
/-- A call on the left part that looks at the right one. -/
theorem TF.goLR {Pr : Program} {f : FuncId} {args : Array Value} {Post : (Nat → Prop) → Ending → World → Prop} (h : TF K0 (starR P Q) w0 w L) (hQ : Ok Q)
    (hc : ∀ K K2 : Nat → Prop, P K w → Q K2 w → (∀ b, K b → ¬ K2 b) → (∀ b, K b → b < w.heap.size) → (∀ b, K b → K0 b ∨ w0.heap.size ≤ b) → (∀ x ∈ L, ∀ b, x.block = some b → ¬ K b) → Calls Pr f args w (Post K)) :
    Calls Pr f args w fun e w' => ∃ K, Post K e w' ∧ ∀ P' L2, TF K P' w w' L2 → TF K0 (starR P' Q) w0 w' (L2 ++ L) := by
  obtain ⟨K, ⟨K1, K2, b1, b2, b3, b4, b5⟩, a2, a3⟩ := h.ex
  have hlt : ∀ b, K b → b < w.heap.size := fun b hb => (a2 b hb).2
  refine (hc K1 K2 b1 b2 b5 (fun b hb => hlt b (b3 b hb)) (fun b hb => (a2 b (b3 b hb)).1) (fun x hx b hxb hb => a3 x hx b hxb (b3 b hb))).mono fun e w' he => ⟨K1, he, fun P' L2 F => ?_⟩
  exact h.turn a3 a2 (TF.star (K0 := K2) b2 F hQ b2 b3 b4 b5 hlt)
theorem starR_swap (h : starR P (starR Q R) K w) : starR Q (starR P R) K w := by
  obtain ⟨K1, K2, a1, ⟨K3, K4, b1, b2, b3, b4, b5⟩, a3, a4, a5⟩ := h
  refine ⟨K3, fun b => K1 b ∨ K4 b, b1, ⟨K1, K4, a1, b2, fun b h => .inl h, fun b h => .inr h, fun b h h2 => a5 b h (b4 b h2)⟩, fun b h => a4 b (b3 b h), fun b h => h.elim (a3 b) (fun h => a4 b (b4 b h)), fun b h h2 => ?_⟩
  rcases h2 with h2 | h2
  · exact a5 b h2 (b3 b h)
  · exact b5 b h h2
theorem starR_assoc (h : starR (starR P Q) R K w) : starR P (starR Q R) K w := by
  obtain ⟨K1, K2, ⟨K3, K4, b1, b2, b3, b4, b5⟩, a2, a3, a4, a5⟩ := h
  refine ⟨K3, fun b => K4 b ∨ K2 b, b1, ⟨K4, K2, b2, a2, fun b h => .inl h, fun b h => .inr h, fun b h h2 => a5 b (b4 b h) h2⟩, fun b h => a3 b (b3 b h), fun b h => h.elim (fun h => a3 b (b4 b h)) (a4 b), fun b h h2 => ?_⟩
  rcases h2 with h2 | h2
  · exact b5 b h h2
  · exact a5 b (b3 b h) h2
theorem starR_assoc' (h : starR P (starR Q R) K w) : starR (starR P Q) R K w := by
  obtain ⟨K1, K2, a1, ⟨K3, K4, b1, b2, b3, b4, b5⟩, a3, a4, a5⟩ := h
  refine ⟨fun b => K1 b ∨ K3 b, K4, ⟨K1, K3, a1, b1, fun b h => .inl h, fun b h => .inr h, fun b h h2 => a5 b h (b3 b h2)⟩, b2, fun b h => h.elim (a3 b) (fun h => a4 b (b3 b h)), fun b h => a4 b (b4 b h), fun b h h2 => ?_⟩
  rcases h with h | h
  · exact a5 b h (b4 b h2)
  · exact b5 b h h2
theorem TF.map (h : TF K0 P w0 w L) (f : ∀ K : Nat → Prop, P K w → Q K w) : TF K0 Q w0 w L := by
  obtain ⟨K, a1, a2, a3⟩ := h.ex
  exact ⟨h.os, h.tape, h.output, h.size, h.lt0, ⟨K, f K a1, a2, a3⟩, h.old, h.holds, h.fresh, h.apart⟩
theorem TF.perm (h : TF K0 P w0 w L) (hp : L.Perm L') : TF K0 P w0 w L' := by
  obtain ⟨K, a1, a2, a3⟩ := h.ex
  exact ⟨h.os, h.tape, h.output, h.size, h.lt0, ⟨K, a1, a2, fun x hx => a3 x (hp.mem_iff.2 hx)⟩, h.old, fun x hx => h.holds x (hp.mem_iff.2 hx), fun x hx => h.fresh x (hp.mem_iff.2 hx), h.apart.perm hp (fun {x y} hxy b hb e => hxy b e hb)⟩
theorem TF.swap (h : TF K0 (starR P (starR Q R)) w0 w L) : TF K0 (starR Q (starR P R)) w0 w L := h.map fun _ => starR_swap
theorem TF.assoc (h : TF K0 (starR (starR P Q) R) w0 w L) : TF K0 (starR P (starR Q R)) w0 w L := h.map fun _ => starR_assoc
theorem TF.assoc' (h : TF K0 (starR P (starR Q R)) w0 w L) : TF K0 (starR (starR P Q) R) w0 w L := h.map fun _ => starR_assoc'
/-- The right part is let go. -/
theorem TF.dropR (h : TF K0 (starR P Q) w0 w L) : TF K0 P w0 w L := by
  obtain ⟨K, ⟨K1, K2, b1, b2, b3, b4, b5⟩, a2, a3⟩ := h.ex
  exact ⟨h.os, h.tape, h.output, h.size, h.lt0, ⟨K1, b1, fun b hb => a2 b (b3 b hb), fun x hx b hxb hb => a3 x hx b hxb (b3 b hb)⟩, h.old, h.holds, h.fresh, h.apart⟩
/-- A callee made a thing out of nothing, behind what was made ahead. -/
theorem TF.pre (M : Mem w0 [] w L) (F : TF (fun _ => False) Q w w' L2) : TF (fun _ => False) Q w0 w' (L2 ++ L) := by
  have h : TF (fun _ => False) (fun _ _ => True) w0 w L := ⟨M.os, M.tape, M.output, M.size, fun _ h => h.elim, ⟨fun _ => False, trivial, fun _ h => h.elim, fun _ _ _ _ h => h⟩, fun b hb _ => M.old b hb (by simp), M.holds, fun x hx b hb => (M.fresh x hx b hb).resolve_left (by simp), M.apart⟩
  exact h.turn (K := fun _ => False) (fun _ _ _ _ h => h) (fun _ h => h.elim) F
/-- A callee made another thing out of nothing. -/
theorem TF.gain (h : TF K0 P w0 w L) (hP : Ok P) (F : TF (fun _ => False) Q w w' L2) : TF K0 (starR P Q) w0 w' (L2 ++ L) := by
  obtain ⟨K, a1, a2, a3⟩ := h.ex
  obtain ⟨K2, c1, c2, c3⟩ := F.ex
  have hK2 : ∀ b, K2 b → w.heap.size ≤ b ∧ b < w'.heap.size := fun b hb => ⟨(c2 b hb).1.resolve_left id, (c2 b hb).2⟩
  have G : TF K (starR P Q) w w' L2 := by
    refine ⟨F.os, F.tape, F.output, F.size, fun b hb => (a2 b hb).2, ⟨fun b => K b ∨ K2 b, ⟨K, K2, hP.keep a1 (fun b hb hl => F.old b hl id), c1, fun b h => .inl h, fun b h => .inr h, fun b h h2 => ?_⟩, fun b hb => ?_, fun x hx b hxb hb => ?_⟩, fun b hl hn => F.old b hl id, F.holds, F.fresh, F.apart⟩
    · have := (a2 b h).2
      have := (hK2 b h2).1
      omega
    · rcases hb with hb | hb
      · exact ⟨.inl hb, Nat.lt_of_lt_of_le (a2 b hb).2 F.size⟩
      · exact ⟨.inr (hK2 b hb).1, (hK2 b hb).2⟩
    · rcases hb with hb | hb
      · have := (a2 b hb).2
        have := F.fresh x hx b hxb
        omega
      · exact c3 x hx b hxb hb
  exact h.turn a3 a2 G
/-- In the end only new memory was made. -/
theorem TF.toMem (h : TF (fun _ => False) P w0 w L) : Mem w0 [] w L :=
  ⟨h.os, h.tape, h.output, h.size, fun i hi _ => h.old i hi id, h.holds, fun x hx b hb => .inr (h.fresh x hx b hb), h.apart⟩
end
theorem TF.rowN {K0 : Nat → Prop} {P : Res} {w0 w : World} {L : List Item} (h : TF K0 P w0 w L) {t : TypeId} {A : Option Addr} {vs : List Value} (hr : RowT w0 t A vs) (hA : vs ≠ [] → ∀ ad, A = some ad → ¬ K0 ad.block) : RowT w t A vs := fun i v hi => by
  obtain ⟨b, off, arr, m, rfl, hh, hv⟩ := hr i v hi
  exact ⟨b, off, arr, m, rfl, by rw [h.old b (Array.getElem?_eq_some_iff.1 hh).1 (hA (fun e => by rw [e] at hi; simp at hi) _ rfl), hh], hv⟩
/-! ### A row of keys that somebody has -/
def rowR (A : Option Addr) (l : List (List Int)) : Res := fun K w => RowT w 26 A (nums .u8 l.flatten) ∧ (nums .u8 l.flatten ≠ [] → ∀ ad, A = some ad → K ad.block)
theorem rowR_ok (A : Option Addr) (l : List (List Int)) : Ok (rowR A l) := ⟨fun {K w w'} ⟨h1, h2⟩ hs => ⟨fun i v hi => by
  obtain ⟨b, off, arr, m, hA, hh, hv⟩ := h1 i v hi
  have hb := h2 (fun e => by rw [e] at hi; simp at hi) _ hA
  exact ⟨b, off, arr, m, hA, by rw [hs b hb (Array.getElem?_eq_some_iff.1 hh).1, hh], hv⟩, h2⟩⟩
theorem TF.rowT {K0 : Nat → Prop} {Q : Res} {w0 w : World} {L : List Item} {A : Option Addr} {l : List (List Int)} (h : TF K0 (starR Q (rowR A l)) w0 w L) : RowT w 26 A (nums .u8 l.flatten) := by
  obtain ⟨K, ⟨K1, K2, _, b2, _⟩, _⟩ := h.ex
  exact b2.1
theorem TF.potOut {K0 : Nat → Prop} {P : Res} {w0 w : World} {L : List Item} {p g : Nat} {S : Value} {made : List (List Int)} (h : TF K0 (starR P (potR p g S made)) w0 w L) :
    ∃ A c, w.cell? ⟨p, 2, none⟩ = some (.slice A made.length c) ∧ (A = none → c = 0) ∧ TF K0 (starR P (rowR A made)) w0 w L := by
  obtain ⟨K, ⟨K1, K2, b1, ⟨A, c, T⟩, b3, b4, b5⟩, a2, a3⟩ := h.ex
  refine ⟨A, c, T.cells.2.2, fun hA => ?_, h.os, h.tape, h.output, h.size, h.lt0, ⟨K, ⟨K1, K2, b1, ⟨T.items.vecT (List.mem_cons_of_mem _ List.mem_cons_self), fun _ ad hA => T.kA _ (by rw [hA]; simp [blkA])⟩, b3, b4, b5⟩, a2, a3⟩, h.old, h.holds, h.fresh, h.apart⟩
  rcases T.row.2 with ⟨h', _⟩ | ⟨b, cap, cur, h', _⟩
  · injection h' with _ _ h3
  · injection h' with h1 _ _
    rw [hA] at h1
    cases h1
/-- Items become a pot. -/
theorem TF.potIn {K0 : Nat → Prop} {P : Res} {w0 w : World} {L : List Item} {p g c : Nat} {S : Value} {A : Option Addr} {made : List (List Int)} (hP : Ok P) (h : TF K0 P w0 w (.blk p (cellsO 101 [.pointer (some ⟨g, 0, none⟩), S, .slice A made.length c]) :: .vec A made.length c 26 32 (nums .u8 made.flatten) :: L)) (hm : ∀ k ∈ made, KeyOk k) : TF K0 (starR P (potR p g S made)) w0 w L := by
  refine TF.absorb (L2 := [.blk p (cellsO 101 [.pointer (some ⟨g, 0, none⟩), S, .slice A made.length c]), .vec A made.length c 26 32 (nums .u8 made.flatten)]) h ⟨A, c, ?_, ?_, hm, ?_, fun b hb => ?_⟩ hP
  · exact h.holds _ List.mem_cons_self
  · exact h.holds _ (List.mem_cons_of_mem _ List.mem_cons_self)
  · simp [blks, Item.block]
  · rw [mem_blks]
    refine ⟨_, List.mem_cons_of_mem _ List.mem_cons_self, ?_⟩
    simp only [blkA, Option.mem_toList, Option.map_eq_some_iff] at hb
    obtain ⟨ad, rfl, rfl⟩ := hb
    rfl
/-! ### A slice of steps of somebody else's -/
def CksF (K : Nat → Prop) (w : World) (A : Option Addr) (cs : List Ck) : Prop :=
  ∀ (i : Nat) (c : Ck), cs[i]? = some c → ∃ b off I ic, A = some ⟨b, off, none⟩ ∧ ¬ K b ∧ (∀ (j : Nat) (v : Value), (ckCells c I ic)[j]? = some v → w.cell? ⟨b, off + i * 36 + j, none⟩ = some v) ∧ RowC w I (nums .i64 c.keys) ∧ (nums .i64 c.keys ≠ [] → ∀ ad, I = some ad → ¬ K ad.block)
theorem CksR.toF {K : Nat → Prop} {P : Res} {w0 w : World} {L : List Item} {A : Option Addr} {cs : List Ck} (h : CksR w0 A cs) (H : TF (fun _ => False) P w0 w L) (hK : ∀ b, K b → w0.heap.size ≤ b) : CksF K w A cs := fun i c hi => by
  obtain ⟨b, off, I, ic, hA, hc, hr, _⟩ := h i c hi
  have hlt : ∀ {ad : Addr} {v : Value}, w0.cell? ad = some v → ¬ K ad.block := fun hc hk => by
    have := World.block_lt_of_cell? w0 _ hc
    have := hK _ hk
    omega
  refine ⟨b, off, I, ic, hA, hlt (hc 0 _ rfl), fun j v hv => H.cellO (hc j v hv) id, H.rowC hr (fun _ _ _ h => h), fun hne ad hI => ?_⟩
  obtain ⟨x, xs, hx⟩ := List.exists_cons_of_ne_nil hne
  obtain ⟨b', off', hI', hc'⟩ := hr 0 x (by rw [hx]; rfl)
  rw [hI] at hI'
  injection hI' with hI'
  subst hI'
  exact hlt hc'
/-- Steps lie outside all that is the thing's or new. -/
theorem CksF.tf {K K0 : Nat → Prop} {P : Res} {w0 w : World} {L : List Item} {A : Option Addr} {cs : List Ck} (h : CksF K0 w0 A cs) (H : TF K0 P w0 w L) (hK : ∀ b, K b → K0 b ∨ w0.heap.size ≤ b) : CksF K w A cs := fun i c hi => by
  obtain ⟨b, off, I, ic, hA, hn, hc, hr, hI⟩ := h i c hi
  have hlt : ∀ {ad : Addr} {v : Value}, w0.cell? ad = some v → ¬ K0 ad.block → ¬ K ad.block := fun hc hk0 hk => by
    have := World.block_lt_of_cell? w0 _ hc
    rcases hK _ hk with h | h
    · exact hk0 h
    · omega
  refine ⟨b, off, I, ic, hA, hlt (hc 0 _ rfl) hn, fun j v hv => H.cellO (hc j v hv) hn, H.rowC hr hI, fun hne ad hIe => ?_⟩
  obtain ⟨x, xs, hx⟩ := List.exists_cons_of_ne_nil hne
  obtain ⟨b', off', hI', hc'⟩ := hr 0 x (by rw [hx]; rfl)
  have hn' := hI hne ad hIe
  rw [hIe] at hI'
  injection hI' with hI'
  subst hI'
  exact hlt hc' hn'
end Go.Proofs.Ytcapfnbmmdbcoaa
namespace Go.Proofs.Ytcapfnbmmdbcoaa
open Go.RowKit
theorem z42 : (Try.prog.info? 42).map (·.zero) = some (some (.agg #[.pointer none])) := by kernel_rfl
theorem sz42 : (Try.prog.info? 42).map (·.size) = some 1 := by kernel_rfl
def z55c : List Value := [.int .i64 0, .int .i64 0, .string ⟨#[]⟩, .slice none 0 0] ++ nums .u8 (List.replicate 32 0)
theorem z55 : (Try.prog.info? 55).map (·.zero) = some (some (.agg z55c.toArray)) := by kernel_rfl
theorem sz55z : (Try.prog.info? 55).map (·.size) = some z55c.length := by kernel_rfl
theorem ck_one {c : Ck} {I : Option Addr} {ic : Nat} : ∀ v ∈ ckCells c I ic, v.oneCell' = true := fun v hv => by
  simp only [ckCells, List.mem_append, List.mem_cons, List.not_mem_nil, or_false, nums, List.mem_map] at hv
  rcases hv with (rfl | rfl | rfl | rfl) | ⟨x, _, rfl⟩ <;> rfl
theorem ck_len {c : Ck} {I : Option Addr} {ic : Nat} (h : CkOk c) : z55c.length = (ckCells c I ic).length := by
  rw [ckCells, List.length_append, nums_length, h.raw.1]
  rfl
theorem row_lt {w : World} {I : Option Addr} {cs : List Value} (hr : RowC w I cs) (hne : cs ≠ []) {ad : Addr} (hI : I = some ad) : ad.block < w.heap.size := by
  obtain ⟨x, xs, hx⟩ := List.exists_cons_of_ne_nil hne
  obtain ⟨b', off', hI', hc'⟩ := hr 0 x (by rw [hx]; rfl)
  rw [hI] at hI'
  injection hI' with hI'
  subst hI'
  exact World.block_lt_of_cell? w _ hc'
section
variable {P : Program} {ops : Array Oper} {rest : List Oper} {o : Oper} {a : Act} {w w0 : World} {Q : Exit → Act → World → Prop} {L L' : List Item} {R : Res} {K0 : Nat → Prop}
theorem wpF_alC (m : Nat) (H : TF K0 R w0 w L) (hR : Ok R) {ty : TypeId} {z : Value} {cs : List Value} (hz : (P.info? ty).map (·.zero) = some (some z)) (hzc : z.cells = cs.toArray) (hm : o.dst = some m) (hgd : o.guard = none) (ho : o.op = .alloc ty)
    (h : ∀ b w', TF K0 R w0 w' (.blk b (cellsO ty cs) :: L) → wpList P ops Q rest (a.put (some m) (.pointer (some ⟨b, 0, none⟩))) w') : wpList P ops Q (o :: rest) a w :=
  wpList_al hgd ho H.reb hz hzc fun b w' M => by rw [hm]; exact h b w' (H.step hR M)
theorem wpF_stC0 (hd : o.dst = none) (H : TF K0 R w0 w L) (hR : Ok R) {ty : TypeId} {vs cs : List Value} (hsz : (P.info? ty).map (·.size) = some vs.length) (hgd : o.guard = none) {x y : Operand} (ho : o.op = .store ty x y) {g : Nat} (hx : a.eval x = .pointer (some ⟨g, 0, none⟩))
    (hy : a.eval y = .agg vs.toArray) {t : TypeId} (hs : Swap (.blk g (cellsO t cs)) (.blk g (cellsO t vs)) L L') (hl : cs.length = vs.length) (h1 : ∀ v ∈ vs, v.oneCell' = true)
    (h : ∀ w', TF K0 R w0 w' L' → wpList P ops Q rest a w') : wpList P ops Q (o :: rest) a w :=
  wpList_strow hgd ho hx hy H.reb hs hsz hl h1 fun w' M => by rw [hd]; exact h w' (H.step hR M)
end
theorem TabP.lt' {K : Nat → Prop} {w : World} {g mb c : Nat} {A : Option Addr} {ts : List Tm} (h : TabP K w g mb A c ts) : TabP (fun b => K b ∧ b < w.heap.size) w g mb A c ts := h.lt
def FreeR (w : World) (e : Ending) (w' : World) : Prop := ∃ g, e = .returned (.agg #[.pointer (some ⟨g, 0, none⟩)]) ∧ TF (fun _ => False) (tabR g []) w w' []
theorem New11T (w : World) : Calls Try.prog 11 #[] w fun e w' => ∃ g, e = .returned (.pointer (some ⟨g, 0, none⟩)) ∧ TF (fun _ => False) (tabR g []) w w' [] :=
  (New11 w).mono fun e w' ⟨g, mb, he, T, M⟩ => ⟨g, he, M.os, M.tape, M.output, M.size, fun _ h => h.elim, ⟨_, ⟨mb, none, 0, T.lt'⟩, fun b hb => ⟨.inr hb.1, hb.2⟩, by simp⟩, fun b hb _ => M.old b hb (by simp), by simp, by simp, List.Pairwise.nil⟩
set_option maxRecDepth 100000 in
set_option maxHeartbeats 4000000 in
theorem NewFree20 (w : World) : Calls Try.prog 20 #[] w (FreeR w) := by
  have M0 := Mem.start w
  go_enter Try.func20, Try.ntmps20
  go_wp2_with (first | (refine wpList_al rfl rfl M0 z42 rfl (cs := [.pointer none]) (fun b0 w1 M1 => ?_); clear M0; (conv => arg 5; simp only [Act.put, List.setIfInBounds_toArray, List.set_cons_succ, List.set_cons_zero])) | (refine (New11T _).mono ?_; rintro e wn ⟨g, rfl, F⟩; have H := TF.pre M1 F; clear M1 F) | (refine wpList_strow (vs := [.pointer (some ⟨g, 0, none⟩)]) rfl rfl rfl rfl H.reb Swap.head sz42 rfl (by simp [Value.oneCell']) (fun wz Mz => ?_); have H2 := H.step (tabR_ok g []) Mz; clear H Mz; (try (conv => arg 5; simp only [Act.put, List.setIfInBounds_toArray, List.set_cons_succ, List.set_cons_zero]))))
  (try simp only [Exit.inBlock, Exit.then])
  refine ret_rowC Try.underlying42 sz42 rfl rfl rfl rfl H2.reb (cs := [.pointer (some ⟨g, 0, none⟩)]) List.mem_cons_self rfl ?_
  exact ⟨g, rfl, H2.sub (List.nil_sublist _)⟩
/-- A step of the stranger's on a thing that we hold. -/
theorem step48T {K0 : Nat → Prop} {w0 w : World} {L : List Item} {p g : Nat} {ts : List Tm} {seen made : List (List Int)} {SA : Option Addr} {sc : Nat} {c : Ck} {I : Option Addr} {ic : Nat}
    (H : TF K0 (starR (tabR g ts) (potR p g (.slice SA seen.length sc) made)) w0 w L)
    (tw : ∀ t ∈ ts, TmW t) (tl : ts.length ≤ 800000) (ml : made.length ≤ 100000) (sk : ∀ k ∈ seen, KeyOk k) (sr : RowT w 26 SA (nums .u8 seen.flatten)) (sn : ∀ ad, SA = some ad → ¬ K0 ad.block ∧ (ad.block < w0.heap.size ∨ ∃ x ∈ L, x.block = some ad.block))
    (ck : CkOk c) (ir : RowC w I (nums .i64 c.keys)) (inn : nums .i64 c.keys ≠ [] → ∀ ad, I = some ad → ¬ K0 ad.block ∧ ad.block < w0.heap.size) :
    Calls Try.prog 48 #[.pointer (some ⟨p, 0, none⟩), .agg (ckCells c I ic).toArray] w fun e w' => e = .returned (.tuple #[]) ∧ TF K0 (starR (tabR g (cookT ts seen made c).1) (potR p g (.slice SA seen.length sc) (made ++ (cookT ts seen made c).2))) w0 w' L := by
  refine (H.go (Post := fun K => CookR K p g (.slice SA seen.length sc) made w (cookT ts seen made c)) fun K h hlt hK hL => step48 ⟨h, hlt, tw, tl, ml, sk, sr, fun ad hA hk => ?_, ck, ir, fun hne ad hI hk => ?_⟩).mono ?_
  · obtain ⟨h1, h2⟩ := sn ad hA
    rcases hK _ hk with h | h
    · exact h1 h
    · rcases h2 with h2 | ⟨x, hx, hxb⟩
      · omega
      · exact hL x hx _ hxb hk
  · obtain ⟨h1, h2⟩ := inn hne ad hI
    rcases hK _ hk with h | h
    · exact h1 h
    · omega
  · rintro e w' ⟨K, ⟨L2, ⟨he, hL⟩, F⟩, hf⟩
    subst hL
    exact ⟨he, hf _ _ F⟩
def MadeR (K : Nat → Prop) (g : Nat) (w : World) (r : List Tm × List (List Int)) (e : Ending) (w' : World) : Prop :=
  ∃ B d, e = .returned (.slice B r.2.length d) ∧ (B = none → d = 0) ∧ TF K (starR (tabR g r.1) (rowR B r.2)) w w' []
set_option maxRecDepth 100000 in
set_option maxHeartbeats 4000000 in
theorem Make22 {K : Nat → Prop} {w : World} {g : Nat} {ts : List Tm} {seen : List (List Int)} {SA A : Option Addr} {sc ac : Nat} {cs : List Ck} {n0 : Nat}
    (res : tabR g ts K w) (lt : ∀ b, K b → b < w.heap.size) (I0 : CI n0 0 (ts, [])) (hn0 : n0 ≤ 700000) (hcl : cs.length ≤ 1000) (hck : ∀ c ∈ cs, CkOk c)
    (sk : ∀ k ∈ seen, KeyOk k ∧ Kn ts.length k) (sr : RowT w 26 SA (nums .u8 seen.flatten)) (sn : ∀ ad, SA = some ad → ¬ K ad.block ∧ ad.block < w.heap.size) (hcs : CksF K w A cs) :
    Calls Try.prog 22 #[.agg #[.pointer (some ⟨g, 0, none⟩)], .slice SA seen.length sc, .slice A cs.length ac] w (MadeR K g w (cooks seen (ts, []) cs)) := by
  have H := TF.start res lt
  have HT := fun ts' => hid (tabR_ok g ts')
  have hsk := hid sk
  have hsr := hid sr
  have hsn := hid sn
  have HC := hid hcs
  have HI := fun i hi => hid (I0.cooks sk hck (by omega) i hi)
  have HCK := hid hck
  clear res lt I0 sk sr sn hcs hck
  go_enter Try.func22, Try.ntmps22
  go_wp2_with (first | (refine wpF_bxC (cs := [.pointer (some ⟨g, 0, none⟩)]) 3 H (HT ts).out rfl rfl rfl rfl (fun b3 w1 H1 => ?_); clear H; have c0 := H1.reb.cell (i := 0) List.mem_cons_self rfl; (conv => arg 5; simp only [Act.put, List.setIfInBounds_toArray, List.set_cons_succ, List.set_cons_zero])) | (refine wpList_ldagg 10 rfl Try.underlying42 rfl rfl rfl rfl (H1.cellC List.mem_cons_self) sz42 ?_; (conv => arg 5; simp only [Act.put, List.setIfInBounds_toArray, List.set_cons_succ, List.set_cons_zero])) | (refine wpF_bxC (cs := [.pointer (some ⟨g, 0, none⟩), .slice SA seen.length sc, .slice none 0 0]) 13 H1 (HT ts).out rfl rfl rfl rfl (fun b13 w2 H2 => ?_); clear H1 c0; (conv => arg 5; simp only [Act.put, List.setIfInBounds_toArray, List.set_cons_succ, List.set_cons_zero])))
  have H3 : TF K (starR (tabR g ts) (potR b13 g (.slice SA seen.length sc) [])) w w2 [] := by
    refine TF.potIn (A := none) (c := 0) (made := []) (tabR_ok g ts) ?_ (by simp)
    have h := H2.step (tabR_ok g ts) (H2.reb.nil 26 32)
    exact (h.perm (List.Perm.swap _ _ _)).sub (by (repeat (first | exact List.Sublist.refl _ | apply List.Sublist.cons_cons | apply List.Sublist.cons)))
  go_loopw [16] (fun n wr => ∃ i : Nat, i ≤ cs.length ∧ n = .int .i64 i ∧ TF K (starR (tabR g (cooks seen (ts, []) (cs.take i)).1) (potR b13 g (.slice SA seen.length sc) (cooks seen (ts, []) (cs.take i)).2)) w wr []) (fun n _ => cs.length - (intOf n).toNat)
  case atStart => exact ⟨0, by omega, rfl, H3⟩
  case round =>
    obtain ⟨i, hi, rfl, Hi⟩ := hrel
    clear H2 H3
    by_cases hlt : i < cs.length
    · have hltI : (i : Int) < (cs.length : Int) := by omega
      obtain ⟨c, hce⟩ : ∃ c, cs[i]? = some c := ⟨cs[i], List.getElem?_eq_getElem hlt⟩
      obtain ⟨b, off, I, ic, hA, hnb, hc, hr, hIn⟩ := HC.out i c hce
      subst hA
      have HCE := hid hce
      have hI := HI i (by omega)
      have HCC := hid (fun j v hv => Hi.cellO (hc j v hv) hnb)
      have HCO := hid (HCK.out c (List.mem_of_getElem? hce))
      have HRR := hid (And.intro hr hIn)
      have HIB := hid (show nums .i64 c.keys ≠ [] → ∀ ad, I = some ad → ¬ K ad.block ∧ ad.block < w.heap.size from fun hne ad hIe => ⟨hIn hne ad hIe, row_lt hr hne hIe⟩)
      have hsucc := hid (cooks_succ (seen := seen) (s := (ts, [])) hce)
      obtain ⟨s, hs⟩ : ∃ s, s = cooks seen (ts, []) (cs.take i) := ⟨_, rfl⟩
      rw [← hs] at Hi hI hsucc
      have hml : s.2.length ≤ 100000 := by have := hI.out.ml; omega
      have htl : s.1.length ≤ 800000 := by have := hI.out.tl; omega
      have HP := fun ts' made => hid ((tabR_ok g ts').star (potR_ok b13 g (.slice SA seen.length sc) made))
      have HSK := hid (show ∀ k ∈ seen, KeyOk k from fun k hk => (hsk.out k hk).1)
      clear hce hc hr hIn hs hnb
      go_wp2_with (first | (refine wpList_ldagg 19 rfl Try.underlying55 rfl rfl rfl rfl HCC.out (sz55 HCO.out) ?_; (conv => arg 5; simp only [Act.put, List.setIfInBounds_toArray, List.set_cons_succ, List.set_cons_zero])) | (refine wpF_alC 9 Hi (HP _ _).out z55 rfl rfl rfl rfl (fun b9 w3 H3 => ?_); clear Hi; (conv => arg 5; simp only [Act.put, List.setIfInBounds_toArray, List.set_cons_succ, List.set_cons_zero])) | (refine wpF_stC0 (vs := ckCells c I ic) rfl H3 (HP _ _).out (sz55 HCO.out) rfl rfl rfl rfl Swap.head (ck_len HCO.out) ck_one (fun w4 H4 => ?_); clear H3; (try (conv => arg 5; simp only [Act.put, List.setIfInBounds_toArray, List.set_cons_succ, List.set_cons_zero]))) | (refine wpList_ldagg 21 rfl Try.underlying55 rfl rfl rfl rfl (H4.cellC List.mem_cons_self) (sz55 HCO.out) ?_; (conv => arg 5; simp only [Act.put, List.setIfInBounds_toArray, List.set_cons_succ, List.set_cons_zero])) | (refine (step48T H4 hI.out.tw htl hml HSK.out (H4.row hsr.out (fun ad h => (hsn.out ad h).1)) (fun ad h => ⟨(hsn.out ad h).1, .inl (hsn.out ad h).2⟩) HCO.out (H4.rowC HRR.out.1 HRR.out.2) HIB.out).mono ?_; rintro e wn ⟨rfl, H5⟩; clear H4))
      go_round
      case rel =>
        refine ⟨i + 1, by omega, by go_num, ?_⟩
        rw [hsucc.out]
        exact H5.sub (List.nil_sublist _)
      case measure => simp [intOf]; omega
    · obtain rfl : i = cs.length := by omega
      rw [List.take_of_length_le (Nat.le_refl _)] at Hi
      obtain ⟨Ar, cr, hcell, hcn, H5⟩ := Hi.potOut
      clear Hi
      have HCN := hid hcn
      clear hcn
      go_wp2_with fail
      go_ret
      exact ⟨Ar, cr, rfl, HCN.out, H5⟩
end Go.Proofs.Ytcapfnbmmdbcoaa
namespace Go.Proofs.Ytcapfnbmmdbcoaa
open Go.RowKit
/-- A step of the reference's on a thing that we hold. -/
theorem step49T {K0 : Nat → Prop} {w0 w : World} {L : List Item} {m : Nat} {ts : List Tm} {seen made : List (List Int)} {SA SB : Option Addr} {sc sd n : Nat} {c : Ck} {I : Option Addr} {ic : Nat}
    (H : TF K0 (refR m ts) w0 w L) (tw : ∀ t ∈ ts, TmW t) (tl : ts.length ≤ 800000) (sl : seen.length ≤ 100000) (ml : made.length ≤ 100000) (sk : ∀ k ∈ seen, KeyOk k) (mo : ∀ k ∈ made, KeyOk k)
    (sr : RowT w 26 SA (nums .u8 seen.flatten)) (sn : ∀ ad, SA = some ad → ¬ K0 ad.block ∧ ad.block < w0.heap.size) (hn : n = made.length) (hv : .vec SB n sd 26 32 (nums .u8 made.flatten) ∈ L)
    (ck : CkOk c) (ir : RowC w I (nums .i64 c.keys)) (inn : nums .i64 c.keys ≠ [] → ∀ ad, I = some ad → ¬ K0 ad.block ∧ ad.block < w0.heap.size) :
    Calls Try.prog 49 #[.pointer (some ⟨m, 0, none⟩), .slice SA seen.length sc, .slice SB n sd, .agg (ckCells c I ic).toArray] w fun e w' => ∃ B2 d2, e = .returned (.slice B2 (cookT ts seen made c).2.length d2) ∧ RowT w' 26 B2 (nums .u8 (cookT ts seen made c).2.flatten) ∧ TF K0 (refR m (cookT ts seen made c).1) w0 w' L := by
  subst hn
  refine (H.go (Post := fun K => RCookR K m w (cookT ts seen made c)) fun K h hlt hK hL => step49 ⟨h, hlt, tw, tl, sl, ml, sk, mo, sr, fun ad hA hk => ?_, H.reb.vecT hv, fun ad hA hk => hL _ hv _ (by rw [hA]; rfl) hk, ck, ir, fun hne ad hI hk => ?_⟩).mono ?_
  · obtain ⟨h1, h2⟩ := sn ad hA
    rcases hK _ hk with h | h
    · exact h1 h
    · omega
  · obtain ⟨h1, h2⟩ := inn hne ad hI
    rcases hK _ hk with h | h
    · exact h1 h
    · omega
  · rintro e w' ⟨K, ⟨B, d, he, hr, F⟩, hf⟩
    exact ⟨B, d, he, hr, hf _ _ F⟩
def RMadeR (K : Nat → Prop) (m : Nat) (w : World) (r : List Tm × List (List Int)) (e : Ending) (w' : World) : Prop :=
  ∃ B d, e = .returned (.slice B r.2.length d) ∧ TF K (refR m r.1) w w' [.vec B r.2.length d 26 32 (nums .u8 r.2.flatten)]
set_option maxRecDepth 100000 in
set_option maxHeartbeats 4000000 in
theorem Make23 {K : Nat → Prop} {w : World} {m : Nat} {ts : List Tm} {seen : List (List Int)} {SA A : Option Addr} {sc ac : Nat} {cs : List Ck} {n0 : Nat}
    (res : refR m ts K w) (lt : ∀ b, K b → b < w.heap.size) (I0 : CI n0 0 (ts, [])) (hn0 : n0 ≤ 700000) (hcl : cs.length ≤ 1000) (hck : ∀ c ∈ cs, CkOk c) (hsl : seen.length ≤ 100000)
    (sk : ∀ k ∈ seen, KeyOk k ∧ Kn ts.length k) (sr : RowT w 26 SA (nums .u8 seen.flatten)) (sn : ∀ ad, SA = some ad → ¬ K ad.block ∧ ad.block < w.heap.size) (hcs : CksF K w A cs) :
    Calls Try.prog 23 #[.pointer (some ⟨m, 0, none⟩), .slice SA seen.length sc, .slice A cs.length ac] w (RMadeR K m w (cooks seen (ts, []) cs)) := by
  have H := TF.start res lt
  have HT := fun ts' => hid (refR_ok m ts')
  have hsk := hid sk
  have hsr := hid sr
  have hsn := hid sn
  have HC := hid hcs
  have HI := fun i hi => hid (I0.cooks sk hck (by omega) i hi)
  have HCK := hid hck
  clear res lt I0 sk sr sn hcs hck
  go_enter Try.func23, Try.ntmps23
  go_wp2_with fail
  go_loopw [7, 8] (fun o x wr => ∃ (i : Nat) (B : Option Addr) (d : Nat), i ≤ cs.length ∧ x = .int .i64 i ∧ o = .slice B (cooks seen (ts, []) (cs.take i)).2.length d ∧ TF K (refR m (cooks seen (ts, []) (cs.take i)).1) w wr [.vec B (cooks seen (ts, []) (cs.take i)).2.length d 26 32 (nums .u8 (cooks seen (ts, []) (cs.take i)).2.flatten)]) (fun _ x _ => cs.length - (intOf x).toNat)
  case atStart => exact ⟨0, none, 0, by omega, rfl, rfl, H.step (HT ts).out (H.reb.nil 26 32)⟩
  case round =>
    obtain ⟨i, B, d, hi, rfl, rfl, Hi⟩ := hrel
    clear H
    by_cases hlt : i < cs.length
    · have hltI : (i : Int) < (cs.length : Int) := by omega
      obtain ⟨c, hce⟩ : ∃ c, cs[i]? = some c := ⟨cs[i], List.getElem?_eq_getElem hlt⟩
      obtain ⟨b, off, I, ic, hA, hnb, hc, hr, hIn⟩ := HC.out i c hce
      subst hA
      have hI := HI i (by omega)
      have hI2 := HI (i + 1) (by omega)
      have HCC := hid (fun j v hv => Hi.cellO (hc j v hv) hnb)
      have HCO := hid (HCK.out c (List.mem_of_getElem? hce))
      have HRR := hid (And.intro hr hIn)
      have HIB := hid (show nums .i64 c.keys ≠ [] → ∀ ad, I = some ad → ¬ K ad.block ∧ ad.block < w.heap.size from fun hne ad hIe => ⟨hIn hne ad hIe, row_lt hr hne hIe⟩)
      have hsucc := hid (cooks_succ (seen := seen) (s := (ts, [])) hce)
      obtain ⟨s, hs⟩ : ∃ s, s = cooks seen (ts, []) (cs.take i) := ⟨_, rfl⟩
      rw [← hs] at Hi hI hsucc ⊢
      rw [hsucc.out] at hI2
      have hml : s.2.length ≤ 100000 := by have := hI.out.ml; omega
      have htl : s.1.length ≤ 800000 := by have := hI.out.tl; omega
      have HSK := hid (show ∀ k ∈ seen, KeyOk k from fun k hk => (hsk.out k hk).1)
      have hml2 : s.2.length + (cookT s.1 seen s.2 c).2.length ≤ 1000000 := by have := hI2.out.ml; simp only [cookS, List.length_append] at this; omega
      have HKO := hid (show ∀ k ∈ (cookT s.1 seen s.2 c).2, KeyOk k from fun k hk => hI2.out.mo k (List.mem_append_right _ hk))
      clear hce hc hr hIn hs hnb
      go_wp2_with (first | (refine wpList_ldagg 22 rfl Try.underlying55 rfl rfl rfl rfl HCC.out (sz55 HCO.out) ?_; (conv => arg 5; simp only [Act.put, List.setIfInBounds_toArray, List.set_cons_succ, List.set_cons_zero])) | (refine (step49T Hi hI.out.tw htl hsl hml HSK.out hI.out.mo (Hi.row hsr.out (fun ad h => (hsn.out ad h).1)) hsn.out rfl List.mem_cons_self HCO.out (Hi.rowC HRR.out.1 HRR.out.2) HIB.out).mono ?_; rintro e wn ⟨B2, d2, rfl, hrow, H5⟩; clear Hi; have HROW := hid hrow; clear hrow) | (refine wpF_appK (ks := s.2) (qs := (cookT s.1 seen s.2 c).2) 26 H5 (HT _).out rfl rfl rfl rfl rfl (fun A' cap' => Swap.head) HROW.out HKO.out hml2 (fun A2 c2 w6 H6 => ?_); clear H5; (conv => arg 5; simp only [Act.put, List.setIfInBounds_toArray, List.set_cons_succ, List.set_cons_zero])))
      go_round
      case rel =>
        refine ⟨i + 1, A2, c2, by omega, by go_num, ?_, ?_⟩
        · rw [hsucc.out, cookS, List.length_append]
        · rw [hsucc.out, cookS, List.length_append]
          exact H6
      case measure => simp [intOf]; omega
    · obtain rfl : i = cs.length := by omega
      go_wp2_with fail
      go_ret
      rw [List.take_of_length_le (Nat.le_refl _)] at Hi ⊢
      exact ⟨B, d, rfl, Hi⟩
end Go.Proofs.Ytcapfnbmmdbcoaa
namespace Go.Proofs.Ytcapfnbmmdbcoaa
open Go.RowKit
def k7 : List Int := 7 :: List.replicate 31 0
theorem k7_ok : KeyOk k7 := ⟨by decide, fun x hx => by simp only [k7, List.mem_cons, List.mem_replicate] at hx; rcases hx with rfl | ⟨_, rfl⟩ <;> exact ⟨by decide, by decide⟩⟩
theorem b26k7 : ∀ w : World, (Instr.build 26 #[(0, .int .u8 7)]).run Try.prog w = .ok (.agg (nums .u8 k7).toArray) w := fun w => by kernel_rfl
def z32 : List Int := List.replicate 32 0
def ac1 : Ck := ⟨1, 0, ⟨#[]⟩, [], z32⟩
def ac2 : Ck := ⟨2, 0, ⟨#[110]⟩, [], z32⟩
def ac3 : Ck := ⟨3, 0, ⟨#[116]⟩, [0, 1], z32⟩
theorem z32_ok : KeyOk z32 := ⟨by decide, fun x hx => by simp only [z32, List.mem_replicate] at hx; rw [hx.2]; exact ⟨by decide, by decide⟩⟩
theorem b55a : ∀ w : World, (Instr.build 55 #[(0, .int .i64 1)]).run Try.prog w = .ok (.agg (ckCells ac1 none 0).toArray) w := fun w => by kernel_rfl
theorem b55b : ∀ w : World, (Instr.build 55 #[(0, .int .i64 2), (2, .string ⟨#[110]⟩)]).run Try.prog w = .ok (.agg (ckCells ac2 none 0).toArray) w := fun w => by kernel_rfl
theorem b55c (b : Nat) : ∀ w : World, (Instr.build 55 #[(0, .int .i64 3), (2, .string ⟨#[116]⟩), (3, .slice (some ⟨b, 0, none⟩) 2 2)]).run Try.prog w = .ok (.agg (ckCells ac3 (some ⟨b, 0, none⟩) 2).toArray) w := fun w => by kernel_rfl
theorem iz55 : (Try.prog.info? 55).map (fun i => (i.zero, i.size)) = some (some (.agg z55c.toArray), 36) := by kernel_rfl
theorem iz3 : (Try.prog.info? 3).map (fun i => (i.zero, i.size)) = some (some (.int .i64 0), 1) := by kernel_rfl
def alT1 : Tm := ⟨1, ⟨#[102, 111, 101, 32, 110]⟩, []⟩
def alT2 : Tm := ⟨2, ⟨#[116]⟩, [k7, kn 0]⟩
theorem al_made : cooks [k7] ([], []) [ac1, ac2, ac3] = ([alT1, alT2], [k7, kn 0, kn 1]) := by kernel_rfl
theorem al_draw : nm [alT1, alT2] alT1 = kn 0 ∧ putL [alT1, alT2] alT1 = [alT1, alT2] := ⟨by kernel_rfl, by kernel_rfl⟩
theorem al_hash : nm [alT1, alT2] alT2 = kn 1 ∧ putL [alT1, alT2] alT2 = [alT1, alT2] := ⟨by kernel_rfl, by kernel_rfl⟩
theorem ck_ok {k n : Int} {t : ByteArray} {l : List Int} (h1 : t.size ≤ 200) (h2 : l.length ≤ 10) : CkOk ⟨k, n, t, l, z32⟩ := ⟨h1, h2, z32_ok⟩
theorem k7_Kn (n : Nat) : Kn n k7 := fun h => absurd h (by decide +kernel)
theorem CI.empty : CI 0 0 ([], []) := ⟨by simp, by simp, by simp, by simp, by simp, by simp, by simp⟩
theorem ckCells_size {c : Ck} {I : Option Addr} {ic : Nat} (h : CkOk c) : (Value.agg (ckCells c I ic).toArray).cells.size = 36 := by
  show (ckCells c I ic).toArray.size = 36
  rw [List.size_toArray, ← ck_len (I := I) (ic := ic) h]
  rfl
theorem wpF_bsC3 {ops : Array Oper} {rest : List Oper} {o : Oper} {a : Act} {w w0 : World} {Q : Exit → Act → World → Prop} {L : List Item} {R : Res} {K0 : Nat → Prop} (m : Nat) (H : TF K0 R w0 w L) (hR : Ok R) (hm : o.dst = some m) (hgd : o.guard = none) {x y z : Operand} (ho : o.op = .buildSlice 39 3 #[(0, x), (1, y), (2, z)]) {c1 c2 c3 : Ck} {I1 I2 I3 : Option Addr} {i1 i2 i3 : Nat}
    (hx : a.eval x = .agg (ckCells c1 I1 i1).toArray) (hy : a.eval y = .agg (ckCells c2 I2 i2).toArray) (hz : a.eval z = .agg (ckCells c3 I3 i3).toArray) (h1 : CkOk c1) (h2 : CkOk c2) (h3 : CkOk c3)
    (h : ∀ b w', TF K0 R w0 w' (.blk b (cellsO 55 (ckCells c1 I1 i1 ++ ckCells c2 I2 i2 ++ ckCells c3 I3 i3)) :: L) → wpList Try.prog ops Q rest (a.put (some m) (.slice (some ⟨b, 0, none⟩) 3 3)) w') : wpList Try.prog ops Q (o :: rest) a w :=
  wpList_bsG Try.underlying39 iz55 (by decide) m hm hgd [.agg (ckCells c1 I1 i1).toArray, .agg (ckCells c2 I2 i2).toArray, .agg (ckCells c3 I3 i3).toArray] ho (by simp) (by simp [hx, hy, hz]) (by simp only [List.mem_cons, List.not_mem_nil, or_false]; rintro v (rfl | rfl | rfl); exact ckCells_size h1; exact ckCells_size h2; exact ckCells_size h3) H.reb fun b w' M' => h b w' (H.step hR (by
    rw [show ([Value.agg (ckCells c1 I1 i1).toArray, Value.agg (ckCells c2 I2 i2).toArray, Value.agg (ckCells c3 I3 i3).toArray].flatMap fun v => v.cells.toList) = ckCells c1 I1 i1 ++ ckCells c2 I2 i2 ++ ckCells c3 I3 i3 from by simp [Value.cells]] at M'
    exact M'))
theorem run_bld {P : Program} {o : Oper} {a : Act} {t : TypeId} {vs : Array (Nat × Value)} {v : Value} (hb : ∀ w : World, (Instr.build t vs).run P w = .ok v w) {parts : Array (Nat × Operand)} (ho : o.op = .build t parts)
    (hp : (parts.toList.map fun (i, x) => (i, a.eval x)) = vs.toList) (w : World) : (execOp a.eval o).run P w = .ok (.value v) w := by
  have hp' : (parts.map fun (i, x) => (i, a.eval x)) = vs := by
    apply Array.toList_inj.1
    simpa using hp
  subst hp'
  unfold execOp
  simp only [ho, Sem.run_bind, Sem.run_pure, Result.andThen_ok, hb]
theorem two_ok : ∀ k ∈ [k7, kn 0], KeyOk k := by simpa using And.intro k7_ok (kn_ok 0)
theorem HashT2 {K0 : Nat → Prop} {Q : Res} (hQ : Ok Q) {w0 w : World} {L : List Item} {g : Nat} {ts : List Tm} (H : TF K0 (starR (tabR g ts) Q) w0 w L) {text : ByteArray} {B : Option Addr} {n d : Nat} {ks : List (List Int)} (hn : n = ks.length) (ht : text.size ≤ 1000) (hk : ∀ k ∈ ks, KeyOk k) (hl : ks.length ≤ 1000) (hr : RowT w 26 B (nums .u8 ks.flatten)) (hB : B = none → d = 0) (hf : ts.length ≤ 900000) :
    Calls Try.prog 13 #[.pointer (some ⟨g, 0, none⟩), .string text, .slice B n d] w fun e w' => IsKey (nm ts ⟨2, text, ks⟩) e ∧ TF K0 (starR (tabR g (putL ts ⟨2, text, ks⟩)) Q) w0 w' L := by
  subst hn
  exact (H.runL hQ (R := fun e L2 => IsKey (nm ts ⟨2, text, ks⟩) e ∧ L2 = []) fun K1 h1 hlt => (HashK h1 ht hk hl hr hB hf).mono fun e w' ⟨he, F⟩ => ⟨[], ⟨he, rfl⟩, TF.of F hlt⟩).mono fun e w' ⟨L2, ⟨he, hL⟩, F⟩ => ⟨he, by rw [hL] at F; exact F⟩
theorem al_ck1 : CkOk ac1 := ck_ok (by decide) (by decide)
theorem al_ck2 : CkOk ac2 := ck_ok (by decide) (by decide)
theorem al_ck3 : CkOk ac3 := ck_ok (by decide) (by decide)
theorem al_ck : ∀ c ∈ [ac1, ac2, ac3], CkOk c := by
  intro c hc
  simp only [List.mem_cons, List.not_mem_nil, or_false] at hc
  rcases hc with rfl | rfl | rfl
  · exact al_ck1
  · exact al_ck2
  · exact al_ck3
theorem al_sk : ∀ k ∈ [k7], KeyOk k ∧ Kn ([] : List Tm).length k := fun k hk => by rw [List.mem_singleton] at hk; subst hk; exact ⟨k7_ok, k7_Kn _⟩
/-- Steps in a block of one's own. -/
theorem three_F {K : Nat → Prop} {w w0 : World} {E : List Nat} {L : List Item} {b b9 : Nat} (M : Mem w0 E w L) (h1 : Item.blk b (cellsO 55 (ckCells ac1 none 0 ++ ckCells ac2 none 0 ++ ckCells ac3 (some ⟨b9, 0, none⟩) 2)) ∈ L) (h2 : Item.blk b9 (cellsO 3 (nums .i64 [0, 1])) ∈ L) (n1 : ¬ K b) (n2 : ¬ K b9) : CksF K w (some ⟨b, 0, none⟩) [ac1, ac2, ac3] := by
  have key : ∀ (j : Nat) (v : Value), (ckCells ac1 none 0 ++ ckCells ac2 none 0 ++ ckCells ac3 (some ⟨b9, 0, none⟩) 2)[j]? = some v → w.cell? ⟨b, j, none⟩ = some v := fun j v hv => M.cell h1 hv
  intro i c hi
  match i, hi with
  | 0, hi =>
    injection hi with hi
    subst hi
    refine ⟨b, 0, none, 0, rfl, n1, fun j v hv => ?_, fun j v hv => by simp [ac1, nums] at hv, fun h => absurd rfl h⟩
    rw [show 0 + 0 * 36 + j = j from by omega]
    refine key j v ?_
    have hj := (List.getElem?_eq_some_iff.1 hv).1
    rw [List.append_assoc, List.getElem?_append_left hj, hv]
  | 1, hi =>
    injection hi with hi
    subst hi
    refine ⟨b, 0, none, 0, rfl, n1, fun j v hv => ?_, fun j v hv => by simp [ac2, nums] at hv, fun h => absurd rfl h⟩
    rw [show 0 + 1 * 36 + j = 36 + j from by omega]
    refine key (36 + j) v ?_
    have hj := (List.getElem?_eq_some_iff.1 hv).1
    have hl : (ckCells ac1 none 0).length = 36 := by decide +kernel
    rw [List.append_assoc, List.getElem?_append_right (by omega), List.getElem?_append_left (by omega), hl, Nat.add_sub_cancel_left, hv]
  | 2, hi =>
    injection hi with hi
    subst hi
    refine ⟨b, 0, some ⟨b9, 0, none⟩, 2, rfl, n1, fun j v hv => ?_, fun j v hv => ⟨b9, 0, rfl, ?_⟩, fun _ ad h => by injection h with h; subst h; exact n2⟩
    · refine key (0 + 2 * 36 + j) v ?_
      have hl : (ckCells ac1 none 0 ++ ckCells ac2 none 0).length = 72 := by decide +kernel
      rw [List.getElem?_append_right (by omega), hl, show 0 + 2 * 36 + j - 72 = j from by omega, hv]
    · rw [Nat.zero_add]
      exact M.cell h2 hv
  | i + 3, hi => simp at hi
theorem al_call {w0 w : World} {g b1 b6 b9 b11 : Nat} (H : TF (fun _ => False) (tabR g []) w0 w [.blk b11 (cellsO 55 (ckCells ac1 none 0 ++ ckCells ac2 none 0 ++ ckCells ac3 (some ⟨b9, 0, none⟩) 2)), .blk b9 (cellsO 3 (nums .i64 [0, 1])), .blk b6 (rowO .u8 26 [k7].flatten), .blk b1 (cellsO 42 [.pointer (some ⟨g, 0, none⟩)])]) :
    Calls Try.prog 22 #[.agg #[.pointer (some ⟨g, 0, none⟩)], .slice (some ⟨b6, 0, none⟩) 1 1, .slice (some ⟨b11, 0, none⟩) 3 3] w fun e w' => ∃ B d, e = .returned (.slice B 3 d) ∧ TF (fun _ => False) (starR (tabR g [alT1, alT2]) (rowR B [k7, kn 0, kn 1])) w0 w' [.blk b1 (cellsO 42 [.pointer (some ⟨g, 0, none⟩)])] := by
  refine (H.go (Post := fun K => MadeR K g w (cooks [k7] ([], []) [ac1, ac2, ac3])) fun K h hlt hK hL => Make22 (n0 := 0) h hlt CI.empty (by decide) (by decide) al_ck al_sk (H.reb.blkT (by (repeat (first | exact List.mem_cons_self | refine List.mem_cons_of_mem _ ?_)))) (fun ad hA => ?_) (three_F H.reb (by (repeat (first | exact List.mem_cons_self | refine List.mem_cons_of_mem _ ?_))) (by (repeat (first | exact List.mem_cons_self | refine List.mem_cons_of_mem _ ?_))) (hL _ List.mem_cons_self _ rfl) (hL _ (List.mem_cons_of_mem _ List.mem_cons_self) _ rfl))).mono ?_
  · injection hA with hA
    subst hA
    exact ⟨hL (.blk b6 (rowO .u8 26 [k7].flatten)) (by (repeat (first | exact List.mem_cons_self | refine List.mem_cons_of_mem _ ?_))) _ rfl, Item.lt (H.holds (.blk b6 (rowO .u8 26 [k7].flatten)) (by (repeat (first | exact List.mem_cons_self | refine List.mem_cons_of_mem _ ?_)))) rfl⟩
  · rintro e wn ⟨K, ⟨B, d, he, hBd, F⟩, hf⟩
    have H2 := (hf _ _ F).sub (L' := [.blk b1 (cellsO 42 [.pointer (some ⟨g, 0, none⟩)])]) (by (repeat (first | exact List.Sublist.refl _ | apply List.Sublist.cons_cons | apply List.Sublist.cons)))
    rw [al_made] at H2 he
    exact ⟨B, d, he, H2⟩
attribute [irreducible] ac1 ac2 ac3 k7
set_option maxRecDepth 100000 in
set_option maxHeartbeats 4000000 in
theorem alive18 (w : World) : Calls Try.prog 18 #[] w (BoolR true w) := by
  have M0 := Mem.start w
  go_enter Try.func18, Try.ntmps18
  go_wp2_with (first
    | (go_at_call 20; refine (NewFree20 _).mono ?_; rintro e w1 ⟨g, rfl, F⟩; have H := TF.pre M0 F; clear M0 F)
    | (refine wpF_alC 1 H (tabR_ok _ _) z42 rfl rfl rfl rfl (fun b1 wn Hn => ?_); clear H; rename TF _ _ _ _ _ => H; (conv => arg 5; simp only [Act.put, List.setIfInBounds_toArray, List.set_cons_succ, List.set_cons_zero]))
    | (refine wpF_stC0 (vs := [.pointer (some ⟨g, 0, none⟩)]) rfl H (tabR_ok _ _) sz42 rfl rfl rfl rfl Swap.head rfl (by simp [Value.oneCell']) (fun wn Hn => ?_); clear H; rename TF _ _ _ _ _ => H; (try (conv => arg 5; simp only [Act.put, List.setIfInBounds_toArray, List.set_cons_succ, List.set_cons_zero])))
    | (refine wpList_ldagg 4 rfl Try.underlying42 rfl rfl rfl rfl (H.cellC List.mem_cons_self) sz42 ?_; (conv => arg 5; simp only [Act.put, List.setIfInBounds_toArray, List.set_cons_succ, List.set_cons_zero]))
    | (refine wpList_bld (vs := #[(0, .int .u8 7)]) b26k7 rfl rfl rfl ?_; (conv => arg 5; simp only [Act.put, List.setIfInBounds_toArray, List.set_cons_succ, List.set_cons_zero]))
    | (refine wpF_bsK1 6 H (tabR_ok _ _) rfl rfl rfl rfl k7_ok (fun b6 wn Hn => ?_); clear H; rename TF _ _ _ _ _ => H; (conv => arg 5; simp only [Act.put, List.setIfInBounds_toArray, List.set_cons_succ, List.set_cons_zero]))
    | (refine wpList_bld (vs := #[(0, .int .i64 1)]) b55a rfl rfl rfl ?_; (conv => arg 5; simp only [Act.put, List.setIfInBounds_toArray, List.set_cons_succ, List.set_cons_zero]))
    | (refine wpList_bld (vs := #[(0, .int .i64 2), (2, .string ⟨#[110]⟩)]) b55b rfl rfl rfl ?_; (conv => arg 5; simp only [Act.put, List.setIfInBounds_toArray, List.set_cons_succ, List.set_cons_zero]))
    | (refine wpList_bsG Try.underlying53 iz3 (by decide) 9 rfl rfl [.int .i64 0, .int .i64 1] rfl (by decide) rfl (by simp [Value.cells]) H.reb (fun b9 wn Mn => ?_); replace H := H.step (tabR_ok _ _) Mn; clear Mn; (conv => arg 5; simp only [Act.put, List.setIfInBounds_toArray, List.set_cons_succ, List.set_cons_zero]))
    | (refine wpList_bld (vs := #[(0, .int .i64 3), (2, .string ⟨#[116]⟩), (3, .slice (some ⟨b9, 0, none⟩) 2 2)]) (b55c b9) rfl rfl rfl ?_; (conv => arg 5; simp only [Act.put, List.setIfInBounds_toArray, List.set_cons_succ, List.set_cons_zero]))
    | (refine wpF_bsC3 11 H (tabR_ok _ _) rfl rfl rfl rfl rfl rfl al_ck1 al_ck2 al_ck3 (fun b11 wn Hn => ?_); clear H; rename TF _ _ _ _ _ => H; (conv => arg 5; simp only [Act.put, List.setIfInBounds_toArray, List.set_cons_succ, List.set_cons_zero]))
    | (refine (al_call H).mono ?_; clear H; rintro e wn ⟨B, d, rfl, H⟩))
  have HKS := hid (show ∀ k ∈ [k7, kn 0, kn 1], KeyOk k from by simpa using ⟨k7_ok, kn_ok 0, kn_ok 1⟩)
  obtain ⟨bB, oB, hB, _⟩ := keys_at HKS.out H.rowT (i := 0) (k := k7) rfl
  subst hB
  refine wp_region_planTF (fun w => RowT w 26 (some ⟨bB, oB, none⟩) (nums .u8 [k7, kn 0, kn 1].flatten)) (.free 0 (.free 1 (.free 2 (.free 3 (.free 4 (.free 5 (.free 6 (.free 7 (.free 8 (.free 9 (.free 10 (.free 11 (.free 12 (.free 13 (.free 14 (.free 15 (.one 16 (.free 17 (.free 18 (.free 19 (.free 20 (.free 21 (.free 22 (.free 23 (.free 24 (.free 25 (.free 26 (.free 27 (.free 28 (.free 29 (.free 30 (.one 31 (.one 32 (.free 33 (.free 34 (.free 35 (.done))))))))))))))))))))))))))))))))))))) (by kernel_rfl) (by kernel_rfl) (fun _ _ _ _ _ h => h) H ((tabR_ok _ _).star (rowR_ok _ _)) ?_
  clear H
  intro ops Q HO HQ w3 H
  have hops := HO.out
  subst hops
  (refine wpT_free rfl rfl (.inl ⟨rfl, fun w _ => by go_simp; rfl⟩) (by exact ⟨⟨_, _, H.reb.sub (by (repeat (first | exact List.Sublist.refl _ | apply List.Sublist.cons_cons | apply List.Sublist.cons)))⟩, H.rowT⟩) ?_; (conv => arg 6; simp only [Act.put, List.setIfInBounds_toArray, List.set_cons_succ, List.set_cons_zero]))
  (refine wpT_free rfl rfl (.inl ⟨rfl, fun w _ => by go_simp; rfl⟩) (by exact ⟨⟨_, _, H.reb.sub (by (repeat (first | exact List.Sublist.refl _ | apply List.Sublist.cons_cons | apply List.Sublist.cons)))⟩, H.rowT⟩) ?_; (conv => arg 6; simp only [Act.put, List.setIfInBounds_toArray, List.set_cons_succ, List.set_cons_zero]))
  (refine wpT_free (v := .bool true) rfl rfl (.inl ⟨rfl, fun w _ => by (go_simp <;> rfl)⟩) (by exact ⟨⟨_, _, H.reb.sub (by (repeat (first | exact List.Sublist.refl _ | apply List.Sublist.cons_cons | apply List.Sublist.cons)))⟩, H.rowT⟩) ?_; (conv => arg 6; simp only [Act.put, List.setIfInBounds_toArray, List.set_cons_succ, List.set_cons_zero]))
  (refine wpT_free rfl rfl (.inl ⟨rfl, fun w _ => by go_simp; rfl⟩) (by exact ⟨⟨_, _, H.reb.sub (by (repeat (first | exact List.Sublist.refl _ | apply List.Sublist.cons_cons | apply List.Sublist.cons)))⟩, H.rowT⟩) ?_; (conv => arg 6; simp only [Act.put, List.setIfInBounds_toArray, List.set_cons_succ, List.set_cons_zero]))
  (refine wpT_free rfl rfl (.inl ⟨rfl, fun w _ => by go_simp; rfl⟩) (by exact ⟨⟨_, _, H.reb.sub (by (repeat (first | exact List.Sublist.refl _ | apply List.Sublist.cons_cons | apply List.Sublist.cons)))⟩, H.rowT⟩) ?_; (conv => arg 6; simp only [Act.put, List.setIfInBounds_toArray, List.set_cons_succ, List.set_cons_zero]))
  (refine wpT_free (v := .pointer (some ⟨bB, oB, none⟩)) rfl rfl (.inl ⟨rfl, fun w _ => by go_simp⟩) (by exact ⟨⟨_, _, H.reb.sub (by (repeat (first | exact List.Sublist.refl _ | apply List.Sublist.cons_cons | apply List.Sublist.cons)))⟩, H.rowT⟩) ?_; (conv => arg 6; simp only [Act.put, List.setIfInBounds_toArray, List.set_cons_succ, List.set_cons_zero]))
  (refine wpT_free rfl rfl (.inl ⟨rfl, fun w hw => run_ldK Try.underlying26 rfl rfl rfl (row_key (i := 0) HKS.out hw.2 rfl (by simp)) (s26k k7_ok)⟩) (by exact ⟨⟨_, _, H.reb.sub (by (repeat (first | exact List.Sublist.refl _ | apply List.Sublist.cons_cons | apply List.Sublist.cons)))⟩, H.rowT⟩) ?_; (conv => arg 6; simp only [Act.put, List.setIfInBounds_toArray, List.set_cons_succ, List.set_cons_zero]))
  (refine wpT_free rfl rfl (.inl ⟨rfl, fun w _ => run_bld (vs := #[(0, .int .u8 7)]) b26k7 rfl rfl w⟩) (by exact ⟨⟨_, _, H.reb.sub (by (repeat (first | exact List.Sublist.refl _ | apply List.Sublist.cons_cons | apply List.Sublist.cons)))⟩, H.rowT⟩) ?_; (conv => arg 6; simp only [Act.put, List.setIfInBounds_toArray, List.set_cons_succ, List.set_cons_zero]))
  (refine wpT_free rfl rfl (.inl ⟨rfl, fun w _ => run_eq26b true rfl rfl rfl k7_ok.1 k7_ok.1 (decide_eq_true rfl) w⟩) (by exact ⟨⟨_, _, H.reb.sub (by (repeat (first | exact List.Sublist.refl _ | apply List.Sublist.cons_cons | apply List.Sublist.cons)))⟩, H.rowT⟩) ?_; (conv => arg 6; simp only [Act.put, List.setIfInBounds_toArray, List.set_cons_succ, List.set_cons_zero]))
  (refine wpT_free rfl rfl (.inl ⟨rfl, fun w _ => by go_simp; rfl⟩) (by exact ⟨⟨_, _, H.reb.sub (by (repeat (first | exact List.Sublist.refl _ | apply List.Sublist.cons_cons | apply List.Sublist.cons)))⟩, H.rowT⟩) ?_; (conv => arg 6; simp only [Act.put, List.setIfInBounds_toArray, List.set_cons_succ, List.set_cons_zero]))
  (refine wpT_free rfl rfl (.inl ⟨rfl, fun w _ => by go_simp; rfl⟩) (by exact ⟨⟨_, _, H.reb.sub (by (repeat (first | exact List.Sublist.refl _ | apply List.Sublist.cons_cons | apply List.Sublist.cons)))⟩, H.rowT⟩) ?_; (conv => arg 6; simp only [Act.put, List.setIfInBounds_toArray, List.set_cons_succ, List.set_cons_zero]))
  (refine wpT_free rfl rfl (.inl ⟨rfl, fun w _ => by go_simp; rfl⟩) (by exact ⟨⟨_, _, H.reb.sub (by (repeat (first | exact List.Sublist.refl _ | apply List.Sublist.cons_cons | apply List.Sublist.cons)))⟩, H.rowT⟩) ?_; (conv => arg 6; simp only [Act.put, List.setIfInBounds_toArray, List.set_cons_succ, List.set_cons_zero]))
  (refine wpT_free (v := .pointer (some ⟨bB, oB + 32, none⟩)) rfl rfl (.inl ⟨rfl, fun w _ => by go_simp⟩) (by exact ⟨⟨_, _, H.reb.sub (by (repeat (first | exact List.Sublist.refl _ | apply List.Sublist.cons_cons | apply List.Sublist.cons)))⟩, H.rowT⟩) ?_; (conv => arg 6; simp only [Act.put, List.setIfInBounds_toArray, List.set_cons_succ, List.set_cons_zero]))
  (refine wpT_free rfl rfl (.inl ⟨rfl, fun w hw => run_ldK Try.underlying26 rfl rfl rfl (row_key (i := 1) HKS.out hw.2 rfl rfl) (s26k (kn_ok 0))⟩) (by exact ⟨⟨_, _, H.reb.sub (by (repeat (first | exact List.Sublist.refl _ | apply List.Sublist.cons_cons | apply List.Sublist.cons)))⟩, H.rowT⟩) ?_; (conv => arg 6; simp only [Act.put, List.setIfInBounds_toArray, List.set_cons_succ, List.set_cons_zero]))
  (refine wpT_free rfl rfl (.inl ⟨rfl, fun w _ => by go_simp; rfl⟩) (by exact ⟨⟨_, _, H.reb.sub (by (repeat (first | exact List.Sublist.refl _ | apply List.Sublist.cons_cons | apply List.Sublist.cons)))⟩, H.rowT⟩) ?_; (conv => arg 6; simp only [Act.put, List.setIfInBounds_toArray, List.set_cons_succ, List.set_cons_zero]))
  (refine wpT_free rfl rfl (.inl ⟨rfl, fun w hw => run_ld1 Try.underlying23 rfl rfl rfl (st_cell (i := 0) (T := fun w => RowT w 26 (some ⟨bB, oB, none⟩) (nums .u8 [k7, kn 0, kn 1].flatten)) hw (by (repeat (first | exact List.mem_cons_self | refine List.mem_cons_of_mem _ ?_))) rfl)⟩) (by exact ⟨⟨_, _, H.reb.sub (by (repeat (first | exact List.Sublist.refl _ | apply List.Sublist.cons_cons | apply List.Sublist.cons)))⟩, H.rowT⟩) ?_; (conv => arg 6; simp only [Act.put, List.setIfInBounds_toArray, List.set_cons_succ, List.set_cons_zero]))
  refine wpT_op rfl ?_
  go_wp2_with (go_at_call 12; refine (DrawT (text := alT1.text) (rowR_ok _ _) H (by decide) (by decide)).mono ?_; rw [show (⟨1, alT1.text, []⟩ : Tm) = alT1 from rfl, al_draw.1, al_draw.2]; clear H; rintro e wn ⟨rfl, H⟩)
  refine PlanTQ.mk (by exact ⟨⟨_, _, H.reb.sub (by (repeat (first | exact List.Sublist.refl _ | apply List.Sublist.cons_cons | apply List.Sublist.cons)))⟩, H.rowT⟩) ?_
  (refine wpT_free rfl rfl (.inl ⟨rfl, fun w _ => run_eq26b true rfl rfl rfl (kn_ok 0).1 (kn_ok 0).1 (decide_eq_true rfl) w⟩) (by exact ⟨⟨_, _, H.reb.sub (by (repeat (first | exact List.Sublist.refl _ | apply List.Sublist.cons_cons | apply List.Sublist.cons)))⟩, H.rowT⟩) ?_; (conv => arg 6; simp only [Act.put, List.setIfInBounds_toArray, List.set_cons_succ, List.set_cons_zero]))
  (refine wpT_free rfl rfl (.inl ⟨rfl, fun w _ => by go_simp; rfl⟩) (by exact ⟨⟨_, _, H.reb.sub (by (repeat (first | exact List.Sublist.refl _ | apply List.Sublist.cons_cons | apply List.Sublist.cons)))⟩, H.rowT⟩) ?_; (conv => arg 6; simp only [Act.put, List.setIfInBounds_toArray, List.set_cons_succ, List.set_cons_zero]))
  (refine wpT_free rfl rfl (.inl ⟨rfl, fun w _ => by go_simp; rfl⟩) (by exact ⟨⟨_, _, H.reb.sub (by (repeat (first | exact List.Sublist.refl _ | apply List.Sublist.cons_cons | apply List.Sublist.cons)))⟩, H.rowT⟩) ?_; (conv => arg 6; simp only [Act.put, List.setIfInBounds_toArray, List.set_cons_succ, List.set_cons_zero]))
  (refine wpT_free rfl rfl (.inl ⟨rfl, fun w _ => by go_simp; rfl⟩) (by exact ⟨⟨_, _, H.reb.sub (by (repeat (first | exact List.Sublist.refl _ | apply List.Sublist.cons_cons | apply List.Sublist.cons)))⟩, H.rowT⟩) ?_; (conv => arg 6; simp only [Act.put, List.setIfInBounds_toArray, List.set_cons_succ, List.set_cons_zero]))
  (refine wpT_free (v := .pointer (some ⟨bB, oB + 64, none⟩)) rfl rfl (.inl ⟨rfl, fun w _ => by go_simp⟩) (by exact ⟨⟨_, _, H.reb.sub (by (repeat (first | exact List.Sublist.refl _ | apply List.Sublist.cons_cons | apply List.Sublist.cons)))⟩, H.rowT⟩) ?_; (conv => arg 6; simp only [Act.put, List.setIfInBounds_toArray, List.set_cons_succ, List.set_cons_zero]))
  (refine wpT_free rfl rfl (.inl ⟨rfl, fun w hw => run_ldK Try.underlying26 rfl rfl rfl (row_key (i := 2) HKS.out hw.2 rfl rfl) (s26k (kn_ok 1))⟩) (by exact ⟨⟨_, _, H.reb.sub (by (repeat (first | exact List.Sublist.refl _ | apply List.Sublist.cons_cons | apply List.Sublist.cons)))⟩, H.rowT⟩) ?_; (conv => arg 6; simp only [Act.put, List.setIfInBounds_toArray, List.set_cons_succ, List.set_cons_zero]))
  (refine wpT_free rfl rfl (.inl ⟨rfl, fun w _ => by go_simp; rfl⟩) (by exact ⟨⟨_, _, H.reb.sub (by (repeat (first | exact List.Sublist.refl _ | apply List.Sublist.cons_cons | apply List.Sublist.cons)))⟩, H.rowT⟩) ?_; (conv => arg 6; simp only [Act.put, List.setIfInBounds_toArray, List.set_cons_succ, List.set_cons_zero]))
  (refine wpT_free rfl rfl (.inl ⟨rfl, fun w hw => run_ld1 Try.underlying23 rfl rfl rfl (st_cell (i := 0) (T := fun w => RowT w 26 (some ⟨bB, oB, none⟩) (nums .u8 [k7, kn 0, kn 1].flatten)) hw (by (repeat (first | exact List.mem_cons_self | refine List.mem_cons_of_mem _ ?_))) rfl)⟩) (by exact ⟨⟨_, _, H.reb.sub (by (repeat (first | exact List.Sublist.refl _ | apply List.Sublist.cons_cons | apply List.Sublist.cons)))⟩, H.rowT⟩) ?_; (conv => arg 6; simp only [Act.put, List.setIfInBounds_toArray, List.set_cons_succ, List.set_cons_zero]))
  (refine wpT_free rfl rfl (.inl ⟨rfl, fun w _ => by go_simp; rfl⟩) (by exact ⟨⟨_, _, H.reb.sub (by (repeat (first | exact List.Sublist.refl _ | apply List.Sublist.cons_cons | apply List.Sublist.cons)))⟩, H.rowT⟩) ?_; (conv => arg 6; simp only [Act.put, List.setIfInBounds_toArray, List.set_cons_succ, List.set_cons_zero]))
  (refine wpT_free (v := .pointer (some ⟨bB, oB, none⟩)) rfl rfl (.inl ⟨rfl, fun w _ => by go_simp⟩) (by exact ⟨⟨_, _, H.reb.sub (by (repeat (first | exact List.Sublist.refl _ | apply List.Sublist.cons_cons | apply List.Sublist.cons)))⟩, H.rowT⟩) ?_; (conv => arg 6; simp only [Act.put, List.setIfInBounds_toArray, List.set_cons_succ, List.set_cons_zero]))
  (refine wpT_free rfl rfl (.inl ⟨rfl, fun w hw => run_ldK Try.underlying26 rfl rfl rfl (row_key (i := 0) HKS.out hw.2 rfl (by simp)) (s26k k7_ok)⟩) (by exact ⟨⟨_, _, H.reb.sub (by (repeat (first | exact List.Sublist.refl _ | apply List.Sublist.cons_cons | apply List.Sublist.cons)))⟩, H.rowT⟩) ?_; (conv => arg 6; simp only [Act.put, List.setIfInBounds_toArray, List.set_cons_succ, List.set_cons_zero]))
  (refine wpT_free rfl rfl (.inl ⟨rfl, fun w _ => by go_simp; rfl⟩) (by exact ⟨⟨_, _, H.reb.sub (by (repeat (first | exact List.Sublist.refl _ | apply List.Sublist.cons_cons | apply List.Sublist.cons)))⟩, H.rowT⟩) ?_; (conv => arg 6; simp only [Act.put, List.setIfInBounds_toArray, List.set_cons_succ, List.set_cons_zero]))
  (refine wpT_free (v := .pointer (some ⟨bB, oB + 32, none⟩)) rfl rfl (.inl ⟨rfl, fun w _ => by go_simp⟩) (by exact ⟨⟨_, _, H.reb.sub (by (repeat (first | exact List.Sublist.refl _ | apply List.Sublist.cons_cons | apply List.Sublist.cons)))⟩, H.rowT⟩) ?_; (conv => arg 6; simp only [Act.put, List.setIfInBounds_toArray, List.set_cons_succ, List.set_cons_zero]))
  (refine wpT_free rfl rfl (.inl ⟨rfl, fun w hw => run_ldK Try.underlying26 rfl rfl rfl (row_key (i := 1) HKS.out hw.2 rfl rfl) (s26k (kn_ok 0))⟩) (by exact ⟨⟨_, _, H.reb.sub (by (repeat (first | exact List.Sublist.refl _ | apply List.Sublist.cons_cons | apply List.Sublist.cons)))⟩, H.rowT⟩) ?_; (conv => arg 6; simp only [Act.put, List.setIfInBounds_toArray, List.set_cons_succ, List.set_cons_zero]))
  refine wpT_op rfl (wpList_want rfl ?_)
  go_wp2_with (refine wpF_bsK2 44 H ((tabR_ok _ _).star (rowR_ok _ _)) rfl rfl rfl rfl rfl k7_ok (kn_ok 0) (fun b44 wn Hn => ?_); clear H; rename TF _ _ _ _ _ => H; (conv => arg 5; simp only [Act.put, List.setIfInBounds_toArray, List.set_cons_succ, List.set_cons_zero]))
  refine PlanTQ.mk (by exact ⟨⟨_, _, H.reb.sub (by (repeat (first | exact List.Sublist.refl _ | apply List.Sublist.cons_cons | apply List.Sublist.cons)))⟩, H.rowT⟩) ?_
  refine wpT_op rfl ?_
  go_wp2_with (go_at_call 13; refine (HashT2 (text := alT2.text) (ks := [k7, kn 0]) (rowR_ok _ _) H rfl (by decide) two_ok (by decide) (H.reb.blkT List.mem_cons_self) (fun h => by cases h) (by decide)).mono ?_; rw [show (⟨2, alT2.text, [k7, kn 0]⟩ : Tm) = alT2 from rfl, al_hash.1, al_hash.2]; clear H; rintro e wn ⟨rfl, H⟩)
  refine PlanTQ.mk (by exact ⟨⟨_, _, H.reb.sub (by (repeat (first | exact List.Sublist.refl _ | apply List.Sublist.cons_cons | apply List.Sublist.cons)))⟩, H.rowT⟩) ?_
  (refine wpT_free rfl rfl (.inl ⟨rfl, fun w _ => run_eq26b true rfl rfl rfl (kn_ok 1).1 (kn_ok 1).1 (decide_eq_true rfl) w⟩) (by exact ⟨⟨_, _, H.reb.sub (by (repeat (first | exact List.Sublist.refl _ | apply List.Sublist.cons_cons | apply List.Sublist.cons)))⟩, H.rowT⟩) ?_; (conv => arg 6; simp only [Act.put, List.setIfInBounds_toArray, List.set_cons_succ, List.set_cons_zero]))
  (refine wpT_free rfl rfl (.inl ⟨rfl, fun w _ => by go_simp; rfl⟩) (by exact ⟨⟨_, _, H.reb.sub (by (repeat (first | exact List.Sublist.refl _ | apply List.Sublist.cons_cons | apply List.Sublist.cons)))⟩, H.rowT⟩) ?_; (conv => arg 6; simp only [Act.put, List.setIfInBounds_toArray, List.set_cons_succ, List.set_cons_zero]))
  (refine wpT_free rfl rfl (.inl ⟨rfl, fun w _ => by go_simp; rfl⟩) (by exact ⟨⟨_, _, H.reb.sub (by (repeat (first | exact List.Sublist.refl _ | apply List.Sublist.cons_cons | apply List.Sublist.cons)))⟩, H.rowT⟩) ?_; (conv => arg 6; simp only [Act.put, List.setIfInBounds_toArray, List.set_cons_succ, List.set_cons_zero]))
  refine wpT_done ?_
  rw [HQ.out]
  go_wp2_with fail
  go_ret
  exact ⟨rfl, H.toMem.sub (List.nil_sublist _)⟩
end Go.Proofs.Ytcapfnbmmdbcoaa
namespace Go.Proofs.Ytcapfnbmmdbcoaa
open Go.RowKit
def sT0 : Tm := ⟨1, ⟨#[97]⟩, []⟩
def sT1 : Tm := ⟨1, ⟨#[98]⟩, []⟩
def sT2 : Tm := ⟨6, ⟨#[116, 101, 120, 116]⟩, [kn 0, zK, kn 1]⟩
def sT3 : Tm := ⟨3, ⟨#[]⟩, [kn 1]⟩
def sT4 : Tm := ⟨2, ⟨#[104]⟩, [kn 0]⟩
/-- The terms of others. -/
def secT : List Tm := [sT0, sT1, sT2, sT3, sT4]
/-- What is seen of them. -/
def secK : List (List Int) := [kn 2, kn 3, kn 4]
theorem sec0 : nm [] sT0 = kn 0 ∧ putL [] sT0 = [sT0] := ⟨by kernel_rfl, by kernel_rfl⟩
theorem sec1 : nm [sT0] sT1 = kn 1 ∧ putL [sT0] sT1 = [sT0, sT1] := ⟨by kernel_rfl, by kernel_rfl⟩
theorem sec2 : nm [sT0, sT1] sT2 = kn 2 ∧ putL [sT0, sT1] sT2 = [sT0, sT1, sT2] := ⟨by kernel_rfl, by kernel_rfl⟩
theorem sec3 : nm [sT0, sT1, sT2] sT3 = kn 3 ∧ putL [sT0, sT1, sT2] sT3 = [sT0, sT1, sT2, sT3] := ⟨by kernel_rfl, by kernel_rfl⟩
theorem sec4 : nm [sT0, sT1, sT2, sT3] sT4 = kn 4 ∧ putL [sT0, sT1, sT2, sT3] sT4 = secT := ⟨by kernel_rfl, by kernel_rfl⟩
section
variable {K0 : Nat → Prop} {Q : Res} {w0 w : World} {L : List Item} {g m : Nat} {ts ts' : List Tm} {k : List Int}
theorem DrawTN (hQ : Ok Q) (H : TF K0 (starR (tabR g ts) Q) w0 w L) {text : ByteArray} (hq : nm ts ⟨1, text, []⟩ = k ∧ putL ts ⟨1, text, []⟩ = ts') (ht : text.size ≤ 1000) (hf : ts.length ≤ 900000) :
    Calls Try.prog 12 #[.pointer (some ⟨g, 0, none⟩), .string text] w fun e w' => e = .returned (.agg (nums .u8 k).toArray) ∧ TF K0 (starR (tabR g ts') Q) w0 w' L := by
  obtain ⟨rfl, rfl⟩ := hq
  exact DrawT hQ H ht hf
theorem HashTN (hQ : Ok Q) (H : TF K0 (starR (tabR g ts) Q) w0 w L) {text : ByteArray} {B : Option Addr} {n d : Nat} {ks : List (List Int)} (hn : n = ks.length) (hq : nm ts ⟨2, text, ks⟩ = k ∧ putL ts ⟨2, text, ks⟩ = ts') (ht : text.size ≤ 1000) (hk : ∀ k ∈ ks, KeyOk k) (hl : ks.length ≤ 1000) (hr : RowT w 26 B (nums .u8 ks.flatten)) (hB : B = none → d = 0) (hf : ts.length ≤ 900000) :
    Calls Try.prog 13 #[.pointer (some ⟨g, 0, none⟩), .string text, .slice B n d] w fun e w' => e = .returned (.agg (nums .u8 k).toArray) ∧ TF K0 (starR (tabR g ts') Q) w0 w' L := by
  obtain ⟨rfl, rfl⟩ := hq
  exact HashT2 hQ H hn ht hk hl hr hB hf
theorem PubTN (hQ : Ok Q) (H : TF K0 (starR (tabR g ts) Q) w0 w L) {q : List Int} (hq : nm ts ⟨3, ⟨#[]⟩, [q]⟩ = k ∧ putL ts ⟨3, ⟨#[]⟩, [q]⟩ = ts') (hk : KeyOk q) (hf : ts.length ≤ 900000) :
    Calls Try.prog 27 #[.pointer (some ⟨g, 0, none⟩), .agg (nums .u8 q).toArray] w fun e w' => e = .returned (.agg (nums .u8 k).toArray) ∧ TF K0 (starR (tabR g ts') Q) w0 w' L := by
  obtain ⟨rfl, rfl⟩ := hq
  exact PubT hQ H hk hf
theorem SealTN (hQ : Ok Q) (H : TF K0 (starR (tabR g ts) Q) w0 w L) {text : ByteArray} {q l : List Int} {B : Option Addr} {n d : Nat} {ks : List (List Int)} (hn : n = ks.length) (hq : nm ts ⟨6, text, q :: l :: ks⟩ = k ∧ putL ts ⟨6, text, q :: l :: ks⟩ = ts') (ht : text.size ≤ 1000) (hk : KeyOk q) (hkl : KeyOk l) (hks : ∀ k ∈ ks, KeyOk k) (hl : ks.length ≤ 900) (hr : RowT w 26 B (nums .u8 ks.flatten)) (hB : B = none → d = 0) (hf : ts.length ≤ 900000) :
    Calls Try.prog 15 #[.pointer (some ⟨g, 0, none⟩), .agg (nums .u8 q).toArray, .agg (nums .u8 l).toArray, .string text, .slice B n d] w fun e w' => e = .returned (.string (strOfNums k)) ∧ TF K0 (starR (tabR g ts') Q) w0 w' L := by
  obtain ⟨rfl, rfl⟩ := hq
  exact SealT hQ H hn ht hk hkl hks hl hr hB hf
/-- Make of the reference, a term put in its table. -/
theorem MakeRN (hQ : Ok Q) (H : TF K0 (starR Q (refR m ts)) w0 w L) {kind : Int} {text : ByteArray} {ks : List (List Int)} {B : Option Addr} {n d : Nat} (hn : n = ks.length) (hq : nm ts ⟨kind, text, ks⟩ = k ∧ putL ts ⟨kind, text, ks⟩ = ts') (ht : TmOk ⟨kind, text, ks⟩) (hr : RowT w 26 B (nums .u8 ks.flatten)) (hf : ts.length ≤ 900000) :
    Calls Try.prog 45 #[.pointer (some ⟨m, 0, none⟩), .int .i64 kind, .string text, .slice B n d] w fun e w' => e = .returned (.agg (nums .u8 k).toArray) ∧ TF K0 (starR Q (refR m ts')) w0 w' L := by
  subst hn
  obtain ⟨rfl, rfl⟩ := hq
  exact (H.runR hQ (R := fun e L2 => e = .returned (.agg (nums .u8 (nm ts ⟨kind, text, ks⟩)).toArray) ∧ L2 = []) fun K1 h1 hlt => (MakeK (t := ⟨kind, text, ks⟩) h1 hlt ht hr hf).mono fun e w' ⟨he, F⟩ => ⟨[], ⟨he, rfl⟩, TF.of F hlt⟩).mono fun e w' ⟨L2, ⟨he, hL⟩, F⟩ => ⟨he, by rw [hL] at F; exact F⟩
theorem SealRN (hQ : Ok Q) (H : TF K0 (starR Q (refR m ts)) w0 w L) {text : ByteArray} {q l : List Int} {B : Option Addr} {n d : Nat} {ks : List (List Int)} (hn : n = ks.length) (hq : nm ts ⟨6, text, q :: l :: ks⟩ = k ∧ putL ts ⟨6, text, q :: l :: ks⟩ = ts') (ht : text.size ≤ 1000) (hk : KeyOk q) (hkl : KeyOk l) (hks : ∀ k ∈ ks, KeyOk k) (hl : ks.length ≤ 900) (hr : RowT w 26 B (nums .u8 ks.flatten)) (hf : ts.length ≤ 900000) :
    Calls Try.prog 47 #[.pointer (some ⟨m, 0, none⟩), .agg (nums .u8 q).toArray, .agg (nums .u8 l).toArray, .string text, .slice B n d] w fun e w' => e = .returned (.string (strOfNums k)) ∧ TF K0 (starR Q (refR m ts')) w0 w' L := by
  subst hn
  obtain ⟨rfl, rfl⟩ := hq
  exact (H.runR hQ (R := fun e L2 => e = .returned (.string (strOfNums (nm ts ⟨6, text, q :: l :: ks⟩))) ∧ L2 = []) fun K1 h1 hlt => (Seal47 h1 hlt ht hk hkl hks hl hr hf).mono fun e w' ⟨he, F⟩ => ⟨[], ⟨he, rfl⟩, TF.of F hlt⟩).mono fun e w' ⟨L2, ⟨he, hL⟩, F⟩ => ⟨he, by rw [hL] at F; exact F⟩
theorem sec_ok (g m : Nat) (ts ts' : List Tm) : Ok (starR (tabR g ts) (refR m ts')) := (tabR_ok g ts).star (refR_ok m ts')
end
theorem wpF_bsK3 {ops : Array Oper} {rest : List Oper} {o : Oper} {a : Act} {w w0 : World} {Q : Exit → Act → World → Prop} {L : List Item} {R : Res} {K0 : Nat → Prop} (m : Nat) (H : TF K0 R w0 w L) (hR : Ok R) (hm : o.dst = some m) (hgd : o.guard = none) {x y z : Operand} (ho : o.op = .buildSlice 34 3 #[(0, x), (1, y), (2, z)]) {k l q : List Int} (hx : a.eval x = .agg (nums .u8 k).toArray) (hy : a.eval y = .agg (nums .u8 l).toArray) (hz : a.eval z = .agg (nums .u8 q).toArray) (hk : KeyOk k) (hl : KeyOk l) (hq : KeyOk q)
    (h : ∀ b w', TF K0 R w0 w' (.blk b (rowO .u8 26 [k, l, q].flatten) :: L) → wpList Try.prog ops Q rest (a.put (some m) (.slice (some ⟨b, 0, none⟩) 3 3)) w') : wpList Try.prog ops Q (o :: rest) a w :=
  wpList_bsG Try.underlying34 iz26 (by decide) m hm hgd [.agg (nums .u8 k).toArray, .agg (nums .u8 l).toArray, .agg (nums .u8 q).toArray] ho (by simp) (by simp [hx, hy, hz]) (by simp only [List.mem_cons, List.not_mem_nil, or_false]; rintro v (rfl | rfl | rfl); exact keyCells hk; exact keyCells hl; exact keyCells hq) H.reb fun b w' M' => h b w' (H.step hR (by
    rw [show ([Value.agg (nums .u8 k).toArray, Value.agg (nums .u8 l).toArray, Value.agg (nums .u8 q).toArray].flatMap fun v => v.cells.toList) = nums .u8 [k, l, q].flatten from by simp [Value.cells, nums]] at M'
    exact M'))
theorem one_kn (i : Nat) : ∀ k ∈ [kn i], KeyOk k := one_ok (kn_ok i)
theorem stm0 : TmOk sT0 := tmOk (by decide) (by decide) (by decide) (by decide) (by simp)
theorem stm1 : TmOk sT1 := tmOk (by decide) (by decide) (by decide) (by decide) (by simp)
theorem stm3 : TmOk sT3 := tmOk (by decide) (by decide) (by decide) (by decide) (one_kn 1)
theorem stm4 : TmOk sT4 := tmOk (by decide) (by decide) (by decide) (by decide) (one_kn 0)
/-- What secret leaves: a slice of the keys that are seen, and both tables. -/
def SecR (K : Nat → Prop) (g m : Nat) (w : World) (e : Ending) (w' : World) : Prop :=
  ∃ b, e = .returned (.slice (some ⟨b, 0, none⟩) 3 3) ∧ TF K (starR (tabR g secT) (refR m secT)) w w' [.blk b (rowO .u8 26 secK.flatten)]
set_option maxRecDepth 100000 in
set_option maxHeartbeats 8000000 in
theorem secret21 {K : Nat → Prop} {w : World} {g m : Nat} (res : starR (tabR g []) (refR m []) K w) (lt : ∀ b, K b → b < w.heap.size) :
    Calls Try.prog 21 #[.agg #[.pointer (some ⟨g, 0, none⟩)], .pointer (some ⟨m, 0, none⟩)] w (SecR K g m w) := by
  have H := TF.start res lt
  clear res lt
  go_enter Try.func21, Try.ntmps21
  go_wp2_with (refine wpF_bxC (cs := [.pointer (some ⟨g, 0, none⟩)]) 2 H (sec_ok g m _ _) rfl rfl rfl rfl (fun b2 w1 H1 => ?_); clear H; rename TF _ _ _ _ _ => H; (conv => arg 5; simp only [Act.put, List.setIfInBounds_toArray, List.set_cons_succ, List.set_cons_zero]))
  go_cut [5, 6] from 16 (fun s5 s6 wx => ∃ b5 b6, s5 = .pointer (some ⟨b5, 0, none⟩) ∧ s6 = .pointer (some ⟨b6, 0, none⟩) ∧ TF K (starR (tabR g [sT0, sT1]) (refR m [])) w wx [.blk b6 (rowO .u8 26 (kn 1)), .blk b5 (rowO .u8 26 (kn 0)), .blk b2 (cellsO 42 [.pointer (some ⟨g, 0, none⟩)])])
  case first =>
    refine wp_region_planTF (fun _ => True) (.free 0 (.free 1 (.free 3 (.free 4 (.three 2 (.three 5 (.two 6 (.one 7 (.one 8 (.one 9 (.done)))) 7 (.one 6 (.one 8 (.one 9 (.done))))) 6 (.two 5 (.one 7 (.one 8 (.one 9 (.done)))) 7 (.one 5 (.one 8 (.one 9 (.done))))) 7 (.two 5 (.one 6 (.one 8 (.one 9 (.done)))) 6 (.one 5 (.one 8 (.one 9 (.done)))))) 6 (.two 2 (.two 5 (.one 7 (.one 8 (.one 9 (.done)))) 7 (.one 5 (.one 8 (.one 9 (.done))))) 7 (.one 2 (.one 5 (.one 8 (.one 9 (.done)))))) 7 (.two 2 (.two 5 (.one 6 (.one 8 (.one 9 (.done)))) 6 (.one 5 (.one 8 (.one 9 (.done))))) 6 (.one 2 (.one 5 (.one 8 (.one 9 (.done))))))))))) (by kernel_rfl) (by kernel_rfl) (fun _ _ _ _ _ h => h) H (sec_ok g m _ _) ?_
    clear H
    intro ops Q HO HQ w9 H
    (refine wpT_free (by rw [HO.out]; rfl) rfl (.inl ⟨rfl, fun w _ => by go_simp; rfl⟩) (by exact ⟨⟨_, _, H.reb.sub (by (repeat (first | exact List.Sublist.refl _ | apply List.Sublist.cons_cons | apply List.Sublist.cons)))⟩, trivial⟩) ?_; (conv => arg 6; simp only [Act.put, List.setIfInBounds_toArray, List.set_cons_succ, List.set_cons_zero]))
    (refine wpT_free (by rw [HO.out]; rfl) rfl (.inl ⟨rfl, fun w hw => run_ld1 Try.underlying23 rfl rfl rfl (st_cell (i := 0) (T := fun _ => True) hw (by (repeat (first | exact List.mem_cons_self | refine List.mem_cons_of_mem _ ?_))) rfl)⟩) (by exact ⟨⟨_, _, H.reb.sub (by (repeat (first | exact List.Sublist.refl _ | apply List.Sublist.cons_cons | apply List.Sublist.cons)))⟩, trivial⟩) ?_; (conv => arg 6; simp only [Act.put, List.setIfInBounds_toArray, List.set_cons_succ, List.set_cons_zero]))
    (refine wpT_free (by rw [HO.out]; rfl) rfl (.inl ⟨rfl, fun w _ => by go_simp; rfl⟩) (by exact ⟨⟨_, _, H.reb.sub (by (repeat (first | exact List.Sublist.refl _ | apply List.Sublist.cons_cons | apply List.Sublist.cons)))⟩, trivial⟩) ?_; (conv => arg 6; simp only [Act.put, List.setIfInBounds_toArray, List.set_cons_succ, List.set_cons_zero]))
    (refine wpT_free (by rw [HO.out]; rfl) rfl (.inl ⟨rfl, fun w hw => run_ld1 Try.underlying23 rfl rfl rfl (st_cell (i := 0) (T := fun _ => True) hw (by (repeat (first | exact List.mem_cons_self | refine List.mem_cons_of_mem _ ?_))) rfl)⟩) (by exact ⟨⟨_, _, H.reb.sub (by (repeat (first | exact List.Sublist.refl _ | apply List.Sublist.cons_cons | apply List.Sublist.cons)))⟩, trivial⟩) ?_; (conv => arg 6; simp only [Act.put, List.setIfInBounds_toArray, List.set_cons_succ, List.set_cons_zero]))
    repeat' (first
      | (refine wpT_three (by rw [HO.out]; rfl) (by rw [HO.out]; rfl) (by rw [HO.out]; rfl) ?_ ?_ ?_ <;> ((go_wp2_with (first | (go_at_call 12; refine (DrawTN (refR_ok _ _) H sec0 (by decide) (by decide)).mono ?_; clear H; rintro e wn ⟨rfl, H⟩) | (go_at_call 12; refine (DrawTN (refR_ok _ _) H sec1 (by decide) (by decide)).mono ?_; clear H; rintro e wn ⟨rfl, H⟩) | (refine wpF_al 5 H (sec_ok g m _ _) z26 rfl rfl rfl (fun b5 wn Hn => ?_); clear H; rename TF _ _ _ _ _ => H; (conv => arg 5; simp only [Act.put, List.setIfInBounds_toArray, List.set_cons_succ, List.set_cons_zero])) | (refine wpF_al 6 H (sec_ok g m _ _) z26 rfl rfl rfl (fun b6 wn Hn => ?_); clear H; rename TF _ _ _ _ _ => H; (conv => arg 5; simp only [Act.put, List.setIfInBounds_toArray, List.set_cons_succ, List.set_cons_zero])) | (refine wpF_st0 (ys := kn 0) rfl H (sec_ok g m _ _) s26 rfl rfl rfl rfl (by (repeat (first | exact Swap.head | apply Swap.tail))) (by simp) (kn_len 0) (fun wn Hn => ?_); clear H; rename TF _ _ _ _ _ => H; (try (conv => arg 5; simp only [Act.put, List.setIfInBounds_toArray, List.set_cons_succ, List.set_cons_zero]))) | (refine wpF_st0 (ys := kn 1) rfl H (sec_ok g m _ _) s26 rfl rfl rfl rfl (by (repeat (first | exact Swap.head | apply Swap.tail))) (by simp) (kn_len 1) (fun wn Hn => ?_); clear H; rename TF _ _ _ _ _ => H; (try (conv => arg 5; simp only [Act.put, List.setIfInBounds_toArray, List.set_cons_succ, List.set_cons_zero]))))); refine PlanTQ.mk (by exact ⟨⟨_, _, H.reb.sub (by (repeat (first | exact List.Sublist.refl _ | apply List.Sublist.cons_cons | apply List.Sublist.cons)))⟩, trivial⟩) ?_))
      | (refine wpT_two (by rw [HO.out]; rfl) (by rw [HO.out]; rfl) ?_ ?_ <;> ((go_wp2_with (first | (go_at_call 12; refine (DrawTN (refR_ok _ _) H sec0 (by decide) (by decide)).mono ?_; clear H; rintro e wn ⟨rfl, H⟩) | (go_at_call 12; refine (DrawTN (refR_ok _ _) H sec1 (by decide) (by decide)).mono ?_; clear H; rintro e wn ⟨rfl, H⟩) | (refine wpF_al 5 H (sec_ok g m _ _) z26 rfl rfl rfl (fun b5 wn Hn => ?_); clear H; rename TF _ _ _ _ _ => H; (conv => arg 5; simp only [Act.put, List.setIfInBounds_toArray, List.set_cons_succ, List.set_cons_zero])) | (refine wpF_al 6 H (sec_ok g m _ _) z26 rfl rfl rfl (fun b6 wn Hn => ?_); clear H; rename TF _ _ _ _ _ => H; (conv => arg 5; simp only [Act.put, List.setIfInBounds_toArray, List.set_cons_succ, List.set_cons_zero])) | (refine wpF_st0 (ys := kn 0) rfl H (sec_ok g m _ _) s26 rfl rfl rfl rfl (by (repeat (first | exact Swap.head | apply Swap.tail))) (by simp) (kn_len 0) (fun wn Hn => ?_); clear H; rename TF _ _ _ _ _ => H; (try (conv => arg 5; simp only [Act.put, List.setIfInBounds_toArray, List.set_cons_succ, List.set_cons_zero]))) | (refine wpF_st0 (ys := kn 1) rfl H (sec_ok g m _ _) s26 rfl rfl rfl rfl (by (repeat (first | exact Swap.head | apply Swap.tail))) (by simp) (kn_len 1) (fun wn Hn => ?_); clear H; rename TF _ _ _ _ _ => H; (try (conv => arg 5; simp only [Act.put, List.setIfInBounds_toArray, List.set_cons_succ, List.set_cons_zero]))))); refine PlanTQ.mk (by exact ⟨⟨_, _, H.reb.sub (by (repeat (first | exact List.Sublist.refl _ | apply List.Sublist.cons_cons | apply List.Sublist.cons)))⟩, trivial⟩) ?_))
      | (refine wpT_op (by rw [HO.out]; rfl) ?_; (go_wp2_with (first | (go_at_call 12; refine (DrawTN (refR_ok _ _) H sec0 (by decide) (by decide)).mono ?_; clear H; rintro e wn ⟨rfl, H⟩) | (go_at_call 12; refine (DrawTN (refR_ok _ _) H sec1 (by decide) (by decide)).mono ?_; clear H; rintro e wn ⟨rfl, H⟩) | (refine wpF_al 5 H (sec_ok g m _ _) z26 rfl rfl rfl (fun b5 wn Hn => ?_); clear H; rename TF _ _ _ _ _ => H; (conv => arg 5; simp only [Act.put, List.setIfInBounds_toArray, List.set_cons_succ, List.set_cons_zero])) | (refine wpF_al 6 H (sec_ok g m _ _) z26 rfl rfl rfl (fun b6 wn Hn => ?_); clear H; rename TF _ _ _ _ _ => H; (conv => arg 5; simp only [Act.put, List.setIfInBounds_toArray, List.set_cons_succ, List.set_cons_zero])) | (refine wpF_st0 (ys := kn 0) rfl H (sec_ok g m _ _) s26 rfl rfl rfl rfl (by (repeat (first | exact Swap.head | apply Swap.tail))) (by simp) (kn_len 0) (fun wn Hn => ?_); clear H; rename TF _ _ _ _ _ => H; (try (conv => arg 5; simp only [Act.put, List.setIfInBounds_toArray, List.set_cons_succ, List.set_cons_zero]))) | (refine wpF_st0 (ys := kn 1) rfl H (sec_ok g m _ _) s26 rfl rfl rfl rfl (by (repeat (first | exact Swap.head | apply Swap.tail))) (by simp) (kn_len 1) (fun wn Hn => ?_); clear H; rename TF _ _ _ _ _ => H; (try (conv => arg 5; simp only [Act.put, List.setIfInBounds_toArray, List.set_cons_succ, List.set_cons_zero]))))); refine PlanTQ.mk (by exact ⟨⟨_, _, H.reb.sub (by (repeat (first | exact List.Sublist.refl _ | apply List.Sublist.cons_cons | apply List.Sublist.cons)))⟩, trivial⟩) ?_))
    all_goals
      refine wpT_done ?_
      rw [HQ.out]
      go_wp2_with fail
      go_meet
      first | exact ⟨b5, b6, rfl, rfl, H⟩ | exact ⟨b5, b6, rfl, rfl, H.perm (List.Perm.swap _ _ _)⟩
  case rest =>
    obtain ⟨b5, b6, rfl, rfl, H⟩ := hcut
    have c2 := H.reb.cell (i := 0) (g := b2) (v := .pointer (some ⟨g, 0, none⟩)) (by (repeat (first | exact List.mem_cons_self | refine List.mem_cons_of_mem _ ?_))) rfl
    go_wp2_with (first | (go_at_call 45; refine (MakeRN (tabR_ok _ _) H rfl sec0 stm0 RowT.nil (by decide)).mono ?_; clear H; rintro e wn ⟨rfl, H⟩) | (go_at_call 45; refine (MakeRN (tabR_ok _ _) H rfl sec1 stm1 RowT.nil (by decide)).mono ?_; clear H; rintro e wn ⟨rfl, H⟩))
    clear c2
    go_cut [7] from 30 (fun s7 wx => ∃ b7, s7 = .pointer (some ⟨b7, 0, none⟩) ∧ TF K (starR (tabR g [sT0, sT1, sT2]) (refR m [sT0, sT1])) w wx [.blk b7 (rowO .u8 26 (kn 2)), .blk b6 (rowO .u8 26 (kn 1)), .blk b5 (rowO .u8 26 (kn 0)), .blk b2 (cellsO 42 [.pointer (some ⟨g, 0, none⟩)])])
    case first =>
      refine wp_region_planTF (fun _ => True) (.free 0 (.free 1 (.free 2 (.free 3 (.free 4 (.free 5 (.free 6 (.two 7 (.two 8 (.two 9 (.one 10 (.one 11 (.done))) 10 (.one 9 (.one 11 (.done)))) 10 (.one 8 (.one 9 (.one 11 (.done))))) 10 (.one 7 (.one 8 (.one 9 (.one 11 (.done))))))))))))) (by kernel_rfl) (by kernel_rfl) (fun _ _ _ _ _ h => h) H (sec_ok g m _ _) ?_
      clear H
      intro ops Q HO HQ w9 H
      (refine wpT_free (by rw [HO.out]; rfl) rfl (.inl ⟨rfl, fun w _ => by go_simp; rfl⟩) (by exact ⟨⟨_, _, H.reb.sub (by (repeat (first | exact List.Sublist.refl _ | apply List.Sublist.cons_cons | apply List.Sublist.cons)))⟩, trivial⟩) ?_; (conv => arg 6; simp only [Act.put, List.setIfInBounds_toArray, List.set_cons_succ, List.set_cons_zero]))
      (refine wpT_free (by rw [HO.out]; rfl) rfl (.inl ⟨rfl, fun w hw => run_ld1 Try.underlying23 rfl rfl rfl (st_cell (i := 0) (T := fun _ => True) hw (by (repeat (first | exact List.mem_cons_self | refine List.mem_cons_of_mem _ ?_))) rfl)⟩) (by exact ⟨⟨_, _, H.reb.sub (by (repeat (first | exact List.Sublist.refl _ | apply List.Sublist.cons_cons | apply List.Sublist.cons)))⟩, trivial⟩) ?_; (conv => arg 6; simp only [Act.put, List.setIfInBounds_toArray, List.set_cons_succ, List.set_cons_zero]))
      (refine wpT_free (by rw [HO.out]; rfl) rfl (.inl ⟨rfl, fun w _ => by go_simp; rfl⟩) (by exact ⟨⟨_, _, H.reb.sub (by (repeat (first | exact List.Sublist.refl _ | apply List.Sublist.cons_cons | apply List.Sublist.cons)))⟩, trivial⟩) ?_; (conv => arg 6; simp only [Act.put, List.setIfInBounds_toArray, List.set_cons_succ, List.set_cons_zero]))
      (refine wpT_free (by rw [HO.out]; rfl) rfl (.inl ⟨rfl, fun w hw => run_ld1 Try.underlying23 rfl rfl rfl (st_cell (i := 0) (T := fun _ => True) hw (by (repeat (first | exact List.mem_cons_self | refine List.mem_cons_of_mem _ ?_))) rfl)⟩) (by exact ⟨⟨_, _, H.reb.sub (by (repeat (first | exact List.Sublist.refl _ | apply List.Sublist.cons_cons | apply List.Sublist.cons)))⟩, trivial⟩) ?_; (conv => arg 6; simp only [Act.put, List.setIfInBounds_toArray, List.set_cons_succ, List.set_cons_zero]))
      (refine wpT_free (by rw [HO.out]; rfl) rfl (.inl ⟨rfl, fun w hw => by obtain ⟨⟨_, _, M⟩, _⟩ := hw; exact run_ldrowN (xs := kn 0) Try.underlying26 s26 rfl rfl rfl M (by (repeat (first | exact List.mem_cons_self | refine List.mem_cons_of_mem _ ?_))) (kn_len 0)⟩) (by exact ⟨⟨_, _, H.reb.sub (by (repeat (first | exact List.Sublist.refl _ | apply List.Sublist.cons_cons | apply List.Sublist.cons)))⟩, trivial⟩) ?_; (conv => arg 6; simp only [Act.put, List.setIfInBounds_toArray, List.set_cons_succ, List.set_cons_zero]))
      (refine wpT_free (by rw [HO.out]; rfl) rfl (.inl ⟨rfl, fun w _ => run_bld (vs := #[]) b26z rfl rfl w⟩) (by exact ⟨⟨_, _, H.reb.sub (by (repeat (first | exact List.Sublist.refl _ | apply List.Sublist.cons_cons | apply List.Sublist.cons)))⟩, trivial⟩) ?_; (conv => arg 6; simp only [Act.put, List.setIfInBounds_toArray, List.set_cons_succ, List.set_cons_zero]))
      (refine wpT_free (by rw [HO.out]; rfl) rfl (.inl ⟨rfl, fun w hw => by obtain ⟨⟨_, _, M⟩, _⟩ := hw; exact run_ldrowN (xs := kn 1) Try.underlying26 s26 rfl rfl rfl M (by (repeat (first | exact List.mem_cons_self | refine List.mem_cons_of_mem _ ?_))) (kn_len 1)⟩) (by exact ⟨⟨_, _, H.reb.sub (by (repeat (first | exact List.Sublist.refl _ | apply List.Sublist.cons_cons | apply List.Sublist.cons)))⟩, trivial⟩) ?_; (conv => arg 6; simp only [Act.put, List.setIfInBounds_toArray, List.set_cons_succ, List.set_cons_zero]))
      repeat' (first
        | (refine wpT_three (by rw [HO.out]; rfl) (by rw [HO.out]; rfl) (by rw [HO.out]; rfl) ?_ ?_ ?_ <;> ((go_wp2_with (first | (refine wpF_bsK1 27 H (sec_ok g m _ _) rfl rfl rfl rfl (kn_ok 1) (fun b27 wn Hn => ?_); clear H; rename TF _ _ _ _ _ => H; (conv => arg 5; simp only [Act.put, List.setIfInBounds_toArray, List.set_cons_succ, List.set_cons_zero])) | (go_at_call 15; refine (SealTN (refR_ok _ _) H rfl sec2 (by decide) (kn_ok 0) zK_ok (one_kn 1) (by decide) (H.reb.blkT (by (repeat (first | exact List.mem_cons_self | refine List.mem_cons_of_mem _ ?_)))) (fun h => by cases h) (by decide)).mono ?_; clear H; rintro e wn ⟨rfl, H⟩) | (go_at_call 46; refine (MarkN _ (kn_ok 2) _).mono ?_; rintro e wn ⟨rfl, M⟩; replace H := H.call0 (sec_ok g m _ _) M; clear M) | (refine wpF_al 7 H (sec_ok g m _ _) z26 rfl rfl rfl (fun b7 wn Hn => ?_); clear H; rename TF _ _ _ _ _ => H; (conv => arg 5; simp only [Act.put, List.setIfInBounds_toArray, List.set_cons_succ, List.set_cons_zero])) | (refine wpF_st0 (ys := kn 2) rfl H (sec_ok g m _ _) s26 rfl rfl rfl rfl (by (repeat (first | exact Swap.head | apply Swap.tail))) (by simp) (kn_len 2) (fun wn Hn => ?_); clear H; rename TF _ _ _ _ _ => H; (try (conv => arg 5; simp only [Act.put, List.setIfInBounds_toArray, List.set_cons_succ, List.set_cons_zero]))))); refine PlanTQ.mk (by exact ⟨⟨_, _, H.reb.sub (by (repeat (first | exact List.Sublist.refl _ | apply List.Sublist.cons_cons | apply List.Sublist.cons)))⟩, trivial⟩) ?_))
        | (refine wpT_two (by rw [HO.out]; rfl) (by rw [HO.out]; rfl) ?_ ?_ <;> ((go_wp2_with (first | (refine wpF_bsK1 27 H (sec_ok g m _ _) rfl rfl rfl rfl (kn_ok 1) (fun b27 wn Hn => ?_); clear H; rename TF _ _ _ _ _ => H; (conv => arg 5; simp only [Act.put, List.setIfInBounds_toArray, List.set_cons_succ, List.set_cons_zero])) | (go_at_call 15; refine (SealTN (refR_ok _ _) H rfl sec2 (by decide) (kn_ok 0) zK_ok (one_kn 1) (by decide) (H.reb.blkT (by (repeat (first | exact List.mem_cons_self | refine List.mem_cons_of_mem _ ?_)))) (fun h => by cases h) (by decide)).mono ?_; clear H; rintro e wn ⟨rfl, H⟩) | (go_at_call 46; refine (MarkN _ (kn_ok 2) _).mono ?_; rintro e wn ⟨rfl, M⟩; replace H := H.call0 (sec_ok g m _ _) M; clear M) | (refine wpF_al 7 H (sec_ok g m _ _) z26 rfl rfl rfl (fun b7 wn Hn => ?_); clear H; rename TF _ _ _ _ _ => H; (conv => arg 5; simp only [Act.put, List.setIfInBounds_toArray, List.set_cons_succ, List.set_cons_zero])) | (refine wpF_st0 (ys := kn 2) rfl H (sec_ok g m _ _) s26 rfl rfl rfl rfl (by (repeat (first | exact Swap.head | apply Swap.tail))) (by simp) (kn_len 2) (fun wn Hn => ?_); clear H; rename TF _ _ _ _ _ => H; (try (conv => arg 5; simp only [Act.put, List.setIfInBounds_toArray, List.set_cons_succ, List.set_cons_zero]))))); refine PlanTQ.mk (by exact ⟨⟨_, _, H.reb.sub (by (repeat (first | exact List.Sublist.refl _ | apply List.Sublist.cons_cons | apply List.Sublist.cons)))⟩, trivial⟩) ?_))
        | (refine wpT_op (by rw [HO.out]; rfl) ?_; (go_wp2_with (first | (refine wpF_bsK1 27 H (sec_ok g m _ _) rfl rfl rfl rfl (kn_ok 1) (fun b27 wn Hn => ?_); clear H; rename TF _ _ _ _ _ => H; (conv => arg 5; simp only [Act.put, List.setIfInBounds_toArray, List.set_cons_succ, List.set_cons_zero])) | (go_at_call 15; refine (SealTN (refR_ok _ _) H rfl sec2 (by decide) (kn_ok 0) zK_ok (one_kn 1) (by decide) (H.reb.blkT (by (repeat (first | exact List.mem_cons_self | refine List.mem_cons_of_mem _ ?_)))) (fun h => by cases h) (by decide)).mono ?_; clear H; rintro e wn ⟨rfl, H⟩) | (go_at_call 46; refine (MarkN _ (kn_ok 2) _).mono ?_; rintro e wn ⟨rfl, M⟩; replace H := H.call0 (sec_ok g m _ _) M; clear M) | (refine wpF_al 7 H (sec_ok g m _ _) z26 rfl rfl rfl (fun b7 wn Hn => ?_); clear H; rename TF _ _ _ _ _ => H; (conv => arg 5; simp only [Act.put, List.setIfInBounds_toArray, List.set_cons_succ, List.set_cons_zero])) | (refine wpF_st0 (ys := kn 2) rfl H (sec_ok g m _ _) s26 rfl rfl rfl rfl (by (repeat (first | exact Swap.head | apply Swap.tail))) (by simp) (kn_len 2) (fun wn Hn => ?_); clear H; rename TF _ _ _ _ _ => H; (try (conv => arg 5; simp only [Act.put, List.setIfInBounds_toArray, List.set_cons_succ, List.set_cons_zero]))))); refine PlanTQ.mk (by exact ⟨⟨_, _, H.reb.sub (by (repeat (first | exact List.Sublist.refl _ | apply List.Sublist.cons_cons | apply List.Sublist.cons)))⟩, trivial⟩) ?_))
      all_goals
        refine wpT_done ?_
        rw [HQ.out]
        go_wp2_with fail
        go_meet
        exact ⟨b7, rfl, H.sub (by (repeat (first | exact List.Sublist.refl _ | apply List.Sublist.cons_cons | apply List.Sublist.cons)))⟩
    case rest =>
      obtain ⟨b7, rfl, H⟩ := hcut
      have c2 := H.reb.cell (i := 0) (g := b2) (v := .pointer (some ⟨g, 0, none⟩)) (by (repeat (first | exact List.mem_cons_self | refine List.mem_cons_of_mem _ ?_))) rfl
      go_wp2_with (first
        | (refine wpF_ld H Try.underlying26 s26 rfl rfl rfl rfl (by (repeat (first | exact List.mem_cons_self | refine List.mem_cons_of_mem _ ?_))) (by exact kn_len _) ?_; (conv => arg 5; simp only [Act.put, List.setIfInBounds_toArray, List.set_cons_succ, List.set_cons_zero]))
        | (refine wpList_bld (vs := #[]) b26z rfl rfl rfl ?_; (conv => arg 5; simp only [Act.put, List.setIfInBounds_toArray, List.set_cons_succ, List.set_cons_zero]))
        | (refine wpF_bsK1 34 H (sec_ok g m _ _) rfl rfl rfl rfl (kn_ok 1) (fun b34 wn Hn => ?_); clear H c2; rename TF _ _ _ _ _ => H; have c2 := H.reb.cell (i := 0) (g := b2) (v := .pointer (some ⟨g, 0, none⟩)) (by (repeat (first | exact List.mem_cons_self | refine List.mem_cons_of_mem _ ?_))) rfl; (conv => arg 5; simp only [Act.put, List.setIfInBounds_toArray, List.set_cons_succ, List.set_cons_zero]))
        | (go_at_call 47; refine (SealRN (tabR_ok _ _) H rfl sec2 (by decide) (kn_ok 0) zK_ok (one_kn 1) (by decide) (H.reb.blkT (by (repeat (first | exact List.mem_cons_self | refine List.mem_cons_of_mem _ ?_)))) (by decide)).mono ?_; clear H c2; rintro e wn ⟨rfl, H⟩; have c2 := H.reb.cell (i := 0) (g := b2) (v := .pointer (some ⟨g, 0, none⟩)) (by (repeat (first | exact List.mem_cons_self | refine List.mem_cons_of_mem _ ?_))) rfl)
        | (go_at_call 27; refine (PubTN (refR_ok _ _) H sec3 (kn_ok 1) (by decide)).mono ?_; clear H c2; rintro e wn ⟨rfl, H⟩; have c2 := H.reb.cell (i := 0) (g := b2) (v := .pointer (some ⟨g, 0, none⟩)) (by (repeat (first | exact List.mem_cons_self | refine List.mem_cons_of_mem _ ?_))) rfl)
        | (refine wpF_al 8 H (sec_ok g m _ _) z26 rfl rfl rfl (fun b8 wn Hn => ?_); clear H c2; rename TF _ _ _ _ _ => H; have c2 := H.reb.cell (i := 0) (g := b2) (v := .pointer (some ⟨g, 0, none⟩)) (by (repeat (first | exact List.mem_cons_self | refine List.mem_cons_of_mem _ ?_))) rfl; (conv => arg 5; simp only [Act.put, List.setIfInBounds_toArray, List.set_cons_succ, List.set_cons_zero]))
        | (refine wpF_st0 (ys := kn 3) rfl H (sec_ok g m _ _) s26 rfl rfl rfl rfl (by (repeat (first | exact Swap.head | apply Swap.tail))) (by simp) (kn_len 3) (fun wn Hn => ?_); clear H c2; rename TF _ _ _ _ _ => H; have c2 := H.reb.cell (i := 0) (g := b2) (v := .pointer (some ⟨g, 0, none⟩)) (by (repeat (first | exact List.mem_cons_self | refine List.mem_cons_of_mem _ ?_))) rfl; (try (conv => arg 5; simp only [Act.put, List.setIfInBounds_toArray, List.set_cons_succ, List.set_cons_zero])))
        | (refine wpF_bsK1 42 H (sec_ok g m _ _) rfl rfl rfl rfl (kn_ok 1) (fun b42 wn Hn => ?_); clear H c2; rename TF _ _ _ _ _ => H; have c2 := H.reb.cell (i := 0) (g := b2) (v := .pointer (some ⟨g, 0, none⟩)) (by (repeat (first | exact List.mem_cons_self | refine List.mem_cons_of_mem _ ?_))) rfl; (conv => arg 5; simp only [Act.put, List.setIfInBounds_toArray, List.set_cons_succ, List.set_cons_zero]))
        | (go_at_call 45; refine (MakeRN (tabR_ok _ _) H rfl sec3 stm3 (H.reb.blkT (by (repeat (first | exact List.mem_cons_self | refine List.mem_cons_of_mem _ ?_)))) (by decide)).mono ?_; clear H c2; rintro e wn ⟨rfl, H⟩; have c2 := H.reb.cell (i := 0) (g := b2) (v := .pointer (some ⟨g, 0, none⟩)) (by (repeat (first | exact List.mem_cons_self | refine List.mem_cons_of_mem _ ?_))) rfl)
        | (refine wpF_bsK1 47 H (sec_ok g m _ _) rfl rfl rfl rfl (kn_ok 0) (fun b47 wn Hn => ?_); clear H c2; rename TF _ _ _ _ _ => H; have c2 := H.reb.cell (i := 0) (g := b2) (v := .pointer (some ⟨g, 0, none⟩)) (by (repeat (first | exact List.mem_cons_self | refine List.mem_cons_of_mem _ ?_))) rfl; (conv => arg 5; simp only [Act.put, List.setIfInBounds_toArray, List.set_cons_succ, List.set_cons_zero]))
        | (go_at_call 13; refine (HashTN (refR_ok _ _) H rfl sec4 (by decide) (one_kn 0) (by decide) (H.reb.blkT (by (repeat (first | exact List.mem_cons_self | refine List.mem_cons_of_mem _ ?_)))) (fun h => by cases h) (by decide)).mono ?_; clear H c2; rintro e wn ⟨rfl, H⟩; have c2 := H.reb.cell (i := 0) (g := b2) (v := .pointer (some ⟨g, 0, none⟩)) (by (repeat (first | exact List.mem_cons_self | refine List.mem_cons_of_mem _ ?_))) rfl)
        | (refine wpF_al 9 H (sec_ok g m _ _) z26 rfl rfl rfl (fun b9 wn Hn => ?_); clear H c2; rename TF _ _ _ _ _ => H; have c2 := H.reb.cell (i := 0) (g := b2) (v := .pointer (some ⟨g, 0, none⟩)) (by (repeat (first | exact List.mem_cons_self | refine List.mem_cons_of_mem _ ?_))) rfl; (conv => arg 5; simp only [Act.put, List.setIfInBounds_toArray, List.set_cons_succ, List.set_cons_zero]))
        | (refine wpF_st0 (ys := kn 4) rfl H (sec_ok g m _ _) s26 rfl rfl rfl rfl (by (repeat (first | exact Swap.head | apply Swap.tail))) (by simp) (kn_len 4) (fun wn Hn => ?_); clear H c2; rename TF _ _ _ _ _ => H; have c2 := H.reb.cell (i := 0) (g := b2) (v := .pointer (some ⟨g, 0, none⟩)) (by (repeat (first | exact List.mem_cons_self | refine List.mem_cons_of_mem _ ?_))) rfl; (try (conv => arg 5; simp only [Act.put, List.setIfInBounds_toArray, List.set_cons_succ, List.set_cons_zero])))
        | (refine wpF_bsK1 51 H (sec_ok g m _ _) rfl rfl rfl rfl (kn_ok 0) (fun b51 wn Hn => ?_); clear H c2; rename TF _ _ _ _ _ => H; have c2 := H.reb.cell (i := 0) (g := b2) (v := .pointer (some ⟨g, 0, none⟩)) (by (repeat (first | exact List.mem_cons_self | refine List.mem_cons_of_mem _ ?_))) rfl; (conv => arg 5; simp only [Act.put, List.setIfInBounds_toArray, List.set_cons_succ, List.set_cons_zero]))
        | (go_at_call 45; refine (MakeRN (tabR_ok _ _) H rfl sec4 stm4 (H.reb.blkT (by (repeat (first | exact List.mem_cons_self | refine List.mem_cons_of_mem _ ?_)))) (by decide)).mono ?_; clear H c2; rintro e wn ⟨rfl, H⟩; have c2 := H.reb.cell (i := 0) (g := b2) (v := .pointer (some ⟨g, 0, none⟩)) (by (repeat (first | exact List.mem_cons_self | refine List.mem_cons_of_mem _ ?_))) rfl)
        | (refine wpF_bsK3 56 H (sec_ok g m _ _) rfl rfl rfl rfl rfl rfl (kn_ok 2) (kn_ok 3) (kn_ok 4) (fun b56 wn Hn => ?_); clear H c2; rename TF _ _ _ _ _ => H; (conv => arg 5; simp only [Act.put, List.setIfInBounds_toArray, List.set_cons_succ, List.set_cons_zero])))
      go_ret
      exact ⟨_, rfl, H.sub (by (repeat (first | exact List.Sublist.refl _ | apply List.Sublist.cons_cons | apply List.Sublist.cons)))⟩
end Go.Proofs.Ytcapfnbmmdbcoaa
namespace Go.Proofs.Ytcapfnbmmdbcoaa
open Go.RowKit Go.ChangeShapes Go.WideShapes Go.Deep
section
variable {H : Type} {enc : TypeId × Value → H} {P : Program} {w : World} {base : Nat} {spare : Nat → Bool} {held : Bool}
theorem open_arr {t e : TypeId} {n : Nat} {q : IntKind} {fuel : Nat} {cs : List Value} {x : DataW H × List MemPlace} (ht : P.underlying t = some (.array n e)) (he : P.underlying e = some (.int q)) (hct : P.cellsOf t = n) (hce : P.cellsOf e = 1) (h : DataW.trod enc P w base spare held fuel t cs = some x) :
    ∃ zs : List Int, cs = nums q zs ∧ zs.length = n ∧ ∀ z ∈ zs, (Lit.int q z).wf = true := by
  obtain ⟨xs, m, rfl, rfl, hl, hxl, hi⟩ := DataW.trod_array ht h
  rw [hct] at hl
  have each : ∀ i, i < n → ∃ z, cs[i]? = some (.int q z) ∧ (Lit.int q z).wf = true := fun i hin => by
    have h1 := hi i hin
    rw [hce, Nat.mul_one, List.getElem?_eq_getElem (by omega)] at h1
    obtain ⟨z, e1, _, hw⟩ := DataW.trod_int he h1
    exact ⟨z, cell_of_cut e1, hw⟩
  refine ⟨cs.map (fun v => match v with | .int _ z => z | _ => 0), ?_, by simp [hl], fun z hz => ?_⟩
  · apply List.ext_getElem?
    intro i
    by_cases hin : i < n
    · obtain ⟨z, hz, _⟩ := each i hin
      simp [nums, hz]
    · rw [List.getElem?_eq_none (by omega), List.getElem?_eq_none (by simp [nums]; omega)]
  · obtain ⟨v, hv, rfl⟩ := List.mem_map.1 hz
    obtain ⟨i, hi'⟩ := List.getElem?_of_mem hv
    have hil := (List.getElem?_eq_some_iff.1 hi').1
    obtain ⟨z, hz2, hw⟩ := each i (by omega)
    rw [hi'] at hz2
    injection hz2 with hz2
    subst hz2
    exact hw
/-- A slice of numbers, as a row. -/
theorem open_rowC {t e : TypeId} {k : IntKind} {fuel : Nat} {cs : List Value} {x : DataW H × List MemPlace} (ht : P.underlying t = some (.slice e)) (he : P.underlying e = some (.int k)) (hc : P.cellsOf e = 1) (h : DataW.trod enc P w base spare held fuel t cs = some x) :
    ∃ (I : Option Addr) (ic : Nat) (zs : List Int), cs = [.slice I zs.length ic] ∧ RowC w I (nums k zs) ∧ zs.length ≤ maxLen ∧ ∀ z ∈ zs, (Lit.int k z).wf = true := by
  rcases open_ints ht he hc h with ⟨rfl, _⟩ | ⟨a, len, cap, zs, rfl, _, hl, hm, hz, _, hcell, hw⟩
  · exact ⟨none, 0, [], rfl, fun i v hv => by simp [nums] at hv, by decide, by simp⟩
  · have hlz : len ≤ zs.length := by rw [hz]; split <;> omega
    refine ⟨some a, cap, zs.take len, by rw [List.length_take, Nat.min_eq_left hlz], fun i v hv => ?_, by rw [List.length_take]; omega, fun z hz => hw z (List.mem_of_mem_take hz)⟩
    have hi := (List.getElem?_eq_some_iff.1 hv).1
    rw [nums_length, List.length_take] at hi
    have h1 := hcell i (by omega)
    obtain ⟨b, off, spot⟩ := a
    have hspot : spot = none := by
      have := World.cell?_spot (hcell 0 (by omega))
      simpa [Addr.add] using this
    subst hspot
    refine ⟨b, off, rfl, ?_⟩
    rw [Addr.add_lit] at h1
    rw [h1, ← hv]
    simp [nums, List.getElem?_take, show i < len from by omega, List.getD_eq_getElem?_getD, List.getElem?_eq_getElem (show i < zs.length from by omega)]
end
theorem list_of {α : Type} {p : Nat → α → Prop} : ∀ n : Nat, (∀ i, i < n → ∃ a, p i a) → ∃ l : List α, l.length = n ∧ ∀ (i : Nat) (a : α), l[i]? = some a → p i a
  | 0, _ => ⟨[], rfl, fun i a h => by simp at h⟩
  | n + 1, h => by
    obtain ⟨l, hl, hp⟩ := list_of n (fun i hi => h i (by omega))
    obtain ⟨a, ha⟩ := h n (by omega)
    refine ⟨l ++ [a], by simp [hl], fun i b hb => ?_⟩
    by_cases hi : i < n
    · rw [List.getElem?_append_left (by omega)] at hb
      exact hp i b hb
    · rw [List.getElem?_append_right (by omega)] at hb
      have h0 : i - l.length = 0 := by
        have := (List.getElem?_eq_some_iff.1 hb).1
        simp at this
        omega
      rw [h0] at hb
      simp only [List.getElem?_cons_zero, Option.some.injEq] at hb
      subst hb
      obtain rfl : i = n := by omega
      exact ha
set_option maxRecDepth 100000 in
theorem f55 : ∃ fs : Array Field, Try.prog.underlying 55 = some (.struct fs) ∧ fs.toList.map (fun f => (f.offset, f.type)) = [(0, 3), (1, 3), (2, 9), (3, 53), (4, 26)] := ⟨_, Try.underlying55, by kernel_rfl⟩
set_option maxRecDepth 100000 in
theorem cells_of55 : Try.prog.cellsOf 55 = 36 ∧ Try.prog.cellsOf 3 = 1 ∧ Try.prog.cellsOf 9 = 1 ∧ Try.prog.cellsOf 53 = 1 ∧ Try.prog.cellsOf 26 = 32 ∧ Try.prog.cellsOf 5 = 1 := ⟨by kernel_rfl, by kernel_rfl, by kernel_rfl, by kernel_rfl, by kernel_rfl, by kernel_rfl⟩
set_option maxRecDepth 100000 in
/-- A step, read out of its cells. -/
theorem open_ck {H : Type} {enc : TypeId × Value → H} {W : World} {base fuel : Nat} {spare : Nat → Bool} {held : Bool} {cs : List Value} {x : DataW H × List MemPlace} (h : DataW.trod enc Try.prog W base spare held fuel 55 cs = some x) :
    ∃ (c : Ck) (I : Option Addr) (ic : Nat), cs = ckCells c I ic ∧ RowC W I (nums .i64 c.keys) ∧ KeyOk c.raw ∧ c.text.size ≤ maxLen ∧ c.keys.length ≤ maxLen := by
  obtain ⟨fs, hu, hfs⟩ := f55
  obtain ⟨c55, c3, c9, c53, c26, c5⟩ := cells_of55
  obtain ⟨ys, n', hn', hy, hlen, hyl, hf⟩ := DataW.trod_struct hu h
  rw [c55] at hlen
  have hfl : fs.size = 5 := by
    have := congrArg List.length hfs
    simpa using this
  have hat : ∀ j : Nat, (fs.toList.map (fun f => (f.offset, f.type)))[j]? = (fs[j]?).map (fun f => (f.offset, f.type)) := fun j => by simp
  rw [hfs] at hat
  have key : ∀ (j o t : Nat), ([(0, 3), (1, 3), (2, 9), (3, 53), (4, 26)] : List (Nat × Nat))[j]? = some (o, t) → ∃ y, DataW.trod enc Try.prog W base spare held n' t ((cs.drop o).take (Try.prog.cellsOf t)) = some y := fun j o t hj => by
    have h0 := hat j
    rw [hj] at h0
    obtain ⟨f, hfj, he⟩ := Option.map_eq_some_iff.1 h0.symm
    injection he with he1 he2
    have h1 := hf j f hfj
    have hjl : j < fs.size := (Array.getElem?_eq_some_iff.1 hfj).1
    rw [he1, he2, List.getElem?_eq_getElem (by omega)] at h1
    exact ⟨_, h1⟩
  obtain ⟨y0, t0⟩ := key 0 0 3 rfl
  obtain ⟨y1, t1⟩ := key 1 1 3 rfl
  obtain ⟨y2, t2⟩ := key 2 2 9 rfl
  obtain ⟨y3, t3⟩ := key 3 3 53 rfl
  obtain ⟨y4, t4⟩ := key 4 4 26 rfl
  rw [c3] at t0 t1
  rw [c9] at t2
  rw [c53] at t3
  rw [c26] at t4
  obtain ⟨kind, e0, _, _⟩ := DataW.trod_int Try.underlying3 t0
  obtain ⟨n, e1, _, _⟩ := DataW.trod_int Try.underlying3 t1
  obtain ⟨s, e2, _, hs⟩ := DataW.trod_string Try.underlying9 t2
  obtain ⟨I, ic, keys, e3, hr, hkl, _⟩ := open_rowC Try.underlying53 Try.underlying3 c3 t3
  obtain ⟨raw, e4, hrl, hrw⟩ := open_arr Try.underlying26 Try.underlying5 c26 c5 t4
  refine ⟨⟨kind, n, s, keys, raw⟩, I, ic, ?_, hr, ⟨hrl, fun z hz => wf_u8 (hrw z hz)⟩, hs, hkl⟩
  have e5 : cs = (cs.drop 0).take 1 ++ ((cs.drop 1).take 1 ++ ((cs.drop 2).take 1 ++ ((cs.drop 3).take 1 ++ (cs.drop 4).take 32))) := by
    have h4 : (cs.drop 4).take 32 = cs.drop 4 := List.take_of_length_le (by rw [List.length_drop]; omega)
    have st : ∀ j, (cs.drop j).take 1 ++ cs.drop (j + 1) = cs.drop j := fun j => by
      have := List.take_append_drop 1 (cs.drop j)
      rwa [List.drop_drop] at this
    rw [h4, st 3, st 2, st 1, st 0, List.drop_zero]
  rw [e5, e0, e1, e2, e3, e4]
  rfl
set_option maxRecDepth 100000 in
/-- A slice of steps among the arguments. -/
theorem opened_cks {H : Type} {enc : TypeId × Value → H} {W : World} {base : Nat} {v : Value} {d : DataW H} {p : List MemPlace} (hv : Value.okWide Try.prog W Reach.any base 39 v) (h : DataW.Trod enc Try.prog W 0 (fun _ => true) true 39 v d p) :
    ∃ (A : Option Addr) (cap : Nat) (cs : List Ck), v = .slice A cs.length cap ∧ CksR W A cs ∧ cs.length ≤ maxLen ∧ ∀ c ∈ cs, c.text.size ≤ maxLen ∧ c.keys.length ≤ maxLen := by
  obtain ⟨a0, len0, cap0, rfl⟩ := Go.WideShapes.okWide_slice Try.underlying39 hv
  obtain ⟨fuel, hf⟩ := h
  rcases open_slice Try.underlying39 hf with ⟨hcs, hx⟩ | ⟨ad, len, cap, m, n, D, Pl, hcs, hb, hl, hm, hmm, hx, hi⟩
  · have hcs' : Value.slice a0 len0 cap0 = .slice none 0 0 := by simpa [Value.cells] using hcs
    injection hcs' with h1 h2 h3
    subst h1 h2 h3
    exact ⟨none, 0, [], rfl, fun i s h => by simp at h, by decide, fun p hp => by simp at hp⟩
  · have hcs' : Value.slice a0 len0 cap0 = .slice (some ad) len cap := by simpa [Value.cells] using hcs
    injection hcs' with h1 h2 h3
    subst h1 h2 h3
    rw [if_pos rfl] at hmm
    have key : ∀ i, i < len0 → ∃ c : Ck, (c.text.size ≤ maxLen ∧ c.keys.length ≤ maxLen) ∧ ∃ b off I ic, ad = ⟨b, off, none⟩ ∧ (∀ (j : Nat) (v : Value), (ckCells c I ic)[j]? = some v → W.cell? ⟨b, off + i * 36 + j, none⟩ = some v) ∧ RowC W I (nums .i64 c.keys) ∧ KeyOk c.raw := by
      intro i hil
      obtain ⟨cs', hc, ht⟩ := hi i (by omega)
      obtain ⟨c, I, ic, rfl, hr, hk, hts, hkl⟩ := open_ck ht
      rw [cells_of55.1] at hc
      obtain ⟨_, hcl, hat⟩ := World.cells?_some hc
      obtain ⟨b, off, spot⟩ := ad
      have hspot : spot = none := by
        obtain ⟨cs0, hc0, ht0⟩ := hi 0 (by omega)
        obtain ⟨c0, I0, ic0, rfl, _⟩ := open_ck ht0
        rw [cells_of55.1] at hc0
        obtain ⟨_, _, hat0⟩ := World.cells?_some hc0
        have h0 := hat0 0 (by decide)
        have : (ckCells c0 I0 ic0)[0]? = some (.int .i64 c0.kind) := rfl
        rw [this] at h0
        simpa [Addr.add] using World.cell?_spot h0
      subst hspot
      refine ⟨c, ⟨hts, hkl⟩, b, off, I, ic, rfl, fun j v hv => ?_, hr, hk⟩
      have hj := (List.getElem?_eq_some_iff.1 hv).1
      have h1 := hat j (by omega)
      rw [Go.Deep.add_add, Addr.add_lit, ← Nat.add_assoc, hv] at h1
      exact h1
    obtain ⟨cs, hal, hap⟩ := list_of len0 key
    refine ⟨some ad, cap0, cs, by rw [hal], fun j c hj => ?_, by rw [hal]; omega, fun c hc => ?_⟩
    · obtain ⟨_, b, off, I, ic, rfl, h1, h2, h3⟩ := hap j c hj
      exact ⟨b, off, I, ic, rfl, h1, h2, h3⟩
    · obtain ⟨j, hj, rfl⟩ := List.getElem_of_mem hc
      exact (hap j _ (List.getElem?_eq_getElem hj)).1
end Go.Proofs.Ytcapfnbmmdbcoaa
namespace Go.Proofs.Ytcapfnbmmdbcoaa
open Go.RowKit
section
variable {K K0 : Nat → Prop} {P P' Q Q' R R1 R2 Z : Res} {w0 w w' : World} {L L' L2 : List Item}
theorem TF.rowNil (h : TF K0 P w0 w L) : TF K0 (starR P (rowR none [])) w0 w L :=
  h.map fun K hP => ⟨K, fun _ => False, hP, ⟨RowT.nil, fun h => absurd rfl h⟩, fun _ h => h, fun _ h => h.elim, fun _ _ h => h⟩
theorem TF.reC (h : TF K0 (starR (starR P R1) (starR Z R2)) w0 w L) : TF K0 (starR P (starR Z R1)) w0 w L :=
  h.map fun K ⟨K1, K2, ⟨Ka, Kb, a1, a2, a3, a4, a5⟩, ⟨Kc, Kd, c1, _, c3, _, _⟩, b3, b4, b5⟩ =>
    ⟨Ka, fun b => Kc b ∨ Kb b, a1, ⟨Kc, Kb, c1, a2, fun b h => .inl h, fun b h => .inr h, fun b h h2 => b5 b (a4 b h2) (c3 b h)⟩, fun b h => b3 b (a3 b h), fun b h => h.elim (fun h => b4 b (c3 b h)) (fun h => b3 b (a4 b h)), fun b h h2 => h2.elim (fun h2 => b5 b (a3 b h) (c3 b h2)) (fun h2 => a5 b h h2)⟩
/-- A new table of the reference's. -/
theorem TF.refNew (hP : Ok P) {m : Nat} (h : TF K0 P w0 w (.blk m (cellsO 48 [.slice none 0 0, .slice none 0 0]) :: L)) : TF K0 (starR P (refR m [])) w0 w L := by
  have h2 := h.step hP (h.reb.nil 95 3)
  have h3 := h2.step hP (h2.reb.nil 72 1)
  have e1 := h3.holds _ (List.mem_cons_of_mem _ List.mem_cons_self)
  have e2 := h3.holds _ List.mem_cons_self
  have e3 := h.holds _ List.mem_cons_self
  refine TF.absorb (L2 := [.blk m (cellsO 48 [.slice none 0 0, .slice none 0 0])]) h ⟨none, 0, none, 0, e3, ⟨[], e1, fun i t hi => by simp at hi⟩, e2, by simp, by simp, by simp, ?_, by simp [blkA], by simp [blkA]⟩ hP
  simp [blks, Item.block]
theorem TF.refCell {m : Nat} {ts : List Tm} (h : TF K0 (starR P (starR (starR (refR m ts) R1) R2)) w0 w L) : ∃ A c, w.cell? ⟨m, 0, none⟩ = some (.slice A ts.length c) := by
  obtain ⟨K, ⟨_, _, _, ⟨_, _, ⟨_, _, ⟨A, c, S, e, T⟩, _⟩, _⟩, _⟩, _⟩ := h.ex
  exact ⟨A, c, T.cap.1⟩
theorem TF.tabCell {g : Nat} {ts : List Tm} (h : TF K0 (starR (tabR g ts) Q) w0 w L) : ∃ A c, w.cell? ⟨g, 0, none⟩ = some (.slice A ts.length c) := by
  obtain ⟨K, ⟨_, _, ⟨mb, A, c, T⟩, _⟩, _⟩ := h.ex
  exact ⟨A, c, by rw [cell_of_row w g 0 _ 88 (0, 0) T.hg]; rfl⟩
theorem TF.rowA {A : Option Addr} {l : List (List Int)} (h : TF K0 (starR P (starR (starR Q (rowR A l)) R2)) w0 w L) : RowT w 26 A (nums .u8 l.flatten) := by
  obtain ⟨K, ⟨_, _, _, ⟨_, _, ⟨_, _, _, hr, _⟩, _⟩, _⟩, _⟩ := h.ex
  exact hr.1
theorem TF.rowB {A : Option Addr} {l : List (List Int)} (h : TF K0 (starR P (starR Z (rowR A l))) w0 w L) : RowT w 26 A (nums .u8 l.flatten) := by
  obtain ⟨K, ⟨_, _, _, ⟨_, _, _, hr, _⟩, _⟩, _⟩ := h.ex
  exact hr.1
theorem refZ_ok (m : Nat) (ts : List Tm) (A : Option Addr) (l : List (List Int)) : Ok (starR (refR m ts) (rowR A l)) := (refR_ok m ts).star (rowR_ok A l)
end
/-! ### The terms of others, as the steps find them -/
theorem sec_len : secT.length = 5 := by decide +kernel
theorem sec_kl : secK.length = 3 := rfl
theorem secK_ok : ∀ k ∈ secK, KeyOk k ∧ Kn secT.length k := by
  intro k hk
  simp only [secK, List.mem_cons, List.not_mem_nil, or_false] at hk
  rw [sec_len]
  rcases hk with rfl | rfl | rfl
  · exact ⟨kn_ok 2, fun _ => by rw [numK_kn (by decide)]; decide⟩
  · exact ⟨kn_ok 3, fun _ => by rw [numK_kn (by decide)]; decide⟩
  · exact ⟨kn_ok 4, fun _ => by rw [numK_kn (by decide)]; decide⟩
theorem zK_Kn (n : Nat) : Kn n zK := fun h => absurd h (by decide +kernel)
theorem kn_Kn {i n : Nat} (h : i < n) (hi : i < 4294967296) : Kn n (kn i) := fun _ => by rw [numK_kn hi]; omega
theorem sec_CI : CI 5 0 (secT, []) := by
  have hk : ∀ t ∈ secT, TmW t ∧ t.keys.length ≤ 10 ∧ ∀ k ∈ t.keys, KeyOk k ∧ Kn secT.length k := by
    intro t ht
    rw [sec_len]
    simp only [secT, List.mem_cons, List.not_mem_nil, or_false] at ht
    rcases ht with rfl | rfl | rfl | rfl | rfl
    · exact ⟨tmw_oth (by decide) (by decide) (by decide), by decide, by simp [sT0]⟩
    · exact ⟨tmw_oth (by decide) (by decide) (by decide), by decide, by simp [sT1]⟩
    · refine ⟨⟨fun h => by simp [sT2] at h, fun _ => by simp [sT2]⟩, by simp [sT2], fun k hk => ?_⟩
      simp only [sT2, List.mem_cons, List.not_mem_nil, or_false] at hk
      rcases hk with rfl | rfl | rfl
      · exact ⟨kn_ok 0, kn_Kn (by decide) (by decide)⟩
      · exact ⟨zK_ok, zK_Kn _⟩
      · exact ⟨kn_ok 1, kn_Kn (by decide) (by decide)⟩
    · refine ⟨⟨fun _ => by simp [sT3], fun h => by simp [sT3] at h⟩, by simp [sT3], fun k hk => ?_⟩
      simp only [sT3, List.mem_cons, List.not_mem_nil, or_false] at hk
      subst hk
      exact ⟨kn_ok 1, kn_Kn (by decide) (by decide)⟩
    · refine ⟨tmw_oth (by decide) (by decide) (by decide), by simp [sT4], fun k hk => ?_⟩
      simp only [sT4, List.mem_cons, List.not_mem_nil, or_false] at hk
      subst hk
      exact ⟨kn_ok 0, kn_Kn (by decide) (by decide)⟩
  exact ⟨fun t ht => (hk t ht).1, by simp [sec_len], by simp, fun t ht => (hk t ht).2.1, by simp, by simp, fun t ht => (hk t ht).2.2⟩
/-- All that is made of some steps. -/
def foeM (cs : List Ck) : List Tm × List (List Int) := cooks secK (secT, []) cs
theorem great_no {cs : List Ck} (h : greatL cs = false) (hr : ∀ c ∈ cs, KeyOk c.raw) : cs.length ≤ 60 ∧ ∀ c ∈ cs, CkOk c := by
  unfold greatL at h
  simp only [Bool.or_eq_false_iff, decide_eq_false_iff_not, List.any_eq_false] at h
  refine ⟨by omega, fun c hc => ?_⟩
  have := h.2 c hc
  simp only [greatC, Bool.or_eq_true, decide_eq_true_eq, not_or] at this
  exact ⟨by omega, by omega, hr c hc⟩
section
variable {w0 w : World} {L : List Item} {g m bS ac sc : Nat} {cs : List Ck} {A : Option Addr}
/-- What the steps and the seen keys are to a call on a thing that lies in new blocks. -/
theorem foe22 (H : TF (fun _ => False) (starR (tabR g secT) (refR m secT)) w0 w L) (hS : .blk bS (rowO .u8 26 secK.flatten) ∈ L) (hcs : CksR w0 A cs) (hcl : cs.length ≤ 60) (hck : ∀ c ∈ cs, CkOk c) :
    Calls Try.prog 22 #[.agg #[.pointer (some ⟨g, 0, none⟩)], .slice (some ⟨bS, 0, none⟩) 3 3, .slice A cs.length ac] w fun e w' => ∃ B d, e = .returned (.slice B (foeM cs).2.length d) ∧
      TF (fun _ => False) (starR (refR m secT) (starR (rowR B (foeM cs).2) (tabR g (foeM cs).1))) w0 w' L := by
  refine (H.goL (refR_ok _ _) (Post := fun K => MadeR K g w (foeM cs)) fun K h hlt hK hL _ => Make22 (n0 := 5) h hlt sec_CI (by decide) (by omega) hck secK_ok (H.reb.blkT hS) (fun ad hA => ?_) (hcs.toF H (fun b hb => (hK b hb).resolve_left id))).mono ?_
  · injection hA with hA
    subst hA
    exact ⟨hL _ hS _ rfl, Item.lt (H.holds _ hS) rfl⟩
  · rintro e wn ⟨K, ⟨B, d, he, hBd, F⟩, hf⟩
    exact ⟨B, d, he, (hf _ _ F).assoc.swap.assoc'.comm⟩
theorem foe23 {X : Res} (hX : Ok X) (H : TF (fun _ => False) (starR (refR m secT) X) w0 w L) (hS : .blk bS (rowO .u8 26 secK.flatten) ∈ L) (hcs : CksR w0 A cs) (hcl : cs.length ≤ 60) (hck : ∀ c ∈ cs, CkOk c) :
    Calls Try.prog 23 #[.pointer (some ⟨m, 0, none⟩), .slice (some ⟨bS, 0, none⟩) 3 3, .slice A cs.length ac] w fun e w' => ∃ B d, e = .returned (.slice B (foeM cs).2.length d) ∧
      TF (fun _ => False) (starR (refR m (foeM cs).1) X) w0 w' (.vec B (foeM cs).2.length d 26 32 (nums .u8 (foeM cs).2.flatten) :: L) := by
  refine (H.goL hX (Post := fun K => RMadeR K m w (foeM cs)) fun K h hlt hK hL _ => Make23 (n0 := 5) h hlt sec_CI (by decide) (by omega) hck (by decide) secK_ok (H.reb.blkT hS) (fun ad hA => ?_) (hcs.toF H (fun b hb => (hK b hb).resolve_left id))).mono ?_
  · injection hA with hA
    subst hA
    exact ⟨hL _ hS _ rfl, Item.lt (H.holds _ hS) rfl⟩
  · rintro e wn ⟨K, ⟨B, d, he, F⟩, hf⟩
    exact ⟨B, d, he, hf _ _ F⟩
end
end Go.Proofs.Ytcapfnbmmdbcoaa
namespace Go.Proofs.Ytcapfnbmmdbcoaa
open Go.RowKit
theorem same25 {A B : Option Addr} {c d n n' : Nat} {ks : List (List Int)} {w : World} (hn : n = ks.length) (hn' : n' = ks.length) (hk : ∀ k ∈ ks, KeyOk k) (hA : RowT w 26 A (nums .u8 ks.flatten)) (hB : RowT w 26 B (nums .u8 ks.flatten)) (hl : ks.length ≤ 100000) :
    Calls Try.prog 25 #[.slice A n c, .slice B n' d] w (BoolR true w) := by
  subst hn hn'
  have := SameKeys25 A B c d ks ks w hk hk hA hB hl hl
  rwa [decide_eq_true rfl] at this
theorem b48 : ∀ w : World, (Instr.build 48 #[]).run Try.prog w = .ok (.agg #[.slice none 0 0, .slice none 0 0]) w := fun w => by kernel_rfl
/-- A region that draws its order; that only new memory came is told, too. -/
theorem wp_region_planTM {P : Program} {a : Act} {w w0 : World} {Q : Exit → Act → World → Prop} {id : Nat} {ops : Array Oper} {R : Res} {K0 : Nat → Prop} {L : List Item} (T : World → Prop) (s : PlanT) (hm : P.follows .mixedOrders = true) (hB : (Region.noSelect ops && planTB .any ops s (Array.replicate ops.size false) && decide (s.depth ≤ ops.size)) = true)
    (hQ : ∀ c a (d : Tmp) v w, Q (.panic c) (Act.put a (some d) v) w → Q (.panic c) a w) (H : TF K0 R w0 w L) (hR : Ok R)
    (h : ∀ (ops' : Array Oper) (Q' : Exit → Act → World → Prop), Hid (ops' = ops) → Hid (Q' = Q) → ∀ w1, TF K0 R w0 w1 L → Mem w [] w1 [] → wpPlanT P ops' (fun w' => (∃ v E, Mem v E w' L) ∧ T w') Q' s a w1) : (Code.region id ops true).wp P Q a w :=
  wp_region_planS (fun w' => (∃ v E, Mem v E w' L) ∧ T w') s hm hB hQ fun w1 hb =>
    have M : Mem w [] w1 [] := ⟨hb.os, hb.tape, hb.output, hb.size, fun i hi _ => hb.block i hi, by simp, by simp, List.Pairwise.nil⟩
    h ops Q (hid rfl) (hid rfl) w1 (H.call0 hR M) M
theorem CksR.mem' {w0 w : World} {A : Option Addr} {cs : List Ck} (h : CksR w0 A cs) (M : Mem w0 [] w []) : CksR w A cs := h.mem M
end Go.Proofs.Ytcapfnbmmdbcoaa
