/- A play: what stands when a step begins; calls named; regions that draw. -/
import Derived.Test.YtcapfnbmmdbcoaaG4
set_option linter.unusedVariables false
set_option linter.unusedSimpArgs false
namespace Go.Proofs.Ytcapfnbmmdbcoaa
open Go.RowKit
theorem sz66' {c : Sp} {I : Option Addr} {ic : Nat} (h : KeyOk c.raw) : (Try.prog.info? 66).map (·.size) = some (spCells c I ic).length := sz66 h
theorem ok3 (p g m : Nat) (ts ts' : List Tm) (keys : List (List Int)) : Ok (starR (tabR g ts) (starR (refR m ts') (playR p g m keys))) := (tabR_ok g ts).star ((refR_ok m ts').star (playR_ok p g m keys))
theorem ok2 (p g m : Nat) (ts' : List Tm) (keys : List (List Int)) : Ok (starR (refR m ts') (playR p g m keys)) := (refR_ok m ts').star (playR_ok p g m keys)
/-- The play's pointers to its tables. -/
def PlayC (p g m : Nat) (w : World) : Prop := w.cell? ⟨p, 0, none⟩ = some (.pointer (some ⟨g, 0, none⟩)) ∧ w.cell? ⟨p, 1, none⟩ = some (.pointer (some ⟨m, 0, none⟩))
/-- What stands when a step of a play begins. -/
structure DoP (K : Nat → Prop) (w : World) (p g m n : Nat) (ts : List Tm) (keys : List (List Int)) (c : Sp) (I : Option Addr) (ic : Nat) : Prop where
  res : playS p g m ts keys K w
  lt : ∀ b, K b → b < w.heap.size
  pi : PI n ts keys
  nn : n ≤ 200
  raw : KeyOk c.raw
  row : RowC w I (nums .i64 c.keys)
  out : nums .i64 c.keys ≠ [] → ∀ ad, I = some ad → ¬ K ad.block
section
variable {K : Nat → Prop} {w w1 : World} {P Q : Res} {L L' : List Item} {p g m n : Nat} {ts ts1 : List Tm} {keys : List (List Int)} {c : Sp} {I : Option Addr} {ic : Nat}
theorem TF.stP (H : TF K (starR P (starR Q (playR p g m keys))) w w1 L) (hs : L'.Sublist L) : (∃ v E, Mem v E w1 L') ∧ PlayC p g m w1 := ⟨⟨_, _, H.reb.sub hs⟩, H.playC⟩
theorem DoP.ok (h : DoP K w p g m n ts keys c I ic) : ∀ k ∈ keys, KeyOk k := (TF.start h.res h.lt).playOk
theorem DoP.hl (h : DoP K w p g m n ts keys c I ic) : keys.length ≤ 100000 := by have := h.pi.kn; have := h.nn; omega
theorem DoP.tl (h : DoP K w p g m n ts keys c I ic) : ts.length ≤ 400 := by have := h.pi.tl; have := h.nn; omega
theorem DoP.at (h : DoP K w p g m n ts keys c I ic) (i : Int) : KeyOk (atK keys i) := atK_ok h.pi.k1 h.ok i
theorem two51N (hs : DoP K w p g m n ts keys c I ic) (H : TF K (starR P (starR Q (playR p g m keys))) w w1 L) {ka kb : List Int} (ha : atK keys c.at_ = ka) (hb : atK keys (c.keys.getD 0 0) = kb) :
    Calls Try.prog 51 #[.pointer (some ⟨p, 0, none⟩), .agg (spCells c I ic).toArray] w1 (TwoR ka kb w1) := by
  subst ha hb
  exact two51T H hs.pi.k1 hs.hl hs.raw (H.rowC hs.row hs.out)
theorem at31N (hs : DoP K w p g m n ts keys c I ic) (H : TF K (starR P (starR Q (playR p g m keys))) w w1 L) {i : Int} {k : List Int} (ha : atK keys i = k) :
    Calls Try.prog 31 #[.pointer (some ⟨p, 0, none⟩), .int .i64 i] w1 (KeyR k w1) := by
  subst ha
  exact at31T H hs.pi.k1 hs.hl i
theorem named53N (hs : DoP K w p g m n ts keys c I ic) (hP : Ok P) (hQ : Ok Q) (H : TF K (starR P (starR Q (playR p g m keys))) w w1 L) {l : List (List Int)} (hn : namedP keys c.keys = l) :
    Calls Try.prog 53 #[.pointer (some ⟨p, 0, none⟩), .agg (spCells c I ic).toArray] w1 fun e w' => ∃ B d, e = .returned (.slice B l.length d) ∧ TF K (starR P (starR Q (playR p g m keys))) w w' (.vec B l.length d 26 32 (nums .u8 l.flatten) :: L) := by
  subst hn
  exact (named53T H hs.pi.k1 hs.hl hs.raw (H.rowC hs.row hs.out)).mono fun e w' ⟨B, d, he, M⟩ => ⟨B, d, he, H.call (hP.star (hQ.star (playR_ok _ _ _ _))) M⟩
/-- The play is opened: its blocks, and how it is closed again; the call's own blocks lie elsewhere. -/
theorem TF.playOut2 (hP : Ok P) (hQ : Ok Q) (H : TF K (starR P (starR Q (playR p g m keys))) w w1 L) :
    ∃ A c, w1.cell? ⟨p, 2, none⟩ = some (.slice A keys.length c) ∧ Mem w1 (p :: blkA A) w1 [.blk p (cellsO 70 [.pointer (some ⟨g, 0, none⟩), .pointer (some ⟨m, 0, none⟩), .slice A keys.length c]), .vec A keys.length c 26 32 (nums .u8 keys.flatten)] ∧
      (∀ (A2 : Option Addr) (c2 : Nat) (ks : List (List Int)) (wz : World), (∀ k ∈ ks, KeyOk k) → Mem w1 (p :: blkA A) wz [.blk p (cellsO 70 [.pointer (some ⟨g, 0, none⟩), .pointer (some ⟨m, 0, none⟩), .slice A2 (keys.length + ks.length) c2]), .vec A2 (keys.length + ks.length) c2 26 32 (nums .u8 keys.flatten ++ nums .u8 ks.flatten)] → TF K (starR P (starR Q (playR p g m (keys ++ ks)))) w wz L) ∧
      ∀ b o, Item.blk b o ∈ L → ∀ (wz : World) (L2 : List Item), Mem w1 (p :: blkA A) wz L2 → wz.heap[b]? = some o := by
  obtain ⟨A, c, h1, h2, h3⟩ := H.playOut hP hQ
  refine ⟨A, c, h1, h2, h3, fun b o hin wz L2 M => ?_⟩
  obtain ⟨K1, ⟨_, K2, _, ⟨_, K4, _, ⟨A', c', T⟩, _, b4, _⟩, _, a4, _⟩, _, a6⟩ := H.ex
  have hAA : A' = A := by
    have := T.cells.2.2
    rw [h1] at this
    injection this with this
    injection this with this
    exact this.symm
  subst hAA
  have hh : w1.heap[b]? = some o := H.holds _ hin
  rw [M.old b (Array.getElem?_eq_some_iff.1 hh).1 fun hb => a6 _ hin b rfl (a4 _ (b4 _ (by
    rcases List.mem_cons.1 hb with rfl | hb
    · exact T.kp
    · exact T.kA b hb))), hh]
end
/-- A region that draws its order; S holds of some of the items only. -/
theorem wp_region_planTP {P : Program} {a : Act} {w w0 : World} {Q : Exit → Act → World → Prop} {id : Nat} {ops : Array Oper} {R : Res} {K0 : Nat → Prop} {L : List Item} (L0 : List Item) (T : World → Prop) (s : PlanT) (hm : P.follows .mixedOrders = true) (hB : (Region.noSelect ops && planTB .any ops s (Array.replicate ops.size false) && decide (s.depth ≤ ops.size)) = true)
    (hQ : ∀ c a (d : Tmp) v w, Q (.panic c) (Act.put a (some d) v) w → Q (.panic c) a w) (H : TF K0 R w0 w L) (hR : Ok R)
    (h : ∀ (ops' : Array Oper) (Q' : Exit → Act → World → Prop), Hid (ops' = ops) → Hid (Q' = Q) → ∀ w1, TF K0 R w0 w1 L → Mem w [] w1 [] → wpPlanT P ops' (fun w' => (∃ v E, Mem v E w' L0) ∧ T w') Q' s a w1) : (Code.region id ops true).wp P Q a w :=
  wp_region_planS (fun w' => (∃ v E, Mem v E w' L0) ∧ T w') s hm hB hQ fun w1 hb =>
    have M : Mem w [] w1 [] := ⟨hb.os, hb.tape, hb.output, hb.size, fun i hi _ => hb.block i hi, by simp, by simp, List.Pairwise.nil⟩
    h ops Q (hid rfl) (hid rfl) w1 (H.call0 hR M) M
theorem run_cvKeyP {P : Program} {o : Oper} {a : Act} {w w0 : World} {E : List Nat} {L : List Item} {src dst e : TypeId} (hs : P.underlying src = some (.slice e)) (he : P.underlying e = some (.int .u8)) (hd : P.underlying dst = some .string) {x : Operand} (ho : o.op = .convert src dst x)
    {g cap : Nat} (hx : a.eval x = .slice (some ⟨g, 0, none⟩) 32 cap) (M : Mem w0 E w L) {t : TypeId} {xs : List Int} (hin : .blk g (rowO .u8 t xs) ∈ L) (hl : xs.length = 32) :
    (execOp a.eval o).run P w = .ok (.value (.string (strOfNums xs))) w := by
  have := run_cvS hs he hd ho hx M hin (by omega)
  rw [List.drop_zero, List.take_of_length_le (by omega)] at this
  exact this
theorem st_cells {w : World} {L : List Item} {T : World → Prop} (h : (∃ v E, Mem v E w L) ∧ T w) {t : TypeId} {cs : List Value} {b : Nat} (hin : Item.blk b (cellsO t cs) ∈ L) : ∀ (j : Nat) (v : Value), cs[j]? = some v → w.cell? ⟨b, 0 + j, none⟩ = some v := fun j v hv => by
  rw [Nat.zero_add]
  exact st_cell h hin hv
theorem run_ldrowH {P : Program} {o : Oper} {a : Act} {w : World} {ty : TypeId} {d : TypeDesc} {n : Nat} (hu : P.underlying ty = some d) (hsz : (P.info? ty).map (·.size) = some n) {x : Operand} (ho : o.op = .load ty x) (hd : d.isRow = true) {g : Nat}
    (hx : a.eval x = .pointer (some ⟨g, 0, none⟩)) {k : IntKind} {t : TypeId} {xs : List Int} (hh : w.heap[g]? = some (rowO k t xs)) (hn : xs.length = n) : (execOp a.eval o).run P w = .ok (.value (.agg (nums k xs).toArray)) w := by
  have hr := run_loadVar_row (P := P) w g t ty (nums k xs).toArray (0, 0) d hh hu (by cases d <;> simp_all [TypeDesc.isRow]) (by rw [hsz]; simp [nums_length, hn])
  unfold execOp
  simp only [ho, hx, Instr.loadAt, Instr.sureAddr, Sem.run_bind, Sem.run_pure, Result.andThen_ok, hr]
theorem TF.lookOk {K0 : Nat → Prop} {Q : Res} {w0 w : World} {L : List Item} {g : Nat} {ts : List Tm} (H : TF K0 (starR (tabR g ts) Q) w0 w L) {k : List Int} (hk : KeyOk k) : (∀ q ∈ (lookT ts k).keys, KeyOk q) ∧ (lookT ts k).keys.length ≤ 100000 := by
  obtain ⟨K, ⟨K1, K2, ⟨mb, A, c, T⟩, _⟩, _⟩ := H.ex
  have h0 : (∀ q ∈ (⟨0, ⟨#[]⟩, [k]⟩ : Tm).keys, KeyOk q) ∧ (⟨0, ⟨#[]⟩, [k]⟩ : Tm).keys.length ≤ 100000 := ⟨fun q hq => by rw [List.mem_singleton] at hq; subst hq; exact hk, by simp⟩
  unfold lookT
  split
  · cases h : ts[(numT ts.length k).toNat]? with
    | none => exact h0
    | some t =>
      have := T.ok t (List.mem_of_getElem? h)
      exact ⟨this.ks, by have := this.kl; simp only [Option.getD_some]; omega⟩
  · exact h0
theorem Len26P {K0 : Nat → Prop} {Q : Res} {w0 w : World} {L : List Item} {g : Nat} {ts : List Tm} (H : TF K0 (starR (tabR g ts) Q) w0 w L) : Calls Try.prog 26 #[.pointer (some ⟨g, 0, none⟩)] w (IntR ts.length w) := by
  obtain ⟨A, c, h⟩ := H.tabCell
  exact Len26 g ts.length c A w h
/-! ### What a step keeps -/
theorem PI.mark {n : Nat} {ts : List Tm} {keys : List (List Int)} (h : PI n ts keys) (s : ByteArray) : (∀ u ∈ markL ts s, TmW u) ∧ (∀ u ∈ markL ts s, u.keys.length ≤ 10) ∧ (markL ts s).length ≤ 2 * n + 1 := mark_keeps s ⟨h.tw, h.kl, h.tl⟩
theorem PI.next {n : Nat} {ts ts2 : List Tm} {keys : List (List Int)} {x : List Int} (h : PI n ts keys) (h2 : (∀ u ∈ ts2, TmW u) ∧ (∀ u ∈ ts2, u.keys.length ≤ 10) ∧ ts2.length ≤ 2 * n + 2) : PI (n + 1) ts2 (keys ++ [x]) :=
  ⟨h2.1, h2.2.1, by have := h2.2.2; omega, by rw [List.length_append]; have := h.k1; omega, by rw [List.length_append, List.length_singleton]; have := h.kn; omega⟩
theorem PI.nextN {n : Nat} {ts ts2 : List Tm} {keys ks : List (List Int)} (h : PI n ts keys) (h2 : (∀ u ∈ ts2, TmW u) ∧ (∀ u ∈ ts2, u.keys.length ≤ 10) ∧ ts2.length ≤ 2 * n + 1) (hk : ks.length ≤ 10) : PI (n + 1) ts2 (keys ++ ks) :=
  ⟨h2.1, h2.2.1, by have := h2.2.2; omega, by rw [List.length_append]; have := h.k1; omega, by rw [List.length_append]; have := h.kn; omega⟩
theorem PI.mid {n : Nat} {ts ts2 : List Tm} {keys : List (List Int)} (h : PI n ts keys) (h2 : (∀ u ∈ ts2, TmW u) ∧ (∀ u ∈ ts2, u.keys.length ≤ 10) ∧ ts2.length ≤ 2 * n + 1) : PI (n + 1) ts2 keys :=
  ⟨h2.1, h2.2.1, by have := h2.2.2; omega, h.k1, by have := h.kn; omega⟩
theorem PI.up {n : Nat} {ts : List Tm} {keys : List (List Int)} (h : PI n ts keys) : PI (n + 1) ts keys := ⟨h.tw, h.kl, by have := h.tl; omega, h.k1, by have := h.kn; omega⟩
theorem kp_le {n : Nat} {ts : List Tm} (h : (∀ u ∈ ts, TmW u) ∧ (∀ u ∈ ts, u.keys.length ≤ 10) ∧ ts.length ≤ n) : (∀ u ∈ ts, TmW u) ∧ (∀ u ∈ ts, u.keys.length ≤ 10) ∧ ts.length ≤ n + 1 := ⟨h.1, h.2.1, by have := h.2.2; omega⟩
end Go.Proofs.Ytcapfnbmmdbcoaa
namespace Go.Proofs.Ytcapfnbmmdbcoaa
open Go.RowKit
/-! ### Rows that lie elsewhere -/
/-- A row that reads as cells, in none of the blocks of L. -/
def RowA (w : World) (B : Option Addr) (cs : List Value) (L : List Item) : Prop := RowT w 26 B cs ∧ ∀ ad, B = some ad → cs ≠ [] → ad.block ∉ blks L
theorem RowA.call {w w' : World} {B : Option Addr} {cs : List Value} {L : List Item} (h : RowA w B cs L) (M : Mem w [] w' []) : RowA w' B cs L := ⟨h.1.mem M, h.2⟩
theorem RowA.step {w w' : World} {B : Option Addr} {cs : List Value} {L L' : List Item} (h : RowA w B cs L) (M : Mem w (blks L) w' L') : RowA w' B cs L' := by
  refine ⟨h.1.elsewhere M h.2, fun ad hB hne hin => ?_⟩
  obtain ⟨x, hx, hxb⟩ := mem_blks.1 hin
  rcases M.fresh x hx _ hxb with h1 | h1
  · exact h.2 ad hB hne h1
  · obtain ⟨v, vs, hv⟩ := List.exists_cons_of_ne_nil hne
    obtain ⟨b, off, arr, mk, hA, hh, _⟩ := h.1 0 v (by rw [hv]; rfl)
    rw [hB] at hA
    injection hA with hA
    subst hA
    have := (Array.getElem?_eq_some_iff.1 hh).1
    simp only [] at h1
    omega
section
variable {K : Nat → Prop} {w w1 : World} {P Q X : Res} {L L' : List Item} {p g m n : Nat} {ts ts1 : List Tm} {keys : List (List Int)} {c : Sp} {I : Option Addr} {ic : Nat}
theorem TF.blks_lt (H : TF K P w w1 L) : ∀ b ∈ blks L, b < w1.heap.size := fun b hb => by
  obtain ⟨x, hx, hxb⟩ := mem_blks.1 hb
  exact Item.lt (H.holds x hx) hxb
theorem LookRA (H : TF K (starR P (starR (refR m ts) X)) w w1 L) {k : List Int} (hk : KeyOk k) :
    Calls Try.prog 58 #[.pointer (some ⟨m, 0, none⟩), .agg (nums .u8 k).toArray] w1 fun e w' => ∃ B d, e = .returned (.agg #[.int .i64 (lookT ts k).kind, .string (lookT ts k).text, .slice B (lookT ts k).keys.length d]) ∧ RowA w' B (nums .u8 (lookT ts k).keys.flatten) L ∧ Mem w1 [] w' [] := by
  have hbl := H.blks_lt
  obtain ⟨K1, ⟨_, K2, _, ⟨K3, K4, ⟨A, c, S, e, T⟩, _, b3, _⟩, _, a4, _⟩, a2, a6⟩ := H.ex
  refine (Look58 K3 m c e A S ts k w1 T hk).mono fun e w' ⟨B, d, he, _, _, hr, hB, M⟩ => ⟨B, d, he, ⟨hr, fun ad hBe hne hin => ?_⟩, M⟩
  have hne' : (lookT ts k).keys ≠ [] := fun h => hne (by rw [h]; rfl)
  rcases hB hne' ad hBe with h | h
  · obtain ⟨x, hx, hxb⟩ := mem_blks.1 hin
    exact a6 x hx _ hxb (a4 _ (b3 _ h))
  · have := hbl _ hin
    omega
theorem key_two {ks : List (List Int)} {b off : Nat} {y : List Int} (hk : ∀ k ∈ ks, KeyOk k) (h : RowT w1 26 (some ⟨b, off, none⟩) (nums .u8 ks.flatten)) (hi : ks[1]? = some y) {j : Nat} {v : Value} (hv : (nums .u8 y)[j]? = some v) : w1.cell? ⟨b, off + 32 + j, none⟩ = some v := by
  obtain ⟨b', off', hA, hc⟩ := keys_at hk h hi
  injection hA with hA
  injection hA with h1 h2
  subst h1 h2
  have := hc j v hv
  rwa [Nat.one_mul] at this
/-- A row that lies in none of the play's own blocks. -/
def AwayP (p : Nat) (A9 A : Option Addr) (l : List (List Int)) : Prop := ∀ ad, A = some ad → nums .u8 l.flatten ≠ [] → ad.block ∉ p :: blkA A9
theorem TF.playLt (H : TF K (starR P (starR Q (playR p g m keys))) w w1 L) {A9 : Option Addr} {n9 c9 : Nat} (hc : w1.cell? ⟨p, 2, none⟩ = some (.slice A9 n9 c9)) :
    ∃ K3 : Nat → Prop, Q K3 w1 ∧ (∀ b, K3 b → b < w1.heap.size) ∧ ∀ b ∈ p :: blkA A9, ¬ K3 b ∧ b < w1.heap.size := by
  obtain ⟨K1, ⟨_, K2, _, ⟨K3, K4, hQ, ⟨A', c', T⟩, b3, b4, b5⟩, _, a4, _⟩, a2, _⟩ := H.ex
  have hAA : A' = A9 := by
    have := T.cells.2.2
    rw [hc] at this
    injection this with this
    injection this with this
    exact this.symm
  subst hAA
  refine ⟨K3, hQ, fun b hb => (a2 b (a4 b (b3 b hb))).2, fun b hb => ?_⟩
  have h4 : K4 b := by
    rcases List.mem_cons.1 hb with rfl | hb
    · exact T.kp
    · exact T.kA b hb
  exact ⟨fun h3 => b5 b h3 h4, (a2 b (a4 b (b4 b h4))).2⟩
theorem OpenPA (H : TF K (starR (tabR g ts) (starR Q (playR p g m keys))) w w1 L) (hw : ∀ t ∈ ts, TmW t) {k b : List Int} {s : ByteArray} (hk : KeyOk k) (hb : KeyOk b) {A9 : Option Addr} {n9 c9 : Nat} (hc : w1.cell? ⟨p, 2, none⟩ = some (.slice A9 n9 c9)) :
    Calls Try.prog 17 #[.pointer (some ⟨g, 0, none⟩), .agg (nums .u8 k).toArray, .agg (nums .u8 b).toArray, .string s] w1 fun e w' => ∃ A d, e = .returned (.tuple #[.string (opS (openM ts k b s)), .slice A (opK (openM ts k b s)).length d, .bool (opB (openM ts k b s))]) ∧ RowT w' 26 A (nums .u8 (opK (openM ts k b s)).flatten) ∧ AwayP p A9 A (opK (openM ts k b s)) ∧ Mem w1 [] w' [] := by
  obtain ⟨K3, _, _, hlt⟩ := H.playLt hc
  refine (OpenT H hw hk hb rfl).mono fun e w' h => ?_
  cases ho : openM ts k b s with
  | none =>
    rw [ho] at h
    exact ⟨none, 0, h.1, RowT.nil, fun ad h => by simp at h, h.2⟩
  | some x =>
    obtain ⟨x, ks⟩ := x
    rw [ho] at h
    obtain ⟨A, c, he, _, _, hr, M⟩ := h
    refine ⟨A, c, he, hr, fun ad hA _ hin => ?_, M.sub (List.nil_sublist _)⟩
    have h1 := (hlt _ hin).2
    rcases M.fresh _ List.mem_cons_self ad.block (by rw [hA]; rfl) with h | h
    · simp at h
    · omega
theorem OpenMA (H : TF K (starR P (starR (refR m ts) (playR p g m keys))) w w1 L) (hw : ∀ t ∈ ts, TmW t) {k b : List Int} {s : ByteArray} (hk : KeyOk k) (hb : KeyOk b) {A9 : Option Addr} {n9 c9 : Nat} (hc : w1.cell? ⟨p, 2, none⟩ = some (.slice A9 n9 c9)) :
    Calls Try.prog 74 #[.pointer (some ⟨m, 0, none⟩), .agg (nums .u8 k).toArray, .agg (nums .u8 b).toArray, .string s] w1 fun e w' => ∃ A d, e = .returned (.tuple #[.string (opS (openM ts k b s)), .slice A (opK (openM ts k b s)).length d, .bool (opB (openM ts k b s))]) ∧ RowT w' 26 A (nums .u8 (opK (openM ts k b s)).flatten) ∧ AwayP p A9 A (opK (openM ts k b s)) ∧ Mem w1 [] w' [] := by
  obtain ⟨K3, hQ, hl3, hlt⟩ := H.playLt hc
  refine (Open74 hQ hl3 hw hk hb).mono fun e w' h => ?_
  cases ho : openM ts k b s with
  | none =>
    rw [ho] at h
    exact ⟨none, 0, h.1, RowT.nil, fun ad h => by simp at h, h.2⟩
  | some x =>
    obtain ⟨x, ks⟩ := x
    rw [ho] at h
    obtain ⟨A, c, he, _, _, hr, hB, M⟩ := h
    refine ⟨A, c, he, hr, fun ad hA hne hin => ?_, M⟩
    have h1 := hlt _ hin
    rcases hB (fun h => hne (by rw [h]; rfl)) ad hA with h | h
    · exact h1.1 h
    · omega
theorem TF.playOut3 (hP : Ok P) (hQ : Ok Q) (H : TF K (starR P (starR Q (playR p g m keys))) w w1 L) {A : Option Addr} {c : Nat} (hc : w1.cell? ⟨p, 2, none⟩ = some (.slice A keys.length c)) :
    Mem w1 (p :: blkA A) w1 [.blk p (cellsO 70 [.pointer (some ⟨g, 0, none⟩), .pointer (some ⟨m, 0, none⟩), .slice A keys.length c]), .vec A keys.length c 26 32 (nums .u8 keys.flatten)] ∧
      ∀ (A2 : Option Addr) (c2 : Nat) (ks : List (List Int)) (wz : World), (∀ k ∈ ks, KeyOk k) → Mem w1 (p :: blkA A) wz [.blk p (cellsO 70 [.pointer (some ⟨g, 0, none⟩), .pointer (some ⟨m, 0, none⟩), .slice A2 (keys.length + ks.length) c2]), .vec A2 (keys.length + ks.length) c2 26 32 (nums .u8 keys.flatten ++ nums .u8 ks.flatten)] → TF K (starR P (starR Q (playR p g m (keys ++ ks)))) w wz L := by
  obtain ⟨A', c', h1, h2, h3, _⟩ := H.playOut2 hP hQ
  rw [hc] at h1
  injection h1 with h1
  injection h1 with h1 _ h4
  subst h1 h4
  exact ⟨h2, h3⟩
theorem TF.playCell2 (H : TF K (starR P (starR Q (playR p g m keys))) w w1 L) : ∃ A c, w1.cell? ⟨p, 2, none⟩ = some (.slice A keys.length c) := by
  obtain ⟨K1, ⟨_, _, _, ⟨_, _, _, ⟨A, c, T⟩, _⟩, _⟩, _⟩ := H.ex
  exact ⟨A, c, T.cells.2.2⟩
theorem opK_len {k b : List Int} {s : ByteArray} (h : ∀ t ∈ ts, t.keys.length ≤ 10) : (opK (openM ts k b s)).length ≤ 10 := by
  cases ho : openM ts k b s with
  | none => simp [opK]
  | some x =>
    obtain ⟨x, ks⟩ := x
    unfold openM at ho
    split at ho
    · split at ho
      · rename_i t ht
        split at ho
        · simp only [Option.some.injEq, Prod.mk.injEq] at ho
          obtain ⟨rfl, rfl⟩ := ho
          have := h t (List.mem_of_getElem? ht)
          simp only [opK, List.length_drop]
          omega
        · simp at ho
      · simp at ho
    · simp at ho
theorem opK_ok (H : TF K (starR (tabR g ts) Q) w w1 L) (k b : List Int) (s : ByteArray) : ∀ q ∈ opK (openM ts k b s), KeyOk q := by
  obtain ⟨K1, ⟨_, _, ⟨mb, A, c, T⟩, _⟩, _⟩ := H.ex
  cases ho : openM ts k b s with
  | none => simp [opK]
  | some x =>
    obtain ⟨x, ks⟩ := x
    exact (openM_ok T.ok ho).2
end
end Go.Proofs.Ytcapfnbmmdbcoaa
