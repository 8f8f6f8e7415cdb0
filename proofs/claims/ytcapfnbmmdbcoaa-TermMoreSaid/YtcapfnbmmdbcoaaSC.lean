/- The walk of step: a step of no kind, a raw key. -/
import Derived.Test.YtcapfnbmmdbcoaaDB
set_option linter.unusedVariables false
set_option linter.unusedSimpArgs false
namespace Go.Proofs.Ytcapfnbmmdbcoaa
open Go.RowKit
theorem TF.cellRaw {K0 : Nat → Prop} {P : Res} {w0 w : World} {L : List Item} (h : TF K0 P w0 w L) {c : Ck} {I : Option Addr} {ic b : Nat} (hin : Item.blk b (cellsO 55 (ckCells c I ic)) ∈ L) : ∀ (j : Nat) (v : Value), (nums .u8 c.raw)[j]? = some v → w.cell? ⟨b, 4 + j, .none⟩ = some v := fun j v hv => by
  have := h.cellC hin (4 + j) v (by rw [ckCells, List.getElem?_append_right (by simp)]; simpa using hv)
  rwa [Nat.zero_add] at this
/-- put72 under TF. -/
theorem put72T {K0 : Nat → Prop} {w0 w : World} {L : List Item} {p g sc n : Nat} {ts : List Tm} {SA : Option Addr} {made : List (List Int)} (H : TF K0 (starR (tabR g ts) (potR p g (.slice SA n sc) made)) w0 w L) {B : Option Addr} {d : Nat} {ks : List (List Int)} (hk : ∀ k ∈ ks, KeyOk k) (hr : RowT w 26 B (nums .u8 ks.flatten)) (hn : made.length + ks.length ≤ 1000000) :
    Calls Try.prog 72 #[.pointer (some ⟨p, 0, .none⟩), .slice B ks.length d] w fun e w' => e = .returned (.tuple #[]) ∧ TF K0 (starR (tabR g ts) (potR p g (.slice SA n sc) (made ++ ks))) w0 w' L :=
  (H.runR (tabR_ok g ts) fun K1 hp hlt => put72 hp hlt rfl hk hr hn).mono fun e w' ⟨L2, ⟨he, hL⟩, F⟩ => ⟨he, by rw [hL] at F; exact F⟩
end Go.Proofs.Ytcapfnbmmdbcoaa
namespace Go.Proofs.Ytcapfnbmmdbcoaa
open Go.RowKit
/-- The pot's first cells. -/
def PotC (p g : Nat) (S : Value) (w : World) : Prop := w.cell? ⟨p, 0, none⟩ = some (.pointer (some ⟨g, 0, none⟩)) ∧ w.cell? ⟨p, 1, none⟩ = some S
theorem TF.st {K0 : Nat → Prop} {Q : Res} {w0 w : World} {L L' : List Item} {p g : Nat} {S : Value} {made : List (List Int)} (H : TF K0 (starR Q (potR p g S made)) w0 w L) (hs : L'.Sublist L) : (∃ v E, Mem v E w L') ∧ PotC p g S w := by
  refine ⟨⟨_, _, H.reb.sub hs⟩, ?_⟩
  obtain ⟨K, ⟨K1, K2, _, ⟨A, c, T⟩, _⟩, _⟩ := H.ex
  exact ⟨T.cells.1, T.cells.2.1⟩
theorem st_cell {w : World} {L : List Item} {T : World → Prop} (h : (∃ v E, Mem v E w L) ∧ T w) {t : TypeId} {cs : List Value} {b i : Nat} {v : Value} (hin : Item.blk b (cellsO t cs) ∈ L) (hv : cs[i]? = some v) : w.cell? ⟨b, i, none⟩ = some v := by
  obtain ⟨⟨_, _, M⟩, _⟩ := h
  exact M.cell hin hv
theorem foe_size {s : ByteArray} (h : s.size ≤ 200) : (foeS s).size ≤ 1000 := by
  rw [foeS, ByteArray.size_append]
  have : (ByteArray.mk #[102, 111, 101, 32]).size = 4 := rfl
  omega
theorem DrawT {K0 : Nat → Prop} {Q : Res} (hQ : Ok Q) {w0 w : World} {L : List Item} {g : Nat} {ts : List Tm} (H : TF K0 (starR (tabR g ts) Q) w0 w L) {text : ByteArray} (ht : text.size ≤ 1000) (hf : ts.length ≤ 900000) :
    Calls Try.prog 12 #[.pointer (some ⟨g, 0, none⟩), .string text] w fun e w' => IsKey (nm ts ⟨1, text, []⟩) e ∧ TF K0 (starR (tabR g (putL ts ⟨1, text, []⟩)) Q) w0 w' L :=
  (H.runL hQ (R := fun e L2 => IsKey (nm ts ⟨1, text, []⟩) e ∧ L2 = []) fun K1 h1 hlt => (DrawK h1 ht hf).mono fun e w' ⟨he, F⟩ => ⟨[], ⟨he, rfl⟩, TF.of F hlt⟩).mono fun e w' ⟨L2, ⟨he, hL⟩, F⟩ => ⟨he, by rw [hL] at F; exact F⟩
theorem nm_ok (ts : List Tm) (t : Tm) : KeyOk (nm ts t) := nameL_ok _
theorem one_ok {k : List Int} (h : KeyOk k) : ∀ x ∈ [k], KeyOk x := fun x hx => by rw [List.mem_singleton] at hx; subst hx; exact h
end Go.Proofs.Ytcapfnbmmdbcoaa
namespace Go.Proofs.Ytcapfnbmmdbcoaa
open Go.RowKit
theorem named_ok {made : List (List Int)} (hm : ∀ k ∈ made, KeyOk k) {is : List Int} {l : List (List Int)} (h : namedL made is = some l) : l.length = is.length ∧ ∀ k ∈ l, KeyOk k := by
  unfold namedL at h
  split at h
  · injection h with h
    subst h
    rename_i ha
    refine ⟨List.length_map _, fun k hk => ?_⟩
    obtain ⟨i, hi, rfl⟩ := List.mem_map.1 hk
    exact (getK_ok hm (List.all_eq_true.1 ha i hi)).2
  · cases h
theorem HashT {K0 : Nat → Prop} {Q : Res} (hQ : Ok Q) {w0 w : World} {L : List Item} {g : Nat} {ts : List Tm} (H : TF K0 (starR (tabR g ts) Q) w0 w L) {text : ByteArray} {B : Option Addr} {d : Nat} {ks : List (List Int)} (ht : text.size ≤ 1000) (hk : ∀ k ∈ ks, KeyOk k) (hl : ks.length ≤ 1000) (hin : .vec B ks.length d 26 32 (nums .u8 ks.flatten) ∈ L) (hf : ts.length ≤ 900000) :
    Calls Try.prog 13 #[.pointer (some ⟨g, 0, none⟩), .string text, .slice B ks.length d] w fun e w' => IsKey (nm ts ⟨2, text, ks⟩) e ∧ TF K0 (starR (tabR g (putL ts ⟨2, text, ks⟩)) Q) w0 w' L :=
  (H.runL hQ (R := fun e L2 => IsKey (nm ts ⟨2, text, ks⟩) e ∧ L2 = []) fun K1 h1 hlt => (HashK h1 ht hk hl (H.reb.vecT hin) (H.reb.vec_nil hin) hf).mono fun e w' ⟨he, F⟩ => ⟨[], ⟨he, rfl⟩, TF.of F hlt⟩).mono fun e w' ⟨L2, ⟨he, hL⟩, F⟩ => ⟨he, by rw [hL] at F; exact F⟩
end Go.Proofs.Ytcapfnbmmdbcoaa
namespace Go.Proofs.Ytcapfnbmmdbcoaa
open Go.RowKit
theorem Mem.vecB {w w0 : World} {E : List Nat} {L : List Item} {A : Option Addr} {n cap size : Nat} {t : TypeId} {cs : List Value} (M : Mem w0 E w L) (hin : .vec A n cap t size cs ∈ L) (hn : 1 ≤ n) : ∃ b, A = some ⟨b, 0, none⟩ := by
  have h : w.ownsRow 0 t size (.slice A n cap) n cs := M.holds _ hin
  rcases h.2 with ⟨h', hn⟩ | ⟨g, cap', cur, h', _⟩
  · omega
  · injection h' with h1 _ _
    exact ⟨g, h1⟩
theorem st_key {w : World} {L : List Item} {T : World → Prop} (h : (∃ v E, Mem v E w L) ∧ T w) {b n d i off : Nat} {l : List (List Int)} {k : List Int} (hk : ∀ k ∈ l, KeyOk k) (hin : Item.vec (some ⟨b, 0, none⟩) n d 26 32 (nums .u8 l.flatten) ∈ L) (hi : l[i]? = some k) (ho : off = i * 32) : ∀ (j : Nat) (v : Value), (nums .u8 k)[j]? = some v → w.cell? ⟨b, off + j, none⟩ = some v := by
  obtain ⟨⟨_, _, M⟩, _⟩ := h
  obtain ⟨b', off', e, hc⟩ := keys_at hk (M.vecT hin) hi
  injection e with e
  injection e with e1 e2 _
  subst e1 e2 ho
  intro j v hv
  have := hc j v hv
  rwa [Nat.zero_add] at this
theorem at_getD {l : List (List Int)} {i : Nat} (h : i < l.length) : l[i]? = some (l.getD i []) := by
  rw [List.getD_eq_getElem?_getD, List.getElem?_eq_getElem h]; rfl
theorem PubT {K0 : Nat → Prop} {Q : Res} (hQ : Ok Q) {w0 w : World} {L : List Item} {g : Nat} {ts : List Tm} (H : TF K0 (starR (tabR g ts) Q) w0 w L) {k : List Int} (hk : KeyOk k) (hf : ts.length ≤ 900000) :
    Calls Try.prog 27 #[.pointer (some ⟨g, 0, none⟩), .agg (nums .u8 k).toArray] w fun e w' => IsKey (nm ts ⟨3, ⟨#[]⟩, [k]⟩) e ∧ TF K0 (starR (tabR g (putL ts ⟨3, ⟨#[]⟩, [k]⟩)) Q) w0 w' L :=
  (H.runL hQ (R := fun e L2 => IsKey (nm ts ⟨3, ⟨#[]⟩, [k]⟩) e ∧ L2 = []) fun K1 h1 hlt => (PubK h1 hk hf).mono fun e w' ⟨he, F⟩ => ⟨[], ⟨he, rfl⟩, TF.of F hlt⟩).mono fun e w' ⟨L2, ⟨he, hL⟩, F⟩ => ⟨he, by rw [hL] at F; exact F⟩
end Go.Proofs.Ytcapfnbmmdbcoaa
namespace Go.Proofs.Ytcapfnbmmdbcoaa
open Go.RowKit
theorem row_key {w : World} {b o off i : Nat} {l : List (List Int)} {k : List Int} (hk : ∀ k ∈ l, KeyOk k) (hr : RowT w 26 (some ⟨b, o, none⟩) (nums .u8 l.flatten)) (hi : l[i]? = some k) (ho : off = o + i * 32) : ∀ (j : Nat) (v : Value), (nums .u8 k)[j]? = some v → w.cell? ⟨b, off + j, none⟩ = some v := by
  obtain ⟨b', off', e, hc⟩ := keys_at hk hr hi
  injection e with e
  injection e with e1 e2 _
  subst e1 e2 ho
  exact hc
theorem TF.potC {K0 : Nat → Prop} {Q : Res} {w0 w : World} {L : List Item} {p g : Nat} {S : Value} {made : List (List Int)} (H : TF K0 (starR Q (potR p g S made)) w0 w L) : PotC p g S w := (H.st (List.Sublist.refl _)).2
end Go.Proofs.Ytcapfnbmmdbcoaa
namespace Go.Proofs.Ytcapfnbmmdbcoaa
open Go.RowKit
theorem run_cvOff {P : Program} {o : Oper} {a : Act} {w : World} {src dst e : TypeId} (hs : P.underlying src = some (.slice e)) (he : P.underlying e = some (.int .u8)) (hd : P.underlying dst = some .string) {x : Operand} (ho : o.op = .convert src dst x)
    {g off cap : Nat} (hx : a.eval x = .slice (some ⟨g, off, none⟩) 32 cap) {xs : List Int} (hc : ∀ (j : Nat) (v : Value), (nums .u8 xs)[j]? = some v → w.cell? ⟨g, off + j, none⟩ = some v) (hl : xs.length = 32) :
    (execOp a.eval o).run P w = .ok (.value (.string (strOfNums xs))) w := by
  have hr := run_convert_bytes_arg (P := P) w src e hs he g off 32 cap xs hl (fun i hi => hc i _ (nums_get .u8 xs i (by omega))) dst hd
  unfold execOp
  simp only [ho, hx, Sem.run_bind, Sem.run_pure, Result.andThen_ok, hr]
theorem OpenT {K0 : Nat → Prop} {Q : Res} {w0 w : World} {L : List Item} {g : Nat} {ts : List Tm} (H : TF K0 (starR (tabR g ts) Q) w0 w L) (hw : ∀ t ∈ ts, TmW t) {k b : List Int} {s : ByteArray} (hk : KeyOk k) (hb : KeyOk b) {r : Option (ByteArray × List (List Int))} (hr : openM ts k b s = r) :
    Calls Try.prog 17 #[.pointer (some ⟨g, 0, none⟩), .agg (nums .u8 k).toArray, .agg (nums .u8 b).toArray, .string s] w (OpenR w r) := by
  obtain ⟨K, ⟨K1, K2, ⟨mb, A, c, T⟩, _⟩, _⟩ := H.ex
  subst hr
  exact Open17 K1 g mb c A ts k b s w T hw hk hb
theorem openM_ok {ts : List Tm} (h : ∀ t ∈ ts, TmOk t) {k b : List Int} {s x : ByteArray} {ks : List (List Int)} (ho : openM ts k b s = some (x, ks)) : ks.length ≤ 1000 ∧ ∀ k ∈ ks, KeyOk k := by
  unfold openM at ho
  split at ho
  · split at ho
    · rename_i t ht
      split at ho
      · simp only [Option.some.injEq, Prod.mk.injEq] at ho
        obtain ⟨rfl, rfl⟩ := ho
        have := h t (List.mem_of_getElem? ht)
        exact ⟨by rw [List.length_drop]; have := this.kl; omega, fun k hk => this.ks k (List.mem_of_mem_drop hk)⟩
      · cases ho
    · cases ho
  · cases ho
end Go.Proofs.Ytcapfnbmmdbcoaa
namespace Go.Proofs.Ytcapfnbmmdbcoaa
open Go.RowKit
end Go.Proofs.Ytcapfnbmmdbcoaa
namespace Go.Proofs.Ytcapfnbmmdbcoaa
open Go.RowKit
theorem low_none {A : Option Addr} {c k size : Nat} (h : A = none → c = 0) : lowA A c k size = none → c - k = 0 := by
  unfold lowA
  split
  · intro hA
    have := h hA
    omega
  · cases A with
    | none => intro _; have := h rfl; omega
    | some a => intro hA; cases hA
theorem low_keys {w : World} {A : Option Addr} {c k : Nat} {l : List (List Int)} (hl : ∀ x ∈ l, KeyOk x) (hr : RowT w 26 A (nums .u8 l.flatten)) (hc : l.length ≤ c) : RowT w 26 (lowA A c k 32) (nums .u8 (l.drop k).flatten) := by
  have h := hr.low (c := c) (low := k) (size := 32) (by rw [nums_length, flat_len hl]; omega)
  have e : (nums .u8 l.flatten).drop (k * 32) = nums .u8 (l.drop k).flatten := by
    rw [nums, ← List.map_drop]
    refine congrArg _ ?_
    have h2 : l = l.take k ++ l.drop k := (List.take_append_drop k l).symm
    by_cases hk : k ≤ l.length
    · have e1 : (l.take k).flatten.length = k * 32 := by
        rw [flat_len (fun x hx => hl x (List.mem_of_mem_take hx)), List.length_take, Nat.min_eq_left hk]
        (try omega)
      rw [show l.flatten = (l.take k).flatten ++ (l.drop k).flatten from by rw [← List.flatten_append, ← h2], ← e1, List.drop_left]
    · rw [List.drop_of_length_le (l := l) (by omega), List.drop_of_length_le (by rw [flat_len hl]; omega), List.flatten_nil]
  rwa [e] at h
theorem SealT {K0 : Nat → Prop} {Q : Res} (hQ : Ok Q) {w0 w : World} {L : List Item} {g : Nat} {ts : List Tm} (H : TF K0 (starR (tabR g ts) Q) w0 w L) {text : ByteArray} {k l : List Int} {B : Option Addr} {n d : Nat} {ks : List (List Int)} (hn : n = ks.length) (ht : text.size ≤ 1000) (hk : KeyOk k) (hkl : KeyOk l) (hks : ∀ k ∈ ks, KeyOk k) (hl : ks.length ≤ 900) (hr : RowT w 26 B (nums .u8 ks.flatten)) (hd : B = none → d = 0) (hf : ts.length ≤ 900000) :
    Calls Try.prog 15 #[.pointer (some ⟨g, 0, none⟩), .agg (nums .u8 k).toArray, .agg (nums .u8 l).toArray, .string text, .slice B n d] w fun e w' => IsStr (strOfNums (nm ts ⟨6, text, k :: l :: ks⟩)) e ∧ TF K0 (starR (tabR g (putL ts ⟨6, text, k :: l :: ks⟩)) Q) w0 w' L := by
  subst hn
  exact (H.runL hQ (R := fun e L2 => IsStr (strOfNums (nm ts ⟨6, text, k :: l :: ks⟩)) e ∧ L2 = []) fun K1 h1 hlt => (SealK h1 ht hk hkl hks hl hr hd hf).mono fun e w' ⟨he, F⟩ => ⟨[], ⟨he, rfl⟩, TF.of F hlt⟩).mono fun e w' ⟨L2, ⟨he, hL⟩, F⟩ => ⟨he, by rw [hL] at F; exact F⟩
theorem MarkN (g : Nat) {k : List Int} (hk : KeyOk k) (w : World) : Calls Try.prog 46 #[.pointer (some ⟨g, 0, none⟩), .string (strOfNums k)] w (KeyR k w) := by
  have := Mark46k g (strOfNums k) w (strKey hk).1
  rwa [(strKey hk).2] at this
end Go.Proofs.Ytcapfnbmmdbcoaa
namespace Go.Proofs.Ytcapfnbmmdbcoaa
open Go.RowKit
theorem AgreeTF {K0 : Nat → Prop} {Q : Res} (hQ : Ok Q) {w0 w : World} {L : List Item} {g : Nat} {ts : List Tm} (H : TF K0 (starR (tabR g ts) Q) w0 w L) {s p : List Int} (hw : ∀ t ∈ ts, TmW t) (hs : KeyOk s) (hp : KeyOk p) (hf : ts.length ≤ 900000) (hz : p ≠ zK) :
    Calls Try.prog 28 #[.pointer (some ⟨g, 0, none⟩), .agg (nums .u8 s).toArray, .agg (nums .u8 p).toArray] w fun e w' => IsKeyB (nm ts (agreeT ts s p)) true e ∧ TF K0 (starR (tabR g (putL ts (agreeT ts s p))) Q) w0 w' L :=
  (H.runL hQ (R := fun e L2 => IsKeyB (nm ts (agreeT ts s p)) true e ∧ L2 = []) fun K1 h1 hlt => (AgreeK h1 hw hs hp hf hz).mono fun e w' ⟨he, F⟩ => ⟨[], ⟨he, rfl⟩, TF.of F hlt⟩).mono fun e w' ⟨L2, ⟨he, hL⟩, F⟩ => ⟨he, by rw [hL] at F; exact F⟩
end Go.Proofs.Ytcapfnbmmdbcoaa
namespace Go.Proofs.Ytcapfnbmmdbcoaa
open Go.RowKit
end Go.Proofs.Ytcapfnbmmdbcoaa
