/- The walk of step: a step of no kind, a raw key. -/
import Derived.Test.YtcapfnbmmdbcoaaDB
set_option linter.unusedVariables false
set_option linter.unusedSimpArgs false
namespace Go.Proofs.Ytcapfnbmmdbcoaa
open Go.RowKit
theorem TF.cellRaw {K0 : Nat → Prop} {P : Res} {w0 w : World} {L : List Item} (h : TF K0 P w0 w L) {c : Ck} {I : Option Addr} {ic b : Nat} (hin : Item.blk b (cellsO 55 (ckCells c I ic)) ∈ L) : ∀ (j : Nat) (v : Value), (nums .u8 c.raw)[j]? = some v → w.cell? ⟨b, 4 + j, .none⟩ = some v := fun j v hv => by
  have := h.cellC hin (4 + j) v (by rw [ckCells, List.getElem?_append_right (by simp)]; simpa using hv)
  rwa [Nat.zero_add] at this
theorem CookR.put {K : Nat → Prop} {p g : Nat} {S : Value} {made ks : List (List Int)} {w w' : World} {ts : List Tm} {L : List Item} (H : TF K (starR (tabR g ts) (potR p g S (made ++ ks))) w w' L) {r : List Tm × List (List Int)} (hr : r = (ts, ks)) : CookR K p g S made w r (.returned (.tuple #[])) w' :=
  ⟨[], ⟨rfl, rfl⟩, by subst hr; exact H.sub (List.nil_sublist _)⟩
/-- put72 under TF. -/
theorem put72T {K0 : Nat → Prop} {w0 w : World} {L : List Item} {p g sc n : Nat} {ts : List Tm} {SA : Option Addr} {made : List (List Int)} (H : TF K0 (starR (tabR g ts) (potR p g (.slice SA n sc) made)) w0 w L) {B : Option Addr} {d : Nat} {ks : List (List Int)} (hk : ∀ k ∈ ks, KeyOk k) (hr : RowT w 26 B (nums .u8 ks.flatten)) (hn : made.length + ks.length ≤ 1000000) :
    Calls Try.prog 72 #[.pointer (some ⟨p, 0, .none⟩), .slice B ks.length d] w fun e w' => e = .returned (.tuple #[]) ∧ TF K0 (starR (tabR g ts) (potR p g (.slice SA n sc) (made ++ ks))) w0 w' L :=
  (H.runR (tabR_ok g ts) fun K1 hp hlt => put72 hp hlt rfl hk hr hn).mono fun e w' ⟨L2, ⟨he, hL⟩, F⟩ => ⟨he, by rw [hL] at F; exact F⟩
set_option maxRecDepth 100000 in
set_option maxHeartbeats 4000000 in
theorem step48_x {K : Nat → Prop} {w : World} {p g : Nat} {ts : List Tm} {seen made : List (List Int)} {SA : Option Addr} {sc : Nat} {c : Ck} {I : Option Addr} {ic : Nat} (h : StepP K w p g ts seen made SA sc c I ic) {l : List (List Int)} (hc : namedL made c.keys = some l) (hl : leastT c.kind ≤ (l.length : Int)) (h1 : ¬ c.kind = 1) (h2 : ¬ c.kind = 2) (h3 : ¬ c.kind = 3) (h4 : ¬ c.kind = 4) (h5 : ¬ c.kind = 5) (h6 : ¬ c.kind = 6) (h7 : ¬ c.kind = 7) (h8 : ¬ c.kind = 8) :
    Calls Try.prog 48 #[.pointer (some ⟨p, 0, none⟩), .agg (ckCells c I ic).toArray] w (CookR K p g (.slice SA seen.length sc) made w (ts, [])) := by
  have H := TF.start h.res h.lt
  have HR := hid ((tabR_ok g ts).star (potR_ok p g (.slice SA seen.length sc) made))
  have hs := hid h
  have hn := hid (And.intro hc (decide_eq_true hl))
  clear h hc hl
  go_enter Try.func48, Try.ntmps48
  go_wp2_with (first | (refine wpF_bxC (cs := ckCells c I ic) 3 H HR.out rfl rfl rfl rfl (fun b3 w1 H1 => ?_); clear H; (conv => arg 5; simp only [Act.put, List.setIfInBounds_toArray, List.set_cons_succ, List.set_cons_zero])) | (refine wpF_mkMap 12 H1 HR.out rfl rfl rfl (fun b12 w2 H2 => ?_); clear H1; (conv => arg 5; simp only [Act.put, List.setIfInBounds_toArray, List.set_cons_succ, List.set_cons_zero])) | (refine wpF_ins 0 4 1 (by kernel_rfl) rfl rfl H2 HR.out rfl rfl rfl rfl rfl Swap.head (fun w3 H3 => ?_); clear H2; (conv => arg 5; simp only [Act.put, List.setIfInBounds_toArray, List.set_cons_succ, List.set_cons_zero])) | (refine wpF_ins 1 5 2 (by kernel_rfl) rfl rfl H3 HR.out rfl rfl rfl rfl rfl Swap.head (fun w4 H4 => ?_); clear H3; (conv => arg 5; simp only [Act.put, List.setIfInBounds_toArray, List.set_cons_succ, List.set_cons_zero])) | (refine wpF_ins 2 6 2 (by kernel_rfl) rfl rfl H4 HR.out rfl rfl rfl rfl rfl Swap.head (fun w5 H5 => ?_); clear H4; (conv => arg 5; simp only [Act.put, List.setIfInBounds_toArray, List.set_cons_succ, List.set_cons_zero])) | (refine wpF_ins 3 7 3 (by kernel_rfl) rfl rfl H5 HR.out rfl rfl rfl rfl rfl Swap.head (fun w6 H6 => ?_); clear H5; have c0 := H6.cellC (List.mem_cons_of_mem _ List.mem_cons_self) 0 _ rfl; try dsimp only at c0; (conv => arg 5; simp only [Act.put, List.setIfInBounds_toArray, List.set_cons_succ, List.set_cons_zero])) | (refine wpList_ldagg 16 rfl Try.underlying55 rfl rfl rfl rfl (H6.cellC (List.mem_cons_of_mem _ List.mem_cons_self)) (sz55 hs.out.ck) ?_; (conv => arg 5; simp only [Act.put, List.setIfInBounds_toArray, List.set_cons_succ, List.set_cons_zero])) | (refine wpF_need 20 H6 rfl rfl rfl rfl rfl List.mem_cons_self ?_; (conv => arg 5; simp only [Act.put, List.setIfInBounds_toArray, List.set_cons_succ, List.set_cons_zero])) | (refine (named71S H6 hs.out.ml hs.out.ck (H6.rowC hs.out.ir hs.out.inn) hn.out).mono ?_; rintro e w7 ⟨B, d, rfl, M7⟩; have H7 := (H6.call HR.out M7).sub (L' := [.vec B l.length d 26 32 (nums .u8 l.flatten), .blk b3 (cellsO 55 (ckCells c I ic))]) (by (repeat (first | exact List.Sublist.refl _ | apply List.Sublist.cons_cons | apply List.Sublist.cons))); clear H6 c0 M7; have c0 := H7.cellC (List.mem_cons_of_mem _ List.mem_cons_self) 0 _ rfl; try dsimp only at c0))
  go_end0
  exact CookR.none H7
set_option maxRecDepth 100000 in
set_option maxHeartbeats 4000000 in
theorem step48_8 {K : Nat → Prop} {w : World} {p g : Nat} {ts : List Tm} {seen made : List (List Int)} {SA : Option Addr} {sc : Nat} {n : Int} {text : ByteArray} {keys raw : List Int} {I : Option Addr} {ic : Nat} (h : StepP K w p g ts seen made SA sc (⟨8, n, text, keys, raw⟩ : Ck) I ic) {l : List (List Int)} (hc : namedL made keys = some l) (hl : leastT 8 ≤ (l.length : Int)) :
    Calls Try.prog 48 #[.pointer (some ⟨p, 0, none⟩), .agg (ckCells (⟨8, n, text, keys, raw⟩ : Ck) I ic).toArray] w (CookR K p g (.slice SA seen.length sc) made w (ts, if nameL (numK raw) = raw then [] else [raw])) := by
  have H := TF.start h.res h.lt
  have HR := hid ((tabR_ok g ts).star (potR_ok p g (.slice SA seen.length sc) made))
  have hs := hid h
  have hn := hid (And.intro hc (decide_eq_true hl))
  clear h hc hl
  have HRK := hid (show KeyOk raw from hs.out.ck.raw)
  by_cases hsh : nameL (numK raw) = raw
  · have HB := hid (decide_eq_true hsh)
    rw [if_pos hsh]
    clear hsh
    go_enter Try.func48, Try.ntmps48
    go_wp2_with (first | (refine wpF_bxC (cs := ckCells (⟨8, n, text, keys, raw⟩ : Ck) I ic) 3 H HR.out rfl rfl rfl rfl (fun b3 w1 H1 => ?_); clear H; (conv => arg 5; simp only [Act.put, List.setIfInBounds_toArray, List.set_cons_succ, List.set_cons_zero])) | (refine wpF_mkMap 12 H1 HR.out rfl rfl rfl (fun b12 w2 H2 => ?_); clear H1; (conv => arg 5; simp only [Act.put, List.setIfInBounds_toArray, List.set_cons_succ, List.set_cons_zero])) | (refine wpF_ins 0 4 1 (by kernel_rfl) rfl rfl H2 HR.out rfl rfl rfl rfl rfl Swap.head (fun w3 H3 => ?_); clear H2; (conv => arg 5; simp only [Act.put, List.setIfInBounds_toArray, List.set_cons_succ, List.set_cons_zero])) | (refine wpF_ins 1 5 2 (by kernel_rfl) rfl rfl H3 HR.out rfl rfl rfl rfl rfl Swap.head (fun w4 H4 => ?_); clear H3; (conv => arg 5; simp only [Act.put, List.setIfInBounds_toArray, List.set_cons_succ, List.set_cons_zero])) | (refine wpF_ins 2 6 2 (by kernel_rfl) rfl rfl H4 HR.out rfl rfl rfl rfl rfl Swap.head (fun w5 H5 => ?_); clear H4; (conv => arg 5; simp only [Act.put, List.setIfInBounds_toArray, List.set_cons_succ, List.set_cons_zero])) | (refine wpF_ins 3 7 3 (by kernel_rfl) rfl rfl H5 HR.out rfl rfl rfl rfl rfl Swap.head (fun w6 H6 => ?_); clear H5; have c0 := H6.cellC (List.mem_cons_of_mem _ List.mem_cons_self) 0 _ rfl; try dsimp only at c0; (conv => arg 5; simp only [Act.put, List.setIfInBounds_toArray, List.set_cons_succ, List.set_cons_zero])) | (refine wpList_ldagg 16 rfl Try.underlying55 rfl rfl rfl rfl (H6.cellC (List.mem_cons_of_mem _ List.mem_cons_self)) (sz55 hs.out.ck) ?_; (conv => arg 5; simp only [Act.put, List.setIfInBounds_toArray, List.set_cons_succ, List.set_cons_zero])) | (refine wpF_need 20 H6 rfl rfl rfl rfl rfl List.mem_cons_self ?_; (conv => arg 5; simp only [Act.put, List.setIfInBounds_toArray, List.set_cons_succ, List.set_cons_zero])) | (refine (named71S H6 hs.out.ml hs.out.ck (H6.rowC hs.out.ir hs.out.inn) hn.out).mono ?_; rintro e w7 ⟨B, d, rfl, M7⟩; have H7 := (H6.call HR.out M7).sub (L' := [.vec B l.length d 26 32 (nums .u8 l.flatten), .blk b3 (cellsO 55 (ckCells (⟨8, n, text, keys, raw⟩ : Ck) I ic))]) (by (repeat (first | exact List.Sublist.refl _ | apply List.Sublist.cons_cons | apply List.Sublist.cons))); clear H6 c0 M7; have c0 := H7.cellC (List.mem_cons_of_mem _ List.mem_cons_self) 0 _ rfl; try dsimp only at c0) | (refine wpList_ldagg 173 rfl Try.underlying26 rfl rfl rfl rfl (H7.cellRaw (List.mem_cons_of_mem _ List.mem_cons_self)) (s26k HRK.out) ?_; (conv => arg 5; simp only [Act.put, List.setIfInBounds_toArray, List.set_cons_succ, List.set_cons_zero])) | (refine (shaped73 raw _ HRK.out).mono ?_; rw [HB.out]; rintro e w8 ⟨rfl, M8⟩; have H8 := H7.call0 HR.out M8; clear H7 c0))
    go_end0
    exact CookR.none H8
  · have HB := hid (decide_eq_false hsh)
    rw [if_neg hsh]
    clear hsh
    have HKS := hid (show ∀ k ∈ [raw], KeyOk k from fun k hk => by rw [List.mem_singleton] at hk; subst hk; exact HRK.out)
    go_enter Try.func48, Try.ntmps48
    go_wp2_with (first | (refine wpF_bxC (cs := ckCells (⟨8, n, text, keys, raw⟩ : Ck) I ic) 3 H HR.out rfl rfl rfl rfl (fun b3 w1 H1 => ?_); clear H; (conv => arg 5; simp only [Act.put, List.setIfInBounds_toArray, List.set_cons_succ, List.set_cons_zero])) | (refine wpF_mkMap 12 H1 HR.out rfl rfl rfl (fun b12 w2 H2 => ?_); clear H1; (conv => arg 5; simp only [Act.put, List.setIfInBounds_toArray, List.set_cons_succ, List.set_cons_zero])) | (refine wpF_ins 0 4 1 (by kernel_rfl) rfl rfl H2 HR.out rfl rfl rfl rfl rfl Swap.head (fun w3 H3 => ?_); clear H2; (conv => arg 5; simp only [Act.put, List.setIfInBounds_toArray, List.set_cons_succ, List.set_cons_zero])) | (refine wpF_ins 1 5 2 (by kernel_rfl) rfl rfl H3 HR.out rfl rfl rfl rfl rfl Swap.head (fun w4 H4 => ?_); clear H3; (conv => arg 5; simp only [Act.put, List.setIfInBounds_toArray, List.set_cons_succ, List.set_cons_zero])) | (refine wpF_ins 2 6 2 (by kernel_rfl) rfl rfl H4 HR.out rfl rfl rfl rfl rfl Swap.head (fun w5 H5 => ?_); clear H4; (conv => arg 5; simp only [Act.put, List.setIfInBounds_toArray, List.set_cons_succ, List.set_cons_zero])) | (refine wpF_ins 3 7 3 (by kernel_rfl) rfl rfl H5 HR.out rfl rfl rfl rfl rfl Swap.head (fun w6 H6 => ?_); clear H5; have c0 := H6.cellC (List.mem_cons_of_mem _ List.mem_cons_self) 0 _ rfl; try dsimp only at c0; (conv => arg 5; simp only [Act.put, List.setIfInBounds_toArray, List.set_cons_succ, List.set_cons_zero])) | (refine wpList_ldagg 16 rfl Try.underlying55 rfl rfl rfl rfl (H6.cellC (List.mem_cons_of_mem _ List.mem_cons_self)) (sz55 hs.out.ck) ?_; (conv => arg 5; simp only [Act.put, List.setIfInBounds_toArray, List.set_cons_succ, List.set_cons_zero])) | (refine wpF_need 20 H6 rfl rfl rfl rfl rfl List.mem_cons_self ?_; (conv => arg 5; simp only [Act.put, List.setIfInBounds_toArray, List.set_cons_succ, List.set_cons_zero])) | (refine (named71S H6 hs.out.ml hs.out.ck (H6.rowC hs.out.ir hs.out.inn) hn.out).mono ?_; rintro e w7 ⟨B, d, rfl, M7⟩; have H7 := (H6.call HR.out M7).sub (L' := [.vec B l.length d 26 32 (nums .u8 l.flatten), .blk b3 (cellsO 55 (ckCells (⟨8, n, text, keys, raw⟩ : Ck) I ic))]) (by (repeat (first | exact List.Sublist.refl _ | apply List.Sublist.cons_cons | apply List.Sublist.cons))); clear H6 c0 M7; have c0 := H7.cellC (List.mem_cons_of_mem _ List.mem_cons_self) 0 _ rfl; try dsimp only at c0) | (refine wpList_ldagg 173 rfl Try.underlying26 rfl rfl rfl rfl (H7.cellRaw (List.mem_cons_of_mem _ List.mem_cons_self)) (s26k HRK.out) ?_; (conv => arg 5; simp only [Act.put, List.setIfInBounds_toArray, List.set_cons_succ, List.set_cons_zero])) | (refine (shaped73 raw _ HRK.out).mono ?_; rw [HB.out]; rintro e w8 ⟨rfl, M8⟩; have H8 := H7.call0 HR.out M8; clear H7 c0) | (refine wpList_ldagg 178 rfl Try.underlying26 rfl rfl rfl rfl (H8.cellRaw (List.mem_cons_of_mem _ List.mem_cons_self)) (s26k HRK.out) ?_; (conv => arg 5; simp only [Act.put, List.setIfInBounds_toArray, List.set_cons_succ, List.set_cons_zero])) | (refine wpF_bsK1 179 H8 HR.out rfl rfl rfl rfl HRK.out (fun b179 w9 H9 => ?_); clear H8; (conv => arg 5; simp only [Act.put, List.setIfInBounds_toArray, List.set_cons_succ, List.set_cons_zero])) | (refine (put72T (ks := [raw]) H9 HKS.out (H9.reb.blkT List.mem_cons_self) (by have := hs.out.ml; simp only [List.length_singleton]; omega)).mono ?_; clear H9; rintro e w10 ⟨rfl, H10⟩))
    go_end0
    exact CookR.put H10 rfl
end Go.Proofs.Ytcapfnbmmdbcoaa
namespace Go.Proofs.Ytcapfnbmmdbcoaa
open Go.RowKit
/-- The pot's first cells. -/
def PotC (p g : Nat) (S : Value) (w : World) : Prop := w.cell? ⟨p, 0, none⟩ = some (.pointer (some ⟨g, 0, none⟩)) ∧ w.cell? ⟨p, 1, none⟩ = some S
theorem TF.st {K0 : Nat → Prop} {Q : Res} {w0 w : World} {L L' : List Item} {p g : Nat} {S : Value} {made : List (List Int)} (H : TF K0 (starR Q (potR p g S made)) w0 w L) (hs : L'.Sublist L) : (∃ v E, Mem v E w L') ∧ PotC p g S w := by
  refine ⟨⟨_, _, H.reb.sub hs⟩, ?_⟩
  obtain ⟨K, ⟨K1, K2, _, ⟨A, c, T⟩, _⟩, _⟩ := H.ex
  exact ⟨T.cells.1, T.cells.2.1⟩
theorem st_cell {w : World} {L : List Item} {T : World → Prop} (h : (∃ v E, Mem v E w L) ∧ T w) {t : TypeId} {cs : List Value} {b i : Nat} {v : Value} (hin : Item.blk b (cellsO t cs) ∈ L) (hv : cs[i]? = some v) : w.cell? ⟨b, i, none⟩ = some v := by
  obtain ⟨⟨_, _, M⟩, _⟩ := h
  exact M.cell hin hv
theorem foe_size {s : ByteArray} (h : s.size ≤ 200) : (foeS s).size ≤ 1000 := by
  rw [foeS, ByteArray.size_append]
  have : (ByteArray.mk #[102, 111, 101, 32]).size = 4 := rfl
  omega
theorem DrawT {K0 : Nat → Prop} {Q : Res} (hQ : Ok Q) {w0 w : World} {L : List Item} {g : Nat} {ts : List Tm} (H : TF K0 (starR (tabR g ts) Q) w0 w L) {text : ByteArray} (ht : text.size ≤ 1000) (hf : ts.length ≤ 900000) :
    Calls Try.prog 12 #[.pointer (some ⟨g, 0, none⟩), .string text] w fun e w' => IsKey (nm ts ⟨1, text, []⟩) e ∧ TF K0 (starR (tabR g (putL ts ⟨1, text, []⟩)) Q) w0 w' L :=
  (H.runL hQ (R := fun e L2 => IsKey (nm ts ⟨1, text, []⟩) e ∧ L2 = []) fun K1 h1 hlt => (DrawK h1 ht hf).mono fun e w' ⟨he, F⟩ => ⟨[], ⟨he, rfl⟩, TF.of F hlt⟩).mono fun e w' ⟨L2, ⟨he, hL⟩, F⟩ => ⟨he, by rw [hL] at F; exact F⟩
theorem nm_ok (ts : List Tm) (t : Tm) : KeyOk (nm ts t) := nameL_ok _
theorem one_ok {k : List Int} (h : KeyOk k) : ∀ x ∈ [k], KeyOk x := fun x hx => by rw [List.mem_singleton] at hx; subst hx; exact h
set_option maxRecDepth 100000 in
set_option maxHeartbeats 4000000 in
theorem step48_2 {K : Nat → Prop} {w : World} {p g : Nat} {ts : List Tm} {seen made : List (List Int)} {SA : Option Addr} {sc : Nat} {n : Int} {text : ByteArray} {keys raw : List Int} {I : Option Addr} {ic : Nat} (h : StepP K w p g ts seen made SA sc (⟨2, n, text, keys, raw⟩ : Ck) I ic) {l : List (List Int)} (hc : namedL made keys = some l) (hl : leastT 2 ≤ (l.length : Int)) :
    Calls Try.prog 48 #[.pointer (some ⟨p, 0, none⟩), .agg (ckCells (⟨2, n, text, keys, raw⟩ : Ck) I ic).toArray] w (CookR K p g (.slice SA seen.length sc) made w (putN ts ⟨1, foeS text, []⟩)) := by
  have H := TF.start h.res h.lt
  have HR := hid ((tabR_ok g ts).star (potR_ok p g (.slice SA seen.length sc) made))
  have hs := hid h
  have hn := hid (And.intro hc (decide_eq_true hl))
  clear h hc hl
  have hml := hs.out.ml
  have htl := hs.out.tl
  have htx : text.size ≤ 200 := hs.out.ck.tx
  have hfo : (ByteArray.mk #[102, 111, 101, 32]).size = 4 := rfl
  have HF := hid (foe_size htx)
  have hP := fun ts' => hid ((tabR_ok g ts').star (potR_ok p g (.slice SA seen.length sc) made))
  go_enter Try.func48, Try.ntmps48
  go_wp2_with (first | (refine wpF_bxC (cs := ckCells (⟨2, n, text, keys, raw⟩ : Ck) I ic) 3 H HR.out rfl rfl rfl rfl (fun b3 w1 H1 => ?_); clear H; (conv => arg 5; simp only [Act.put, List.setIfInBounds_toArray, List.set_cons_succ, List.set_cons_zero])) | (refine wpF_mkMap 12 H1 HR.out rfl rfl rfl (fun b12 w2 H2 => ?_); clear H1; (conv => arg 5; simp only [Act.put, List.setIfInBounds_toArray, List.set_cons_succ, List.set_cons_zero])) | (refine wpF_ins 0 4 1 (by kernel_rfl) rfl rfl H2 HR.out rfl rfl rfl rfl rfl Swap.head (fun w3 H3 => ?_); clear H2; (conv => arg 5; simp only [Act.put, List.setIfInBounds_toArray, List.set_cons_succ, List.set_cons_zero])) | (refine wpF_ins 1 5 2 (by kernel_rfl) rfl rfl H3 HR.out rfl rfl rfl rfl rfl Swap.head (fun w4 H4 => ?_); clear H3; (conv => arg 5; simp only [Act.put, List.setIfInBounds_toArray, List.set_cons_succ, List.set_cons_zero])) | (refine wpF_ins 2 6 2 (by kernel_rfl) rfl rfl H4 HR.out rfl rfl rfl rfl rfl Swap.head (fun w5 H5 => ?_); clear H4; (conv => arg 5; simp only [Act.put, List.setIfInBounds_toArray, List.set_cons_succ, List.set_cons_zero])) | (refine wpF_ins 3 7 3 (by kernel_rfl) rfl rfl H5 HR.out rfl rfl rfl rfl rfl Swap.head (fun w6 H6 => ?_); clear H5; have c0 := H6.cellC (List.mem_cons_of_mem _ List.mem_cons_self) 0 _ rfl; try dsimp only at c0; (conv => arg 5; simp only [Act.put, List.setIfInBounds_toArray, List.set_cons_succ, List.set_cons_zero])) | (refine wpList_ldagg 16 rfl Try.underlying55 rfl rfl rfl rfl (H6.cellC (List.mem_cons_of_mem _ List.mem_cons_self)) (sz55 hs.out.ck) ?_; (conv => arg 5; simp only [Act.put, List.setIfInBounds_toArray, List.set_cons_succ, List.set_cons_zero])) | (refine wpF_need 20 H6 rfl rfl rfl rfl rfl List.mem_cons_self ?_; (conv => arg 5; simp only [Act.put, List.setIfInBounds_toArray, List.set_cons_succ, List.set_cons_zero])) | (refine (named71S H6 hs.out.ml hs.out.ck (H6.rowC hs.out.ir hs.out.inn) hn.out).mono ?_; rintro e w7 ⟨B, d, rfl, M7⟩; have H7 := (H6.call HR.out M7).sub (L' := [.vec B l.length d 26 32 (nums .u8 l.flatten), .blk b3 (cellsO 55 (ckCells (⟨2, n, text, keys, raw⟩ : Ck) I ic))]) (by (repeat (first | exact List.Sublist.refl _ | apply List.Sublist.cons_cons | apply List.Sublist.cons))); clear H6 c0 M7; have c0 := H7.cellC (List.mem_cons_of_mem _ List.mem_cons_self) 0 _ rfl; try dsimp only at c0))
  refine wp_region_planTF (PotC p g (.slice SA seen.length sc)) (.free 0 (.free 1 (.free 2 (.free 3 (.free 4 (.free 5 (.free 6 (.free 7 (.free 8 (.one 9 (.one 10 (.one 11 (.done))))))))))))) (by kernel_rfl) (by kernel_rfl) (fun _ _ _ _ _ h => h) H7 HR.out ?_
  clear H7 c0
  intro ops Q HO HQ w8 H
  (refine wpT_free (by rw [HO.out]; rfl) rfl (.inl ⟨rfl, fun w _ => by go_simp; rfl⟩) (by exact H.st (by (repeat (first | exact List.Sublist.refl _ | apply List.Sublist.cons_cons | apply List.Sublist.cons)))) ?_; (conv => arg 6; simp only [Act.put, List.setIfInBounds_toArray, List.set_cons_succ, List.set_cons_zero]))
  (refine wpT_free (by rw [HO.out]; rfl) rfl (.inl ⟨rfl, fun w _ => by go_simp; rfl⟩) (by exact H.st (by (repeat (first | exact List.Sublist.refl _ | apply List.Sublist.cons_cons | apply List.Sublist.cons)))) ?_; (conv => arg 6; simp only [Act.put, List.setIfInBounds_toArray, List.set_cons_succ, List.set_cons_zero]))
  (refine wpT_free (by rw [HO.out]; rfl) rfl (.inl ⟨rfl, fun w _ => by go_simp; rfl⟩) (by exact H.st (by (repeat (first | exact List.Sublist.refl _ | apply List.Sublist.cons_cons | apply List.Sublist.cons)))) ?_; (conv => arg 6; simp only [Act.put, List.setIfInBounds_toArray, List.set_cons_succ, List.set_cons_zero]))
  (refine wpT_free (by rw [HO.out]; rfl) rfl (.inl ⟨rfl, fun w _ => by go_simp; rfl⟩) (by exact H.st (by (repeat (first | exact List.Sublist.refl _ | apply List.Sublist.cons_cons | apply List.Sublist.cons)))) ?_; (conv => arg 6; simp only [Act.put, List.setIfInBounds_toArray, List.set_cons_succ, List.set_cons_zero]))
  (refine wpT_free (by rw [HO.out]; rfl) rfl (.inl ⟨rfl, fun w _ => by go_simp; rfl⟩) (by exact H.st (by (repeat (first | exact List.Sublist.refl _ | apply List.Sublist.cons_cons | apply List.Sublist.cons)))) ?_; (conv => arg 6; simp only [Act.put, List.setIfInBounds_toArray, List.set_cons_succ, List.set_cons_zero]))
  (refine wpT_free (by rw [HO.out]; rfl) rfl (.inl ⟨rfl, fun w hw => run_ld1 Try.underlying23 rfl rfl rfl hw.2.1⟩) (by exact H.st (by (repeat (first | exact List.Sublist.refl _ | apply List.Sublist.cons_cons | apply List.Sublist.cons)))) ?_; (conv => arg 6; simp only [Act.put, List.setIfInBounds_toArray, List.set_cons_succ, List.set_cons_zero]))
  (refine wpT_free (by rw [HO.out]; rfl) rfl (.inl ⟨rfl, fun w _ => by go_simp; rfl⟩) (by exact H.st (by (repeat (first | exact List.Sublist.refl _ | apply List.Sublist.cons_cons | apply List.Sublist.cons)))) ?_; (conv => arg 6; simp only [Act.put, List.setIfInBounds_toArray, List.set_cons_succ, List.set_cons_zero]))
  (refine wpT_free (by rw [HO.out]; rfl) rfl (.inl ⟨rfl, fun w hw => run_ld1 Try.underlying9 rfl rfl rfl (st_cell hw (i := 2) (List.mem_cons_of_mem _ List.mem_cons_self) rfl)⟩) (by exact H.st (by (repeat (first | exact List.Sublist.refl _ | apply List.Sublist.cons_cons | apply List.Sublist.cons)))) ?_; (conv => arg 6; simp only [Act.put, List.setIfInBounds_toArray, List.set_cons_succ, List.set_cons_zero]))
  (refine wpT_free (by rw [HO.out]; rfl) rfl (.inl ⟨rfl, fun w _ => by go_simp; rw [if_neg (by (try simp only [ByteArray.size_append]); omega)]⟩) (by exact H.st (by (repeat (first | exact List.Sublist.refl _ | apply List.Sublist.cons_cons | apply List.Sublist.cons)))) ?_; (conv => arg 6; simp only [Act.put, List.setIfInBounds_toArray, List.set_cons_succ, List.set_cons_zero]))
  refine wpT_op (by rw [HO.out]; rfl) ?_
  go_wp2_with (go_at_call 12; refine (DrawT (potR_ok _ _ _ _) H HF.out (by omega)).mono ?_; clear H; rintro e wn ⟨rfl, H⟩)
  refine PlanTQ.mk (by exact H.st (by (repeat (first | exact List.Sublist.refl _ | apply List.Sublist.cons_cons | apply List.Sublist.cons)))) ?_
  refine wpT_op (by rw [HO.out]; rfl) ?_
  go_wp2_with (refine wpF_bsK1 66 H (hP _).out rfl rfl rfl rfl (nm_ok _ _) (fun b66 wn Hn => ?_); clear H; rename TF _ _ _ _ _ => H; (conv => arg 5; simp only [Act.put, List.setIfInBounds_toArray, List.set_cons_succ, List.set_cons_zero]))
  refine PlanTQ.mk (by exact H.st (by (repeat (first | exact List.Sublist.refl _ | apply List.Sublist.cons_cons | apply List.Sublist.cons)))) ?_
  refine wpT_op (by rw [HO.out]; rfl) ?_
  go_wp2_with (refine (put72T (ks := [nm ts ⟨1, foeS text, []⟩]) H (one_ok (nm_ok _ _)) (H.reb.blkT (by (repeat (first | exact List.mem_cons_self | refine List.mem_cons_of_mem _ ?_)))) (by simp only [List.length_singleton]; omega)).mono ?_; clear H; rintro e wn ⟨rfl, H⟩)
  refine PlanTQ.mk (by exact H.st (by (repeat (first | exact List.Sublist.refl _ | apply List.Sublist.cons_cons | apply List.Sublist.cons)))) ?_
  refine wpT_done ?_
  rw [HQ.out]
  go_wp2_with fail
  go_end0
  exact CookR.put H rfl
end Go.Proofs.Ytcapfnbmmdbcoaa
namespace Go.Proofs.Ytcapfnbmmdbcoaa
open Go.RowKit
theorem named_ok {made : List (List Int)} (hm : ∀ k ∈ made, KeyOk k) {is : List Int} {l : List (List Int)} (h : namedL made is = some l) : l.length = is.length ∧ ∀ k ∈ l, KeyOk k := by
  unfold namedL at h
  split at h
  · injection h with h
    subst h
    rename_i ha
    refine ⟨List.length_map _, fun k hk => ?_⟩
    obtain ⟨i, hi, rfl⟩ := List.mem_map.1 hk
    exact (getK_ok hm (List.all_eq_true.1 ha i hi)).2
  · cases h
theorem StepP.named {K : Nat → Prop} {w : World} {p g : Nat} {ts : List Tm} {seen made : List (List Int)} {SA : Option Addr} {sc : Nat} {c : Ck} {I : Option Addr} {ic : Nat} (h : StepP K w p g ts seen made SA sc c I ic) {l : List (List Int)} (hc : namedL made c.keys = some l) : l.length ≤ 10 ∧ ∀ k ∈ l, KeyOk k := by
  obtain ⟨K1, K2, _, ⟨A, ca, T⟩, _⟩ := h.res
  obtain ⟨h1, h2⟩ := named_ok T.ok hc
  have := h.ck.kl
  exact ⟨by omega, h2⟩
theorem HashT {K0 : Nat → Prop} {Q : Res} (hQ : Ok Q) {w0 w : World} {L : List Item} {g : Nat} {ts : List Tm} (H : TF K0 (starR (tabR g ts) Q) w0 w L) {text : ByteArray} {B : Option Addr} {d : Nat} {ks : List (List Int)} (ht : text.size ≤ 1000) (hk : ∀ k ∈ ks, KeyOk k) (hl : ks.length ≤ 1000) (hin : .vec B ks.length d 26 32 (nums .u8 ks.flatten) ∈ L) (hf : ts.length ≤ 900000) :
    Calls Try.prog 13 #[.pointer (some ⟨g, 0, none⟩), .string text, .slice B ks.length d] w fun e w' => IsKey (nm ts ⟨2, text, ks⟩) e ∧ TF K0 (starR (tabR g (putL ts ⟨2, text, ks⟩)) Q) w0 w' L :=
  (H.runL hQ (R := fun e L2 => IsKey (nm ts ⟨2, text, ks⟩) e ∧ L2 = []) fun K1 h1 hlt => (HashK h1 ht hk hl (H.reb.vecT hin) (H.reb.vec_nil hin) hf).mono fun e w' ⟨he, F⟩ => ⟨[], ⟨he, rfl⟩, TF.of F hlt⟩).mono fun e w' ⟨L2, ⟨he, hL⟩, F⟩ => ⟨he, by rw [hL] at F; exact F⟩
set_option maxRecDepth 100000 in
set_option maxHeartbeats 4000000 in
theorem step48_3 {K : Nat → Prop} {w : World} {p g : Nat} {ts : List Tm} {seen made : List (List Int)} {SA : Option Addr} {sc : Nat} {n : Int} {text : ByteArray} {keys raw : List Int} {I : Option Addr} {ic : Nat} (h : StepP K w p g ts seen made SA sc (⟨3, n, text, keys, raw⟩ : Ck) I ic) {l : List (List Int)} (hc : namedL made keys = some l) (hl : leastT 3 ≤ (l.length : Int)) :
    Calls Try.prog 48 #[.pointer (some ⟨p, 0, none⟩), .agg (ckCells (⟨3, n, text, keys, raw⟩ : Ck) I ic).toArray] w (CookR K p g (.slice SA seen.length sc) made w (putN ts ⟨2, text, l⟩)) := by
  have H := TF.start h.res h.lt
  have HR := hid ((tabR_ok g ts).star (potR_ok p g (.slice SA seen.length sc) made))
  have hs := hid h
  have hn := hid (And.intro hc (decide_eq_true hl))
  clear h hc hl
  have hml := hs.out.ml
  have htl := hs.out.tl
  have htx : text.size ≤ 200 := hs.out.ck.tx
  obtain ⟨hl10, hlk⟩ := hs.out.named hn.out.1
  have HLK := hid hlk
  clear hlk
  have hP := fun ts' => hid ((tabR_ok g ts').star (potR_ok p g (.slice SA seen.length sc) made))
  go_enter Try.func48, Try.ntmps48
  go_wp2_with (first | (refine wpF_bxC (cs := ckCells (⟨3, n, text, keys, raw⟩ : Ck) I ic) 3 H HR.out rfl rfl rfl rfl (fun b3 w1 H1 => ?_); clear H; (conv => arg 5; simp only [Act.put, List.setIfInBounds_toArray, List.set_cons_succ, List.set_cons_zero])) | (refine wpF_mkMap 12 H1 HR.out rfl rfl rfl (fun b12 w2 H2 => ?_); clear H1; (conv => arg 5; simp only [Act.put, List.setIfInBounds_toArray, List.set_cons_succ, List.set_cons_zero])) | (refine wpF_ins 0 4 1 (by kernel_rfl) rfl rfl H2 HR.out rfl rfl rfl rfl rfl Swap.head (fun w3 H3 => ?_); clear H2; (conv => arg 5; simp only [Act.put, List.setIfInBounds_toArray, List.set_cons_succ, List.set_cons_zero])) | (refine wpF_ins 1 5 2 (by kernel_rfl) rfl rfl H3 HR.out rfl rfl rfl rfl rfl Swap.head (fun w4 H4 => ?_); clear H3; (conv => arg 5; simp only [Act.put, List.setIfInBounds_toArray, List.set_cons_succ, List.set_cons_zero])) | (refine wpF_ins 2 6 2 (by kernel_rfl) rfl rfl H4 HR.out rfl rfl rfl rfl rfl Swap.head (fun w5 H5 => ?_); clear H4; (conv => arg 5; simp only [Act.put, List.setIfInBounds_toArray, List.set_cons_succ, List.set_cons_zero])) | (refine wpF_ins 3 7 3 (by kernel_rfl) rfl rfl H5 HR.out rfl rfl rfl rfl rfl Swap.head (fun w6 H6 => ?_); clear H5; have c0 := H6.cellC (List.mem_cons_of_mem _ List.mem_cons_self) 0 _ rfl; try dsimp only at c0; (conv => arg 5; simp only [Act.put, List.setIfInBounds_toArray, List.set_cons_succ, List.set_cons_zero])) | (refine wpList_ldagg 16 rfl Try.underlying55 rfl rfl rfl rfl (H6.cellC (List.mem_cons_of_mem _ List.mem_cons_self)) (sz55 hs.out.ck) ?_; (conv => arg 5; simp only [Act.put, List.setIfInBounds_toArray, List.set_cons_succ, List.set_cons_zero])) | (refine wpF_need 20 H6 rfl rfl rfl rfl rfl List.mem_cons_self ?_; (conv => arg 5; simp only [Act.put, List.setIfInBounds_toArray, List.set_cons_succ, List.set_cons_zero])) | (refine (named71S H6 hs.out.ml hs.out.ck (H6.rowC hs.out.ir hs.out.inn) hn.out).mono ?_; rintro e w7 ⟨B, d, rfl, M7⟩; have H7 := (H6.call HR.out M7).sub (L' := [.vec B l.length d 26 32 (nums .u8 l.flatten), .blk b3 (cellsO 55 (ckCells (⟨3, n, text, keys, raw⟩ : Ck) I ic))]) (by (repeat (first | exact List.Sublist.refl _ | apply List.Sublist.cons_cons | apply List.Sublist.cons))); clear H6 c0 M7; have c0 := H7.cellC (List.mem_cons_of_mem _ List.mem_cons_self) 0 _ rfl; try dsimp only at c0))
  refine wp_region_planTF (PotC p g (.slice SA seen.length sc)) (.free 0 (.free 1 (.free 2 (.free 3 (.free 4 (.free 5 (.free 6 (.free 7 (.free 8 (.one 9 (.one 10 (.one 11 (.done))))))))))))) (by kernel_rfl) (by kernel_rfl) (fun _ _ _ _ _ h => h) H7 HR.out ?_
  clear H7 c0
  intro ops Q HO HQ w8 H
  (refine wpT_free (by rw [HO.out]; rfl) rfl (.inl ⟨rfl, fun w _ => by go_simp; rfl⟩) (by exact H.st (by (repeat (first | exact List.Sublist.refl _ | apply List.Sublist.cons_cons | apply List.Sublist.cons)))) ?_; (conv => arg 6; simp only [Act.put, List.setIfInBounds_toArray, List.set_cons_succ, List.set_cons_zero]))
  (refine wpT_free (by rw [HO.out]; rfl) rfl (.inl ⟨rfl, fun w _ => by go_simp; rfl⟩) (by exact H.st (by (repeat (first | exact List.Sublist.refl _ | apply List.Sublist.cons_cons | apply List.Sublist.cons)))) ?_; (conv => arg 6; simp only [Act.put, List.setIfInBounds_toArray, List.set_cons_succ, List.set_cons_zero]))
  (refine wpT_free (by rw [HO.out]; rfl) rfl (.inl ⟨rfl, fun w _ => by go_simp; rfl⟩) (by exact H.st (by (repeat (first | exact List.Sublist.refl _ | apply List.Sublist.cons_cons | apply List.Sublist.cons)))) ?_; (conv => arg 6; simp only [Act.put, List.setIfInBounds_toArray, List.set_cons_succ, List.set_cons_zero]))
  (refine wpT_free (by rw [HO.out]; rfl) rfl (.inl ⟨rfl, fun w _ => by go_simp; rfl⟩) (by exact H.st (by (repeat (first | exact List.Sublist.refl _ | apply List.Sublist.cons_cons | apply List.Sublist.cons)))) ?_; (conv => arg 6; simp only [Act.put, List.setIfInBounds_toArray, List.set_cons_succ, List.set_cons_zero]))
  (refine wpT_free (by rw [HO.out]; rfl) rfl (.inl ⟨rfl, fun w _ => by go_simp; rfl⟩) (by exact H.st (by (repeat (first | exact List.Sublist.refl _ | apply List.Sublist.cons_cons | apply List.Sublist.cons)))) ?_; (conv => arg 6; simp only [Act.put, List.setIfInBounds_toArray, List.set_cons_succ, List.set_cons_zero]))
  (refine wpT_free (by rw [HO.out]; rfl) rfl (.inl ⟨rfl, fun w hw => run_ld1 Try.underlying23 rfl rfl rfl hw.2.1⟩) (by exact H.st (by (repeat (first | exact List.Sublist.refl _ | apply List.Sublist.cons_cons | apply List.Sublist.cons)))) ?_; (conv => arg 6; simp only [Act.put, List.setIfInBounds_toArray, List.set_cons_succ, List.set_cons_zero]))
  (refine wpT_free (by rw [HO.out]; rfl) rfl (.inl ⟨rfl, fun w _ => by go_simp; rfl⟩) (by exact H.st (by (repeat (first | exact List.Sublist.refl _ | apply List.Sublist.cons_cons | apply List.Sublist.cons)))) ?_; (conv => arg 6; simp only [Act.put, List.setIfInBounds_toArray, List.set_cons_succ, List.set_cons_zero]))
  (refine wpT_free (by rw [HO.out]; rfl) rfl (.inl ⟨rfl, fun w hw => run_ld1 Try.underlying9 rfl rfl rfl (st_cell hw (i := 2) (List.mem_cons_of_mem _ List.mem_cons_self) rfl)⟩) (by exact H.st (by (repeat (first | exact List.Sublist.refl _ | apply List.Sublist.cons_cons | apply List.Sublist.cons)))) ?_; (conv => arg 6; simp only [Act.put, List.setIfInBounds_toArray, List.set_cons_succ, List.set_cons_zero]))
  (refine wpT_free (by rw [HO.out]; rfl) rfl (.inl ⟨rfl, fun w _ => by go_simp; rfl⟩) (by exact H.st (by (repeat (first | exact List.Sublist.refl _ | apply List.Sublist.cons_cons | apply List.Sublist.cons)))) ?_; (conv => arg 6; simp only [Act.put, List.setIfInBounds_toArray, List.set_cons_succ, List.set_cons_zero]))
  refine wpT_op (by rw [HO.out]; rfl) ?_
  go_wp2_with (go_at_call 13; refine (HashT (potR_ok _ _ _ _) H (by omega) HLK.out (by omega) List.mem_cons_self (by omega)).mono ?_; clear H; rintro e wn ⟨rfl, H⟩)
  refine PlanTQ.mk (by exact H.st (by (repeat (first | exact List.Sublist.refl _ | apply List.Sublist.cons_cons | apply List.Sublist.cons)))) ?_
  refine wpT_op (by rw [HO.out]; rfl) ?_
  go_wp2_with (refine wpF_bsK1 80 H (hP _).out rfl rfl rfl rfl (nm_ok _ _) (fun b80 wn Hn => ?_); clear H; rename TF _ _ _ _ _ => H; (conv => arg 5; simp only [Act.put, List.setIfInBounds_toArray, List.set_cons_succ, List.set_cons_zero]))
  refine PlanTQ.mk (by exact H.st (by (repeat (first | exact List.Sublist.refl _ | apply List.Sublist.cons_cons | apply List.Sublist.cons)))) ?_
  refine wpT_op (by rw [HO.out]; rfl) ?_
  go_wp2_with (refine (put72T (ks := [nm ts ⟨2, text, l⟩]) H (one_ok (nm_ok _ _)) (H.reb.blkT (by (repeat (first | exact List.mem_cons_self | refine List.mem_cons_of_mem _ ?_)))) (by simp only [List.length_singleton]; omega)).mono ?_; clear H; rintro e wn ⟨rfl, H⟩)
  refine PlanTQ.mk (by exact H.st (by (repeat (first | exact List.Sublist.refl _ | apply List.Sublist.cons_cons | apply List.Sublist.cons)))) ?_
  refine wpT_done ?_
  rw [HQ.out]
  go_wp2_with fail
  go_end0
  exact CookR.put H rfl
end Go.Proofs.Ytcapfnbmmdbcoaa
namespace Go.Proofs.Ytcapfnbmmdbcoaa
open Go.RowKit
theorem Mem.vecB {w w0 : World} {E : List Nat} {L : List Item} {A : Option Addr} {n cap size : Nat} {t : TypeId} {cs : List Value} (M : Mem w0 E w L) (hin : .vec A n cap t size cs ∈ L) (hn : 1 ≤ n) : ∃ b, A = some ⟨b, 0, none⟩ := by
  have h : w.ownsRow 0 t size (.slice A n cap) n cs := M.holds _ hin
  rcases h.2 with ⟨h', hn⟩ | ⟨g, cap', cur, h', _⟩
  · omega
  · injection h' with h1 _ _
    exact ⟨g, h1⟩
theorem st_key {w : World} {L : List Item} {T : World → Prop} (h : (∃ v E, Mem v E w L) ∧ T w) {b n d i off : Nat} {l : List (List Int)} {k : List Int} (hk : ∀ k ∈ l, KeyOk k) (hin : Item.vec (some ⟨b, 0, none⟩) n d 26 32 (nums .u8 l.flatten) ∈ L) (hi : l[i]? = some k) (ho : off = i * 32) : ∀ (j : Nat) (v : Value), (nums .u8 k)[j]? = some v → w.cell? ⟨b, off + j, none⟩ = some v := by
  obtain ⟨⟨_, _, M⟩, _⟩ := h
  obtain ⟨b', off', e, hc⟩ := keys_at hk (M.vecT hin) hi
  injection e with e
  injection e with e1 e2 _
  subst e1 e2 ho
  intro j v hv
  have := hc j v hv
  rwa [Nat.zero_add] at this
theorem at_getD {l : List (List Int)} {i : Nat} (h : i < l.length) : l[i]? = some (l.getD i []) := by
  rw [List.getD_eq_getElem?_getD, List.getElem?_eq_getElem h]; rfl
theorem PubT {K0 : Nat → Prop} {Q : Res} (hQ : Ok Q) {w0 w : World} {L : List Item} {g : Nat} {ts : List Tm} (H : TF K0 (starR (tabR g ts) Q) w0 w L) {k : List Int} (hk : KeyOk k) (hf : ts.length ≤ 900000) :
    Calls Try.prog 27 #[.pointer (some ⟨g, 0, none⟩), .agg (nums .u8 k).toArray] w fun e w' => IsKey (nm ts ⟨3, ⟨#[]⟩, [k]⟩) e ∧ TF K0 (starR (tabR g (putL ts ⟨3, ⟨#[]⟩, [k]⟩)) Q) w0 w' L :=
  (H.runL hQ (R := fun e L2 => IsKey (nm ts ⟨3, ⟨#[]⟩, [k]⟩) e ∧ L2 = []) fun K1 h1 hlt => (PubK h1 hk hf).mono fun e w' ⟨he, F⟩ => ⟨[], ⟨he, rfl⟩, TF.of F hlt⟩).mono fun e w' ⟨L2, ⟨he, hL⟩, F⟩ => ⟨he, by rw [hL] at F; exact F⟩
set_option maxRecDepth 100000 in
set_option maxHeartbeats 4000000 in
theorem step48_4 {K : Nat → Prop} {w : World} {p g : Nat} {ts : List Tm} {seen made : List (List Int)} {SA : Option Addr} {sc : Nat} {n : Int} {text : ByteArray} {keys raw : List Int} {I : Option Addr} {ic : Nat} (h : StepP K w p g ts seen made SA sc (⟨4, n, text, keys, raw⟩ : Ck) I ic) {l : List (List Int)} (hc : namedL made keys = some l) (hl : leastT 4 ≤ (l.length : Int)) :
    Calls Try.prog 48 #[.pointer (some ⟨p, 0, none⟩), .agg (ckCells (⟨4, n, text, keys, raw⟩ : Ck) I ic).toArray] w (CookR K p g (.slice SA seen.length sc) made w (putN ts ⟨3, ⟨#[]⟩, [l.getD 0 []]⟩)) := by
  have H := TF.start h.res h.lt
  have HR := hid ((tabR_ok g ts).star (potR_ok p g (.slice SA seen.length sc) made))
  have hs := hid h
  have hn := hid (And.intro hc (decide_eq_true hl))
  clear h hc hl
  have hml := hs.out.ml
  have htl := hs.out.tl
  obtain ⟨hl10, hlk⟩ := hs.out.named hn.out.1
  have hl1 : 1 ≤ l.length := by have := of_decide_eq_true hn.out.2; simp [leastT] at this; omega
  obtain ⟨a, ha⟩ : ∃ a, a = l.getD 0 [] := ⟨_, rfl⟩
  have HA := hid (show l[0]? = some a from by rw [ha]; exact at_getD (by omega))
  have HAK := hid (hlk a (List.mem_of_getElem? HA.out))
  rw [← ha]
  have HLK := hid hlk
  clear hlk ha
  have hP := fun ts' => hid ((tabR_ok g ts').star (potR_ok p g (.slice SA seen.length sc) made))
  go_enter Try.func48, Try.ntmps48
  go_wp2_with (first | (refine wpF_bxC (cs := ckCells (⟨4, n, text, keys, raw⟩ : Ck) I ic) 3 H HR.out rfl rfl rfl rfl (fun b3 w1 H1 => ?_); clear H; (conv => arg 5; simp only [Act.put, List.setIfInBounds_toArray, List.set_cons_succ, List.set_cons_zero])) | (refine wpF_mkMap 12 H1 HR.out rfl rfl rfl (fun b12 w2 H2 => ?_); clear H1; (conv => arg 5; simp only [Act.put, List.setIfInBounds_toArray, List.set_cons_succ, List.set_cons_zero])) | (refine wpF_ins 0 4 1 (by kernel_rfl) rfl rfl H2 HR.out rfl rfl rfl rfl rfl Swap.head (fun w3 H3 => ?_); clear H2; (conv => arg 5; simp only [Act.put, List.setIfInBounds_toArray, List.set_cons_succ, List.set_cons_zero])) | (refine wpF_ins 1 5 2 (by kernel_rfl) rfl rfl H3 HR.out rfl rfl rfl rfl rfl Swap.head (fun w4 H4 => ?_); clear H3; (conv => arg 5; simp only [Act.put, List.setIfInBounds_toArray, List.set_cons_succ, List.set_cons_zero])) | (refine wpF_ins 2 6 2 (by kernel_rfl) rfl rfl H4 HR.out rfl rfl rfl rfl rfl Swap.head (fun w5 H5 => ?_); clear H4; (conv => arg 5; simp only [Act.put, List.setIfInBounds_toArray, List.set_cons_succ, List.set_cons_zero])) | (refine wpF_ins 3 7 3 (by kernel_rfl) rfl rfl H5 HR.out rfl rfl rfl rfl rfl Swap.head (fun w6 H6 => ?_); clear H5; have c0 := H6.cellC (List.mem_cons_of_mem _ List.mem_cons_self) 0 _ rfl; try dsimp only at c0; (conv => arg 5; simp only [Act.put, List.setIfInBounds_toArray, List.set_cons_succ, List.set_cons_zero])) | (refine wpList_ldagg 16 rfl Try.underlying55 rfl rfl rfl rfl (H6.cellC (List.mem_cons_of_mem _ List.mem_cons_self)) (sz55 hs.out.ck) ?_; (conv => arg 5; simp only [Act.put, List.setIfInBounds_toArray, List.set_cons_succ, List.set_cons_zero])) | (refine wpF_need 20 H6 rfl rfl rfl rfl rfl List.mem_cons_self ?_; (conv => arg 5; simp only [Act.put, List.setIfInBounds_toArray, List.set_cons_succ, List.set_cons_zero])) | (refine (named71S H6 hs.out.ml hs.out.ck (H6.rowC hs.out.ir hs.out.inn) hn.out).mono ?_; rintro e w7 ⟨B, d, rfl, M7⟩; have H7 := (H6.call HR.out M7).sub (L' := [.vec B l.length d 26 32 (nums .u8 l.flatten), .blk b3 (cellsO 55 (ckCells (⟨4, n, text, keys, raw⟩ : Ck) I ic))]) (by (repeat (first | exact List.Sublist.refl _ | apply List.Sublist.cons_cons | apply List.Sublist.cons))); clear H6 c0 M7; have c0 := H7.cellC (List.mem_cons_of_mem _ List.mem_cons_self) 0 _ rfl; try dsimp only at c0))
  obtain ⟨bv, rfl⟩ := H7.reb.vecB List.mem_cons_self hl1
  refine wp_region_planTF (PotC p g (.slice SA seen.length sc)) (.free 0 (.free 1 (.free 2 (.free 3 (.free 4 (.free 5 (.free 6 (.free 7 (.free 8 (.one 9 (.one 10 (.one 11 (.done))))))))))))) (by kernel_rfl) (by kernel_rfl) (fun _ _ _ _ _ h => h) H7 HR.out ?_
  clear H7 c0
  intro ops Q HO HQ w8 H
  (refine wpT_free (by rw [HO.out]; rfl) rfl (.inl ⟨rfl, fun w _ => by go_simp; rfl⟩) (by exact H.st (by (repeat (first | exact List.Sublist.refl _ | apply List.Sublist.cons_cons | apply List.Sublist.cons)))) ?_; (conv => arg 6; simp only [Act.put, List.setIfInBounds_toArray, List.set_cons_succ, List.set_cons_zero]))
  (refine wpT_free (by rw [HO.out]; rfl) rfl (.inl ⟨rfl, fun w _ => by go_simp; rfl⟩) (by exact H.st (by (repeat (first | exact List.Sublist.refl _ | apply List.Sublist.cons_cons | apply List.Sublist.cons)))) ?_; (conv => arg 6; simp only [Act.put, List.setIfInBounds_toArray, List.set_cons_succ, List.set_cons_zero]))
  (refine wpT_free (by rw [HO.out]; rfl) rfl (.inl ⟨rfl, fun w _ => by go_simp; rfl⟩) (by exact H.st (by (repeat (first | exact List.Sublist.refl _ | apply List.Sublist.cons_cons | apply List.Sublist.cons)))) ?_; (conv => arg 6; simp only [Act.put, List.setIfInBounds_toArray, List.set_cons_succ, List.set_cons_zero]))
  (refine wpT_free (by rw [HO.out]; rfl) rfl (.inl ⟨rfl, fun w _ => by go_simp; rfl⟩) (by exact H.st (by (repeat (first | exact List.Sublist.refl _ | apply List.Sublist.cons_cons | apply List.Sublist.cons)))) ?_; (conv => arg 6; simp only [Act.put, List.setIfInBounds_toArray, List.set_cons_succ, List.set_cons_zero]))
  (refine wpT_free (by rw [HO.out]; rfl) rfl (.inl ⟨rfl, fun w _ => by go_simp; rfl⟩) (by exact H.st (by (repeat (first | exact List.Sublist.refl _ | apply List.Sublist.cons_cons | apply List.Sublist.cons)))) ?_; (conv => arg 6; simp only [Act.put, List.setIfInBounds_toArray, List.set_cons_succ, List.set_cons_zero]))
  (refine wpT_free (by rw [HO.out]; rfl) rfl (.inl ⟨rfl, fun w hw => run_ld1 Try.underlying23 rfl rfl rfl hw.2.1⟩) (by exact H.st (by (repeat (first | exact List.Sublist.refl _ | apply List.Sublist.cons_cons | apply List.Sublist.cons)))) ?_; (conv => arg 6; simp only [Act.put, List.setIfInBounds_toArray, List.set_cons_succ, List.set_cons_zero]))
  (refine wpT_free (by rw [HO.out]; rfl) rfl (.inl ⟨rfl, fun w _ => by go_simp; rfl⟩) (by exact H.st (by (repeat (first | exact List.Sublist.refl _ | apply List.Sublist.cons_cons | apply List.Sublist.cons)))) ?_; (conv => arg 6; simp only [Act.put, List.setIfInBounds_toArray, List.set_cons_succ, List.set_cons_zero]))
  (refine wpT_free (v := .pointer (some ⟨bv, 0, none⟩)) (by rw [HO.out]; rfl) rfl (.inl ⟨rfl, fun w _ => by go_simp; intro hnil; rw [hnil] at hl1; simp at hl1⟩) (by exact H.st (by (repeat (first | exact List.Sublist.refl _ | apply List.Sublist.cons_cons | apply List.Sublist.cons)))) ?_; (conv => arg 6; simp only [Act.put, List.setIfInBounds_toArray, List.set_cons_succ, List.set_cons_zero]))
  (refine wpT_free (by rw [HO.out]; rfl) rfl (.inl ⟨rfl, fun w hw => run_ldK Try.underlying26 rfl rfl rfl (st_key (off := 0) hw HLK.out List.mem_cons_self HA.out rfl) (s26k HAK.out)⟩) (by exact H.st (by (repeat (first | exact List.Sublist.refl _ | apply List.Sublist.cons_cons | apply List.Sublist.cons)))) ?_; (conv => arg 6; simp only [Act.put, List.setIfInBounds_toArray, List.set_cons_succ, List.set_cons_zero]))
  refine wpT_op (by rw [HO.out]; rfl) ?_
  go_wp2_with (go_at_call 27; refine (PubT (potR_ok _ _ _ _) H HAK.out (by omega)).mono ?_; clear H; rintro e wn ⟨rfl, H⟩)
  refine PlanTQ.mk (by exact H.st (by (repeat (first | exact List.Sublist.refl _ | apply List.Sublist.cons_cons | apply List.Sublist.cons)))) ?_
  refine wpT_op (by rw [HO.out]; rfl) ?_
  go_wp2_with (refine wpF_bsK1 94 H (hP _).out rfl rfl rfl rfl (nm_ok _ _) (fun b94 wn Hn => ?_); clear H; rename TF _ _ _ _ _ => H; (conv => arg 5; simp only [Act.put, List.setIfInBounds_toArray, List.set_cons_succ, List.set_cons_zero]))
  refine PlanTQ.mk (by exact H.st (by (repeat (first | exact List.Sublist.refl _ | apply List.Sublist.cons_cons | apply List.Sublist.cons)))) ?_
  refine wpT_op (by rw [HO.out]; rfl) ?_
  go_wp2_with (refine (put72T (ks := [nm ts ⟨3, ⟨#[]⟩, [a]⟩]) H (one_ok (nm_ok _ _)) (H.reb.blkT (by (repeat (first | exact List.mem_cons_self | refine List.mem_cons_of_mem _ ?_)))) (by simp only [List.length_singleton]; omega)).mono ?_; clear H; rintro e wn ⟨rfl, H⟩)
  refine PlanTQ.mk (by exact H.st (by (repeat (first | exact List.Sublist.refl _ | apply List.Sublist.cons_cons | apply List.Sublist.cons)))) ?_
  refine wpT_done ?_
  rw [HQ.out]
  go_wp2_with fail
  go_end0
  exact CookR.put H rfl
end Go.Proofs.Ytcapfnbmmdbcoaa
namespace Go.Proofs.Ytcapfnbmmdbcoaa
open Go.RowKit
theorem row_key {w : World} {b o off i : Nat} {l : List (List Int)} {k : List Int} (hk : ∀ k ∈ l, KeyOk k) (hr : RowT w 26 (some ⟨b, o, none⟩) (nums .u8 l.flatten)) (hi : l[i]? = some k) (ho : off = o + i * 32) : ∀ (j : Nat) (v : Value), (nums .u8 k)[j]? = some v → w.cell? ⟨b, off + j, none⟩ = some v := by
  obtain ⟨b', off', e, hc⟩ := keys_at hk hr hi
  injection e with e
  injection e with e1 e2 _
  subst e1 e2 ho
  exact hc
theorem TF.potC {K0 : Nat → Prop} {Q : Res} {w0 w : World} {L : List Item} {p g : Nat} {S : Value} {made : List (List Int)} (H : TF K0 (starR Q (potR p g S made)) w0 w L) : PotC p g S w := (H.st (List.Sublist.refl _)).2
set_option maxRecDepth 100000 in
set_option maxHeartbeats 4000000 in
theorem step48_1a {K : Nat → Prop} {w : World} {p g : Nat} {ts : List Tm} {seen made : List (List Int)} {SA : Option Addr} {sc : Nat} {n : Int} {text : ByteArray} {keys raw : List Int} {I : Option Addr} {ic : Nat} (h : StepP K w p g ts seen made SA sc (⟨1, n, text, keys, raw⟩ : Ck) I ic) {l : List (List Int)} (hc : namedL made keys = some l) (hl : leastT 1 ≤ (l.length : Int)) (h0 : n < 0) :
    Calls Try.prog 48 #[.pointer (some ⟨p, 0, none⟩), .agg (ckCells (⟨1, n, text, keys, raw⟩ : Ck) I ic).toArray] w (CookR K p g (.slice SA seen.length sc) made w (ts, [])) := by
  have H := TF.start h.res h.lt
  have HR := hid ((tabR_ok g ts).star (potR_ok p g (.slice SA seen.length sc) made))
  have hs := hid h
  have hn := hid (And.intro hc (decide_eq_true hl))
  clear h hc hl
  have hP := fun ts' => hid ((tabR_ok g ts').star (potR_ok p g (.slice SA seen.length sc) made))
  go_enter Try.func48, Try.ntmps48
  go_wp2_with (first | (refine wpF_bxC (cs := ckCells (⟨1, n, text, keys, raw⟩ : Ck) I ic) 3 H HR.out rfl rfl rfl rfl (fun b3 w1 H1 => ?_); clear H; (conv => arg 5; simp only [Act.put, List.setIfInBounds_toArray, List.set_cons_succ, List.set_cons_zero])) | (refine wpF_mkMap 12 H1 HR.out rfl rfl rfl (fun b12 w2 H2 => ?_); clear H1; (conv => arg 5; simp only [Act.put, List.setIfInBounds_toArray, List.set_cons_succ, List.set_cons_zero])) | (refine wpF_ins 0 4 1 (by kernel_rfl) rfl rfl H2 HR.out rfl rfl rfl rfl rfl Swap.head (fun w3 H3 => ?_); clear H2; (conv => arg 5; simp only [Act.put, List.setIfInBounds_toArray, List.set_cons_succ, List.set_cons_zero])) | (refine wpF_ins 1 5 2 (by kernel_rfl) rfl rfl H3 HR.out rfl rfl rfl rfl rfl Swap.head (fun w4 H4 => ?_); clear H3; (conv => arg 5; simp only [Act.put, List.setIfInBounds_toArray, List.set_cons_succ, List.set_cons_zero])) | (refine wpF_ins 2 6 2 (by kernel_rfl) rfl rfl H4 HR.out rfl rfl rfl rfl rfl Swap.head (fun w5 H5 => ?_); clear H4; (conv => arg 5; simp only [Act.put, List.setIfInBounds_toArray, List.set_cons_succ, List.set_cons_zero])) | (refine wpF_ins 3 7 3 (by kernel_rfl) rfl rfl H5 HR.out rfl rfl rfl rfl rfl Swap.head (fun w6 H6 => ?_); clear H5; have c0 := H6.cellC (List.mem_cons_of_mem _ List.mem_cons_self) 0 _ rfl; try dsimp only at c0; (conv => arg 5; simp only [Act.put, List.setIfInBounds_toArray, List.set_cons_succ, List.set_cons_zero])) | (refine wpList_ldagg 16 rfl Try.underlying55 rfl rfl rfl rfl (H6.cellC (List.mem_cons_of_mem _ List.mem_cons_self)) (sz55 hs.out.ck) ?_; (conv => arg 5; simp only [Act.put, List.setIfInBounds_toArray, List.set_cons_succ, List.set_cons_zero])) | (refine wpF_need 20 H6 rfl rfl rfl rfl rfl List.mem_cons_self ?_; (conv => arg 5; simp only [Act.put, List.setIfInBounds_toArray, List.set_cons_succ, List.set_cons_zero])) | (refine (named71S H6 hs.out.ml hs.out.ck (H6.rowC hs.out.ir hs.out.inn) hn.out).mono ?_; rintro e w7 ⟨B, d, rfl, M7⟩; have H7 := (H6.call HR.out M7).sub (L' := [.vec B l.length d 26 32 (nums .u8 l.flatten), .blk b3 (cellsO 55 (ckCells (⟨1, n, text, keys, raw⟩ : Ck) I ic))]) (by (repeat (first | exact List.Sublist.refl _ | apply List.Sublist.cons_cons | apply List.Sublist.cons))); clear H6 c0 M7; have c0 := H7.cellC (List.mem_cons_of_mem _ List.mem_cons_self) 0 _ rfl; try dsimp only at c0))
  refine wp_region_planTF (PotC p g (.slice SA seen.length sc)) (.free 0 (.free 1 (.free 2 (.free 3 (.free 4 (.free 5 (.free 6 (.free 7 (.free 8 (.free 9 (.free 10 (.free 11 (.free 12 (.done)))))))))))))) (by kernel_rfl) (by kernel_rfl) (fun _ _ _ _ _ h => h) H7 HR.out ?_
  clear H7 c0
  intro ops Q HO HQ w8 H
  have hops := HO.out
  subst hops
  (refine wpT_free rfl rfl (.inl ⟨rfl, fun w _ => by go_simp; rfl⟩) (by exact H.st (by (repeat (first | exact List.Sublist.refl _ | apply List.Sublist.cons_cons | apply List.Sublist.cons)))) ?_; (conv => arg 6; simp only [Act.put, List.setIfInBounds_toArray, List.set_cons_succ, List.set_cons_zero]))
  (refine wpT_free rfl rfl (.inl ⟨rfl, fun w hw => run_ld1 Try.underlying3 rfl rfl rfl (st_cell hw (i := 1) (List.mem_cons_of_mem _ List.mem_cons_self) rfl)⟩) (by exact H.st (by (repeat (first | exact List.Sublist.refl _ | apply List.Sublist.cons_cons | apply List.Sublist.cons)))) ?_; (conv => arg 6; simp only [Act.put, List.setIfInBounds_toArray, List.set_cons_succ, List.set_cons_zero]))
  (refine wpT_free (v := .bool false) rfl rfl (.inl ⟨rfl, fun w _ => by go_simp; (try omega)⟩) (by exact H.st (by (repeat (first | exact List.Sublist.refl _ | apply List.Sublist.cons_cons | apply List.Sublist.cons)))) ?_; (conv => arg 6; simp only [Act.put, List.setIfInBounds_toArray, List.set_cons_succ, List.set_cons_zero]))
  (refine wpT_free rfl rfl (.inl ⟨rfl, fun w _ => by go_simp; rfl⟩) (by exact H.st (by (repeat (first | exact List.Sublist.refl _ | apply List.Sublist.cons_cons | apply List.Sublist.cons)))) ?_; (conv => arg 6; simp only [Act.put, List.setIfInBounds_toArray, List.set_cons_succ, List.set_cons_zero]))
  (refine wpT_free rfl rfl (.inr ⟨rfl, rfl⟩) (by exact H.st (by (repeat (first | exact List.Sublist.refl _ | apply List.Sublist.cons_cons | apply List.Sublist.cons)))) ?_; (conv => arg 6; simp only [Act.put, List.setIfInBounds_toArray, List.set_cons_succ, List.set_cons_zero]))
  (refine wpT_free rfl rfl (.inr ⟨rfl, rfl⟩) (by exact H.st (by (repeat (first | exact List.Sublist.refl _ | apply List.Sublist.cons_cons | apply List.Sublist.cons)))) ?_; (conv => arg 6; simp only [Act.put, List.setIfInBounds_toArray, List.set_cons_succ, List.set_cons_zero]))
  (refine wpT_free rfl rfl (.inr ⟨rfl, rfl⟩) (by exact H.st (by (repeat (first | exact List.Sublist.refl _ | apply List.Sublist.cons_cons | apply List.Sublist.cons)))) ?_; (conv => arg 6; simp only [Act.put, List.setIfInBounds_toArray, List.set_cons_succ, List.set_cons_zero]))
  (refine wpT_free rfl rfl (.inr ⟨rfl, rfl⟩) (by exact H.st (by (repeat (first | exact List.Sublist.refl _ | apply List.Sublist.cons_cons | apply List.Sublist.cons)))) ?_; (conv => arg 6; simp only [Act.put, List.setIfInBounds_toArray, List.set_cons_succ, List.set_cons_zero]))
  (refine wpT_free rfl rfl (.inr ⟨rfl, rfl⟩) (by exact H.st (by (repeat (first | exact List.Sublist.refl _ | apply List.Sublist.cons_cons | apply List.Sublist.cons)))) ?_; (conv => arg 6; simp only [Act.put, List.setIfInBounds_toArray, List.set_cons_succ, List.set_cons_zero]))
  (refine wpT_free rfl rfl (.inr ⟨rfl, rfl⟩) (by exact H.st (by (repeat (first | exact List.Sublist.refl _ | apply List.Sublist.cons_cons | apply List.Sublist.cons)))) ?_; (conv => arg 6; simp only [Act.put, List.setIfInBounds_toArray, List.set_cons_succ, List.set_cons_zero]))
  (refine wpT_free rfl rfl (.inr ⟨rfl, rfl⟩) (by exact H.st (by (repeat (first | exact List.Sublist.refl _ | apply List.Sublist.cons_cons | apply List.Sublist.cons)))) ?_; (conv => arg 6; simp only [Act.put, List.setIfInBounds_toArray, List.set_cons_succ, List.set_cons_zero]))
  (refine wpT_free rfl rfl (.inr ⟨rfl, rfl⟩) (by exact H.st (by (repeat (first | exact List.Sublist.refl _ | apply List.Sublist.cons_cons | apply List.Sublist.cons)))) ?_; (conv => arg 6; simp only [Act.put, List.setIfInBounds_toArray, List.set_cons_succ, List.set_cons_zero]))
  (refine wpT_free rfl rfl (.inl ⟨rfl, fun w _ => by go_simp; rfl⟩) (by exact H.st (by (repeat (first | exact List.Sublist.refl _ | apply List.Sublist.cons_cons | apply List.Sublist.cons)))) ?_; (conv => arg 6; simp only [Act.put, List.setIfInBounds_toArray, List.set_cons_succ, List.set_cons_zero]))
  refine wpT_done ?_
  rw [HQ.out]
  go_wp2_with fail
  go_end0
  exact CookR.none H
set_option maxRecDepth 100000 in
set_option maxHeartbeats 4000000 in
theorem step48_1b {K : Nat → Prop} {w : World} {p g : Nat} {ts : List Tm} {seen made : List (List Int)} {SA : Option Addr} {sc : Nat} {n : Int} {text : ByteArray} {keys raw : List Int} {I : Option Addr} {ic : Nat} (h : StepP K w p g ts seen made SA sc (⟨1, n, text, keys, raw⟩ : Ck) I ic) {l : List (List Int)} (hc : namedL made keys = some l) (hl : leastT 1 ≤ (l.length : Int)) (h0 : 0 ≤ n) (h1 : (seen.length : Int) ≤ n) :
    Calls Try.prog 48 #[.pointer (some ⟨p, 0, none⟩), .agg (ckCells (⟨1, n, text, keys, raw⟩ : Ck) I ic).toArray] w (CookR K p g (.slice SA seen.length sc) made w (ts, [])) := by
  have H := TF.start h.res h.lt
  have HR := hid ((tabR_ok g ts).star (potR_ok p g (.slice SA seen.length sc) made))
  have hs := hid h
  have hn := hid (And.intro hc (decide_eq_true hl))
  clear h hc hl
  have hP := fun ts' => hid ((tabR_ok g ts').star (potR_ok p g (.slice SA seen.length sc) made))
  go_enter Try.func48, Try.ntmps48
  go_wp2_with (first | (refine wpF_bxC (cs := ckCells (⟨1, n, text, keys, raw⟩ : Ck) I ic) 3 H HR.out rfl rfl rfl rfl (fun b3 w1 H1 => ?_); clear H; (conv => arg 5; simp only [Act.put, List.setIfInBounds_toArray, List.set_cons_succ, List.set_cons_zero])) | (refine wpF_mkMap 12 H1 HR.out rfl rfl rfl (fun b12 w2 H2 => ?_); clear H1; (conv => arg 5; simp only [Act.put, List.setIfInBounds_toArray, List.set_cons_succ, List.set_cons_zero])) | (refine wpF_ins 0 4 1 (by kernel_rfl) rfl rfl H2 HR.out rfl rfl rfl rfl rfl Swap.head (fun w3 H3 => ?_); clear H2; (conv => arg 5; simp only [Act.put, List.setIfInBounds_toArray, List.set_cons_succ, List.set_cons_zero])) | (refine wpF_ins 1 5 2 (by kernel_rfl) rfl rfl H3 HR.out rfl rfl rfl rfl rfl Swap.head (fun w4 H4 => ?_); clear H3; (conv => arg 5; simp only [Act.put, List.setIfInBounds_toArray, List.set_cons_succ, List.set_cons_zero])) | (refine wpF_ins 2 6 2 (by kernel_rfl) rfl rfl H4 HR.out rfl rfl rfl rfl rfl Swap.head (fun w5 H5 => ?_); clear H4; (conv => arg 5; simp only [Act.put, List.setIfInBounds_toArray, List.set_cons_succ, List.set_cons_zero])) | (refine wpF_ins 3 7 3 (by kernel_rfl) rfl rfl H5 HR.out rfl rfl rfl rfl rfl Swap.head (fun w6 H6 => ?_); clear H5; have c0 := H6.cellC (List.mem_cons_of_mem _ List.mem_cons_self) 0 _ rfl; try dsimp only at c0; (conv => arg 5; simp only [Act.put, List.setIfInBounds_toArray, List.set_cons_succ, List.set_cons_zero])) | (refine wpList_ldagg 16 rfl Try.underlying55 rfl rfl rfl rfl (H6.cellC (List.mem_cons_of_mem _ List.mem_cons_self)) (sz55 hs.out.ck) ?_; (conv => arg 5; simp only [Act.put, List.setIfInBounds_toArray, List.set_cons_succ, List.set_cons_zero])) | (refine wpF_need 20 H6 rfl rfl rfl rfl rfl List.mem_cons_self ?_; (conv => arg 5; simp only [Act.put, List.setIfInBounds_toArray, List.set_cons_succ, List.set_cons_zero])) | (refine (named71S H6 hs.out.ml hs.out.ck (H6.rowC hs.out.ir hs.out.inn) hn.out).mono ?_; rintro e w7 ⟨B, d, rfl, M7⟩; have H7 := (H6.call HR.out M7).sub (L' := [.vec B l.length d 26 32 (nums .u8 l.flatten), .blk b3 (cellsO 55 (ckCells (⟨1, n, text, keys, raw⟩ : Ck) I ic))]) (by (repeat (first | exact List.Sublist.refl _ | apply List.Sublist.cons_cons | apply List.Sublist.cons))); clear H6 c0 M7; have c0 := H7.cellC (List.mem_cons_of_mem _ List.mem_cons_self) 0 _ rfl; try dsimp only at c0))
  refine wp_region_planTF (PotC p g (.slice SA seen.length sc)) (.free 0 (.free 1 (.free 2 (.free 3 (.free 4 (.free 5 (.free 6 (.free 7 (.free 8 (.free 9 (.free 10 (.free 11 (.free 12 (.done)))))))))))))) (by kernel_rfl) (by kernel_rfl) (fun _ _ _ _ _ h => h) H7 HR.out ?_
  clear H7 c0
  intro ops Q HO HQ w8 H
  have hops := HO.out
  subst hops
  (refine wpT_free rfl rfl (.inl ⟨rfl, fun w _ => by go_simp; rfl⟩) (by exact H.st (by (repeat (first | exact List.Sublist.refl _ | apply List.Sublist.cons_cons | apply List.Sublist.cons)))) ?_; (conv => arg 6; simp only [Act.put, List.setIfInBounds_toArray, List.set_cons_succ, List.set_cons_zero]))
  (refine wpT_free rfl rfl (.inl ⟨rfl, fun w hw => run_ld1 Try.underlying3 rfl rfl rfl (st_cell hw (i := 1) (List.mem_cons_of_mem _ List.mem_cons_self) rfl)⟩) (by exact H.st (by (repeat (first | exact List.Sublist.refl _ | apply List.Sublist.cons_cons | apply List.Sublist.cons)))) ?_; (conv => arg 6; simp only [Act.put, List.setIfInBounds_toArray, List.set_cons_succ, List.set_cons_zero]))
  (refine wpT_free (v := .bool true) rfl rfl (.inl ⟨rfl, fun w _ => by go_simp; (try omega)⟩) (by exact H.st (by (repeat (first | exact List.Sublist.refl _ | apply List.Sublist.cons_cons | apply List.Sublist.cons)))) ?_; (conv => arg 6; simp only [Act.put, List.setIfInBounds_toArray, List.set_cons_succ, List.set_cons_zero]))
  (refine wpT_free rfl rfl (.inl ⟨rfl, fun w _ => by go_simp; rfl⟩) (by exact H.st (by (repeat (first | exact List.Sublist.refl _ | apply List.Sublist.cons_cons | apply List.Sublist.cons)))) ?_; (conv => arg 6; simp only [Act.put, List.setIfInBounds_toArray, List.set_cons_succ, List.set_cons_zero]))
  (refine wpT_free rfl rfl (.inl ⟨rfl, fun w _ => by go_simp; rfl⟩) (by exact H.st (by (repeat (first | exact List.Sublist.refl _ | apply List.Sublist.cons_cons | apply List.Sublist.cons)))) ?_; (conv => arg 6; simp only [Act.put, List.setIfInBounds_toArray, List.set_cons_succ, List.set_cons_zero]))
  (refine wpT_free rfl rfl (.inl ⟨rfl, fun w hw => run_ld1 Try.underlying3 rfl rfl rfl (st_cell hw (i := 1) (List.mem_cons_of_mem _ List.mem_cons_self) rfl)⟩) (by exact H.st (by (repeat (first | exact List.Sublist.refl _ | apply List.Sublist.cons_cons | apply List.Sublist.cons)))) ?_; (conv => arg 6; simp only [Act.put, List.setIfInBounds_toArray, List.set_cons_succ, List.set_cons_zero]))
  (refine wpT_free rfl rfl (.inl ⟨rfl, fun w _ => by go_simp; rfl⟩) (by exact H.st (by (repeat (first | exact List.Sublist.refl _ | apply List.Sublist.cons_cons | apply List.Sublist.cons)))) ?_; (conv => arg 6; simp only [Act.put, List.setIfInBounds_toArray, List.set_cons_succ, List.set_cons_zero]))
  (refine wpT_free rfl rfl (.inl ⟨rfl, fun w _ => by go_simp; rfl⟩) (by exact H.st (by (repeat (first | exact List.Sublist.refl _ | apply List.Sublist.cons_cons | apply List.Sublist.cons)))) ?_; (conv => arg 6; simp only [Act.put, List.setIfInBounds_toArray, List.set_cons_succ, List.set_cons_zero]))
  (refine wpT_free rfl rfl (.inl ⟨rfl, fun w _ => by go_simp; rfl⟩) (by exact H.st (by (repeat (first | exact List.Sublist.refl _ | apply List.Sublist.cons_cons | apply List.Sublist.cons)))) ?_; (conv => arg 6; simp only [Act.put, List.setIfInBounds_toArray, List.set_cons_succ, List.set_cons_zero]))
  (refine wpT_free rfl rfl (.inl ⟨rfl, fun w hw => run_ld1 Try.underlying34 rfl rfl rfl hw.2.2⟩) (by exact H.st (by (repeat (first | exact List.Sublist.refl _ | apply List.Sublist.cons_cons | apply List.Sublist.cons)))) ?_; (conv => arg 6; simp only [Act.put, List.setIfInBounds_toArray, List.set_cons_succ, List.set_cons_zero]))
  (refine wpT_free rfl rfl (.inl ⟨rfl, fun w _ => by go_simp; rfl⟩) (by exact H.st (by (repeat (first | exact List.Sublist.refl _ | apply List.Sublist.cons_cons | apply List.Sublist.cons)))) ?_; (conv => arg 6; simp only [Act.put, List.setIfInBounds_toArray, List.set_cons_succ, List.set_cons_zero]))
  (refine wpT_free (v := .bool false) rfl rfl (.inl ⟨rfl, fun w _ => by go_simp; (try omega)⟩) (by exact H.st (by (repeat (first | exact List.Sublist.refl _ | apply List.Sublist.cons_cons | apply List.Sublist.cons)))) ?_; (conv => arg 6; simp only [Act.put, List.setIfInBounds_toArray, List.set_cons_succ, List.set_cons_zero]))
  (refine wpT_free rfl rfl (.inl ⟨rfl, fun w _ => by go_simp; rfl⟩) (by exact H.st (by (repeat (first | exact List.Sublist.refl _ | apply List.Sublist.cons_cons | apply List.Sublist.cons)))) ?_; (conv => arg 6; simp only [Act.put, List.setIfInBounds_toArray, List.set_cons_succ, List.set_cons_zero]))
  refine wpT_done ?_
  rw [HQ.out]
  go_wp2_with fail
  go_end0
  exact CookR.none H
set_option maxRecDepth 100000 in
set_option maxHeartbeats 4000000 in
theorem step48_1c {K : Nat → Prop} {w : World} {p g : Nat} {ts : List Tm} {seen made : List (List Int)} {SA : Option Addr} {sc : Nat} {n : Int} {text : ByteArray} {keys raw : List Int} {I : Option Addr} {ic : Nat} (h : StepP K w p g ts seen made SA sc (⟨1, n, text, keys, raw⟩ : Ck) I ic) {l : List (List Int)} (hc : namedL made keys = some l) (hl : leastT 1 ≤ (l.length : Int)) (hin : inR seen n = true) :
    Calls Try.prog 48 #[.pointer (some ⟨p, 0, none⟩), .agg (ckCells (⟨1, n, text, keys, raw⟩ : Ck) I ic).toArray] w (CookR K p g (.slice SA seen.length sc) made w (ts, [getK seen n])) := by
  have H := TF.start h.res h.lt
  have HR := hid ((tabR_ok g ts).star (potR_ok p g (.slice SA seen.length sc) made))
  have hs := hid h
  have hn := hid (And.intro hc (decide_eq_true hl))
  clear h hc hl
  obtain ⟨hg, hgk⟩ := getK_ok hs.out.sk hin
  obtain ⟨bs, os, hSA, hcs⟩ := keys_at hs.out.sk hs.out.sr hg
  subst hSA
  have hj : n.toNat < seen.length := (List.getElem?_eq_some_iff.1 hg).1
  have HGK := hid hgk
  have h0 : 0 ≤ n := by unfold inR at hin; simp only [Bool.and_eq_true, decide_eq_true_eq] at hin; exact hin.1
  obtain ⟨i, rfl⟩ : ∃ i : Nat, n = (i : Int) := ⟨n.toNat, by omega⟩
  rw [Int.toNat_natCast] at hj hcs
  have h1 : (i : Int) < (seen.length : Int) := by omega
  have hml := hs.out.ml
  obtain ⟨key, hkey⟩ : ∃ key, key = getK seen (i : Int) := ⟨_, rfl⟩
  rw [← hkey] at HGK hcs ⊢
  have HSK := hid hs.out.sk
  rw [Int.toNat_natCast, ← hkey] at hg
  have HG := hid hg
  clear hcs hg hgk hkey hin
  have hP := fun ts' => hid ((tabR_ok g ts').star (potR_ok p g (.slice (some ⟨bs, os, none⟩) seen.length sc) made))
  go_enter Try.func48, Try.ntmps48
  go_wp2_with (first | (refine wpF_bxC (cs := ckCells (⟨1, (i : Int), text, keys, raw⟩ : Ck) I ic) 3 H HR.out rfl rfl rfl rfl (fun b3 w1 H1 => ?_); clear H; (conv => arg 5; simp only [Act.put, List.setIfInBounds_toArray, List.set_cons_succ, List.set_cons_zero])) | (refine wpF_mkMap 12 H1 HR.out rfl rfl rfl (fun b12 w2 H2 => ?_); clear H1; (conv => arg 5; simp only [Act.put, List.setIfInBounds_toArray, List.set_cons_succ, List.set_cons_zero])) | (refine wpF_ins 0 4 1 (by kernel_rfl) rfl rfl H2 HR.out rfl rfl rfl rfl rfl Swap.head (fun w3 H3 => ?_); clear H2; (conv => arg 5; simp only [Act.put, List.setIfInBounds_toArray, List.set_cons_succ, List.set_cons_zero])) | (refine wpF_ins 1 5 2 (by kernel_rfl) rfl rfl H3 HR.out rfl rfl rfl rfl rfl Swap.head (fun w4 H4 => ?_); clear H3; (conv => arg 5; simp only [Act.put, List.setIfInBounds_toArray, List.set_cons_succ, List.set_cons_zero])) | (refine wpF_ins 2 6 2 (by kernel_rfl) rfl rfl H4 HR.out rfl rfl rfl rfl rfl Swap.head (fun w5 H5 => ?_); clear H4; (conv => arg 5; simp only [Act.put, List.setIfInBounds_toArray, List.set_cons_succ, List.set_cons_zero])) | (refine wpF_ins 3 7 3 (by kernel_rfl) rfl rfl H5 HR.out rfl rfl rfl rfl rfl Swap.head (fun w6 H6 => ?_); clear H5; have c0 := H6.cellC (List.mem_cons_of_mem _ List.mem_cons_self) 0 _ rfl; try dsimp only at c0; (conv => arg 5; simp only [Act.put, List.setIfInBounds_toArray, List.set_cons_succ, List.set_cons_zero])) | (refine wpList_ldagg 16 rfl Try.underlying55 rfl rfl rfl rfl (H6.cellC (List.mem_cons_of_mem _ List.mem_cons_self)) (sz55 hs.out.ck) ?_; (conv => arg 5; simp only [Act.put, List.setIfInBounds_toArray, List.set_cons_succ, List.set_cons_zero])) | (refine wpF_need 20 H6 rfl rfl rfl rfl rfl List.mem_cons_self ?_; (conv => arg 5; simp only [Act.put, List.setIfInBounds_toArray, List.set_cons_succ, List.set_cons_zero])) | (refine (named71S H6 hs.out.ml hs.out.ck (H6.rowC hs.out.ir hs.out.inn) hn.out).mono ?_; rintro e w7 ⟨B, d, rfl, M7⟩; have H7 := (H6.call HR.out M7).sub (L' := [.vec B l.length d 26 32 (nums .u8 l.flatten), .blk b3 (cellsO 55 (ckCells (⟨1, (i : Int), text, keys, raw⟩ : Ck) I ic))]) (by (repeat (first | exact List.Sublist.refl _ | apply List.Sublist.cons_cons | apply List.Sublist.cons))); clear H6 c0 M7; have c0 := H7.cellC (List.mem_cons_of_mem _ List.mem_cons_self) 0 _ rfl; try dsimp only at c0))
  refine wp_region_planTF (PotC p g (.slice (some ⟨bs, os, none⟩) seen.length sc)) (.free 0 (.free 1 (.free 2 (.free 3 (.free 4 (.free 5 (.free 6 (.free 7 (.free 8 (.free 9 (.free 10 (.free 11 (.free 12 (.done)))))))))))))) (by kernel_rfl) (by kernel_rfl) (fun _ _ _ _ _ h => h) H7 HR.out ?_
  clear H7 c0
  intro ops Q HO HQ w8 H
  have hops := HO.out
  subst hops
  (refine wpT_free rfl rfl (.inl ⟨rfl, fun w _ => by go_simp; rfl⟩) (by exact H.st (by (repeat (first | exact List.Sublist.refl _ | apply List.Sublist.cons_cons | apply List.Sublist.cons)))) ?_; (conv => arg 6; simp only [Act.put, List.setIfInBounds_toArray, List.set_cons_succ, List.set_cons_zero]))
  (refine wpT_free rfl rfl (.inl ⟨rfl, fun w hw => run_ld1 Try.underlying3 rfl rfl rfl (st_cell hw (i := 1) (List.mem_cons_of_mem _ List.mem_cons_self) rfl)⟩) (by exact H.st (by (repeat (first | exact List.Sublist.refl _ | apply List.Sublist.cons_cons | apply List.Sublist.cons)))) ?_; (conv => arg 6; simp only [Act.put, List.setIfInBounds_toArray, List.set_cons_succ, List.set_cons_zero]))
  (refine wpT_free (v := .bool true) rfl rfl (.inl ⟨rfl, fun w _ => by go_simp; (try omega)⟩) (by exact H.st (by (repeat (first | exact List.Sublist.refl _ | apply List.Sublist.cons_cons | apply List.Sublist.cons)))) ?_; (conv => arg 6; simp only [Act.put, List.setIfInBounds_toArray, List.set_cons_succ, List.set_cons_zero]))
  (refine wpT_free rfl rfl (.inl ⟨rfl, fun w _ => by go_simp; rfl⟩) (by exact H.st (by (repeat (first | exact List.Sublist.refl _ | apply List.Sublist.cons_cons | apply List.Sublist.cons)))) ?_; (conv => arg 6; simp only [Act.put, List.setIfInBounds_toArray, List.set_cons_succ, List.set_cons_zero]))
  (refine wpT_free rfl rfl (.inl ⟨rfl, fun w _ => by go_simp; rfl⟩) (by exact H.st (by (repeat (first | exact List.Sublist.refl _ | apply List.Sublist.cons_cons | apply List.Sublist.cons)))) ?_; (conv => arg 6; simp only [Act.put, List.setIfInBounds_toArray, List.set_cons_succ, List.set_cons_zero]))
  (refine wpT_free rfl rfl (.inl ⟨rfl, fun w hw => run_ld1 Try.underlying3 rfl rfl rfl (st_cell hw (i := 1) (List.mem_cons_of_mem _ List.mem_cons_self) rfl)⟩) (by exact H.st (by (repeat (first | exact List.Sublist.refl _ | apply List.Sublist.cons_cons | apply List.Sublist.cons)))) ?_; (conv => arg 6; simp only [Act.put, List.setIfInBounds_toArray, List.set_cons_succ, List.set_cons_zero]))
  (refine wpT_free rfl rfl (.inl ⟨rfl, fun w _ => by go_simp; rfl⟩) (by exact H.st (by (repeat (first | exact List.Sublist.refl _ | apply List.Sublist.cons_cons | apply List.Sublist.cons)))) ?_; (conv => arg 6; simp only [Act.put, List.setIfInBounds_toArray, List.set_cons_succ, List.set_cons_zero]))
  (refine wpT_free rfl rfl (.inl ⟨rfl, fun w _ => by go_simp; rfl⟩) (by exact H.st (by (repeat (first | exact List.Sublist.refl _ | apply List.Sublist.cons_cons | apply List.Sublist.cons)))) ?_; (conv => arg 6; simp only [Act.put, List.setIfInBounds_toArray, List.set_cons_succ, List.set_cons_zero]))
  (refine wpT_free rfl rfl (.inl ⟨rfl, fun w _ => by go_simp; rfl⟩) (by exact H.st (by (repeat (first | exact List.Sublist.refl _ | apply List.Sublist.cons_cons | apply List.Sublist.cons)))) ?_; (conv => arg 6; simp only [Act.put, List.setIfInBounds_toArray, List.set_cons_succ, List.set_cons_zero]))
  (refine wpT_free rfl rfl (.inl ⟨rfl, fun w hw => run_ld1 Try.underlying34 rfl rfl rfl hw.2.2⟩) (by exact H.st (by (repeat (first | exact List.Sublist.refl _ | apply List.Sublist.cons_cons | apply List.Sublist.cons)))) ?_; (conv => arg 6; simp only [Act.put, List.setIfInBounds_toArray, List.set_cons_succ, List.set_cons_zero]))
  (refine wpT_free rfl rfl (.inl ⟨rfl, fun w _ => by go_simp; rfl⟩) (by exact H.st (by (repeat (first | exact List.Sublist.refl _ | apply List.Sublist.cons_cons | apply List.Sublist.cons)))) ?_; (conv => arg 6; simp only [Act.put, List.setIfInBounds_toArray, List.set_cons_succ, List.set_cons_zero]))
  (refine wpT_free (v := .bool true) rfl rfl (.inl ⟨rfl, fun w _ => by go_simp; (try omega)⟩) (by exact H.st (by (repeat (first | exact List.Sublist.refl _ | apply List.Sublist.cons_cons | apply List.Sublist.cons)))) ?_; (conv => arg 6; simp only [Act.put, List.setIfInBounds_toArray, List.set_cons_succ, List.set_cons_zero]))
  (refine wpT_free rfl rfl (.inl ⟨rfl, fun w _ => by go_simp; rfl⟩) (by exact H.st (by (repeat (first | exact List.Sublist.refl _ | apply List.Sublist.cons_cons | apply List.Sublist.cons)))) ?_; (conv => arg 6; simp only [Act.put, List.setIfInBounds_toArray, List.set_cons_succ, List.set_cons_zero]))
  refine wpT_done ?_
  rw [HQ.out]
  go_wp2_with fail
  refine wp_region_planTF (fun w' => PotC p g (.slice (some ⟨bs, os, none⟩) seen.length sc) w' ∧ RowT w' 26 (some ⟨bs, os, none⟩) (nums .u8 seen.flatten)) (.free 0 (.free 1 (.free 2 (.free 3 (.free 4 (.free 5 (.free 6 (.free 7 (.free 8 (.one 9 (.one 10 (.done)))))))))))) (by kernel_rfl) (by kernel_rfl) (fun _ _ _ _ _ h => h) H HR.out ?_
  clear H HQ
  intro ops Q HO HQ w8 H
  (refine wpT_free (by rw [HO.out]; rfl) rfl (.inl ⟨rfl, fun w _ => by go_simp; rfl⟩) (by exact ⟨(H.st (by (repeat (first | exact List.Sublist.refl _ | apply List.Sublist.cons_cons | apply List.Sublist.cons)))).1, H.potC, H.row hs.out.sr hs.out.sn⟩) ?_; (conv => arg 6; simp only [Act.put, List.setIfInBounds_toArray, List.set_cons_succ, List.set_cons_zero]))
  (refine wpT_free (by rw [HO.out]; rfl) rfl (.inl ⟨rfl, fun w _ => by go_simp; rfl⟩) (by exact ⟨(H.st (by (repeat (first | exact List.Sublist.refl _ | apply List.Sublist.cons_cons | apply List.Sublist.cons)))).1, H.potC, H.row hs.out.sr hs.out.sn⟩) ?_; (conv => arg 6; simp only [Act.put, List.setIfInBounds_toArray, List.set_cons_succ, List.set_cons_zero]))
  (refine wpT_free (by rw [HO.out]; rfl) rfl (.inl ⟨rfl, fun w _ => by go_simp; rfl⟩) (by exact ⟨(H.st (by (repeat (first | exact List.Sublist.refl _ | apply List.Sublist.cons_cons | apply List.Sublist.cons)))).1, H.potC, H.row hs.out.sr hs.out.sn⟩) ?_; (conv => arg 6; simp only [Act.put, List.setIfInBounds_toArray, List.set_cons_succ, List.set_cons_zero]))
  (refine wpT_free (by rw [HO.out]; rfl) rfl (.inl ⟨rfl, fun w _ => by go_simp; rfl⟩) (by exact ⟨(H.st (by (repeat (first | exact List.Sublist.refl _ | apply List.Sublist.cons_cons | apply List.Sublist.cons)))).1, H.potC, H.row hs.out.sr hs.out.sn⟩) ?_; (conv => arg 6; simp only [Act.put, List.setIfInBounds_toArray, List.set_cons_succ, List.set_cons_zero]))
  (refine wpT_free (by rw [HO.out]; rfl) rfl (.inl ⟨rfl, fun w hw => run_ld1 Try.underlying34 rfl rfl rfl hw.2.1.2⟩) (by exact ⟨(H.st (by (repeat (first | exact List.Sublist.refl _ | apply List.Sublist.cons_cons | apply List.Sublist.cons)))).1, H.potC, H.row hs.out.sr hs.out.sn⟩) ?_; (conv => arg 6; simp only [Act.put, List.setIfInBounds_toArray, List.set_cons_succ, List.set_cons_zero]))
  (refine wpT_free (by rw [HO.out]; rfl) rfl (.inl ⟨rfl, fun w _ => by go_simp; rfl⟩) (by exact ⟨(H.st (by (repeat (first | exact List.Sublist.refl _ | apply List.Sublist.cons_cons | apply List.Sublist.cons)))).1, H.potC, H.row hs.out.sr hs.out.sn⟩) ?_; (conv => arg 6; simp only [Act.put, List.setIfInBounds_toArray, List.set_cons_succ, List.set_cons_zero]))
  (refine wpT_free (by rw [HO.out]; rfl) rfl (.inl ⟨rfl, fun w hw => run_ld1 Try.underlying3 rfl rfl rfl (st_cell (T := fun _ => True) ⟨hw.1, trivial⟩ (i := 1) (List.mem_cons_of_mem _ List.mem_cons_self) rfl)⟩) (by exact ⟨(H.st (by (repeat (first | exact List.Sublist.refl _ | apply List.Sublist.cons_cons | apply List.Sublist.cons)))).1, H.potC, H.row hs.out.sr hs.out.sn⟩) ?_; (conv => arg 6; simp only [Act.put, List.setIfInBounds_toArray, List.set_cons_succ, List.set_cons_zero]))
  (refine wpT_free (v := .pointer (some ⟨bs, os + i * 32, none⟩)) (by rw [HO.out]; rfl) rfl (.inl ⟨rfl, fun w _ => by go_simp⟩) (by exact ⟨(H.st (by (repeat (first | exact List.Sublist.refl _ | apply List.Sublist.cons_cons | apply List.Sublist.cons)))).1, H.potC, H.row hs.out.sr hs.out.sn⟩) ?_; (conv => arg 6; simp only [Act.put, List.setIfInBounds_toArray, List.set_cons_succ, List.set_cons_zero]))
  (refine wpT_free (by rw [HO.out]; rfl) rfl (.inl ⟨rfl, fun w hw => run_ldK Try.underlying26 rfl rfl rfl (row_key HSK.out hw.2.2 HG.out rfl) (s26k HGK.out)⟩) (by exact ⟨(H.st (by (repeat (first | exact List.Sublist.refl _ | apply List.Sublist.cons_cons | apply List.Sublist.cons)))).1, H.potC, H.row hs.out.sr hs.out.sn⟩) ?_; (conv => arg 6; simp only [Act.put, List.setIfInBounds_toArray, List.set_cons_succ, List.set_cons_zero]))
  refine wpT_op (by rw [HO.out]; rfl) ?_
  go_wp2_with (refine wpF_bsK1 52 H HR.out rfl rfl rfl rfl HGK.out (fun b52 wn Hn => ?_); clear H; rename TF _ _ _ _ _ => H; (conv => arg 5; simp only [Act.put, List.setIfInBounds_toArray, List.set_cons_succ, List.set_cons_zero]))
  refine PlanTQ.mk (by exact ⟨(H.st (by (repeat (first | exact List.Sublist.refl _ | apply List.Sublist.cons_cons | apply List.Sublist.cons)))).1, H.potC, H.row hs.out.sr hs.out.sn⟩) ?_
  refine wpT_op (by rw [HO.out]; rfl) ?_
  go_wp2_with (refine (put72T (ks := [key]) H (one_ok HGK.out) (H.reb.blkT (by (repeat (first | exact List.mem_cons_self | refine List.mem_cons_of_mem _ ?_)))) (by simp only [List.length_singleton]; omega)).mono ?_; clear H; rintro e wn ⟨rfl, H⟩)
  refine PlanTQ.mk (by exact ⟨(H.st (by (repeat (first | exact List.Sublist.refl _ | apply List.Sublist.cons_cons | apply List.Sublist.cons)))).1, H.potC, H.row hs.out.sr hs.out.sn⟩) ?_
  refine wpT_done ?_
  rw [HQ.out]
  go_wp2_with fail
  go_end0
  exact CookR.put H rfl
end Go.Proofs.Ytcapfnbmmdbcoaa
namespace Go.Proofs.Ytcapfnbmmdbcoaa
open Go.RowKit
theorem run_cvOff {P : Program} {o : Oper} {a : Act} {w : World} {src dst e : TypeId} (hs : P.underlying src = some (.slice e)) (he : P.underlying e = some (.int .u8)) (hd : P.underlying dst = some .string) {x : Operand} (ho : o.op = .convert src dst x)
    {g off cap : Nat} (hx : a.eval x = .slice (some ⟨g, off, none⟩) 32 cap) {xs : List Int} (hc : ∀ (j : Nat) (v : Value), (nums .u8 xs)[j]? = some v → w.cell? ⟨g, off + j, none⟩ = some v) (hl : xs.length = 32) :
    (execOp a.eval o).run P w = .ok (.value (.string (strOfNums xs))) w := by
  have hr := run_convert_bytes_arg (P := P) w src e hs he g off 32 cap xs hl (fun i hi => hc i _ (nums_get .u8 xs i (by omega))) dst hd
  unfold execOp
  simp only [ho, hx, Sem.run_bind, Sem.run_pure, Result.andThen_ok, hr]
theorem OpenT {K0 : Nat → Prop} {Q : Res} {w0 w : World} {L : List Item} {g : Nat} {ts : List Tm} (H : TF K0 (starR (tabR g ts) Q) w0 w L) (hw : ∀ t ∈ ts, TmW t) {k b : List Int} {s : ByteArray} (hk : KeyOk k) (hb : KeyOk b) {r : Option (ByteArray × List (List Int))} (hr : openM ts k b s = r) :
    Calls Try.prog 17 #[.pointer (some ⟨g, 0, none⟩), .agg (nums .u8 k).toArray, .agg (nums .u8 b).toArray, .string s] w (OpenR w r) := by
  obtain ⟨K, ⟨K1, K2, ⟨mb, A, c, T⟩, _⟩, _⟩ := H.ex
  subst hr
  exact Open17 K1 g mb c A ts k b s w T hw hk hb
theorem openM_ok {ts : List Tm} (h : ∀ t ∈ ts, TmOk t) {k b : List Int} {s x : ByteArray} {ks : List (List Int)} (ho : openM ts k b s = some (x, ks)) : ks.length ≤ 1000 ∧ ∀ k ∈ ks, KeyOk k := by
  unfold openM at ho
  split at ho
  · split at ho
    · rename_i t ht
      split at ho
      · simp only [Option.some.injEq, Prod.mk.injEq] at ho
        obtain ⟨rfl, rfl⟩ := ho
        have := h t (List.mem_of_getElem? ht)
        exact ⟨by rw [List.length_drop]; have := this.kl; omega, fun k hk => this.ks k (List.mem_of_mem_drop hk)⟩
      · cases ho
    · cases ho
  · cases ho
end Go.Proofs.Ytcapfnbmmdbcoaa
namespace Go.Proofs.Ytcapfnbmmdbcoaa
open Go.RowKit
theorem StepP.tmok {K : Nat → Prop} {w : World} {p g : Nat} {ts : List Tm} {seen made : List (List Int)} {SA : Option Addr} {sc : Nat} {c : Ck} {I : Option Addr} {ic : Nat} (h : StepP K w p g ts seen made SA sc c I ic) : ∀ t ∈ ts, TmOk t := by
  obtain ⟨K1, K2, ⟨mb, A, c, T⟩, _⟩ := h.res
  exact T.ok
set_option maxRecDepth 100000 in
set_option maxHeartbeats 4000000 in
theorem step48_7a {K : Nat → Prop} {w : World} {p g : Nat} {ts : List Tm} {seen made : List (List Int)} {SA : Option Addr} {sc : Nat} {n : Int} {text : ByteArray} {keys raw : List Int} {I : Option Addr} {ic : Nat} (h : StepP K w p g ts seen made SA sc (⟨7, n, text, keys, raw⟩ : Ck) I ic) {l : List (List Int)} (hc : namedL made keys = some l) (hl : leastT 7 ≤ (l.length : Int)) (ho : openM ts (l.getD 0 []) (l.getD 1 []) (strOfNums (l.getD 2 [])) = none) :
    Calls Try.prog 48 #[.pointer (some ⟨p, 0, none⟩), .agg (ckCells (⟨7, n, text, keys, raw⟩ : Ck) I ic).toArray] w (CookR K p g (.slice SA seen.length sc) made w (ts, [])) := by
  have H := TF.start h.res h.lt
  have HR := hid ((tabR_ok g ts).star (potR_ok p g (.slice SA seen.length sc) made))
  have hs := hid h
  have hn := hid (And.intro hc (decide_eq_true hl))
  clear h hc hl
  have hml := hs.out.ml
  obtain ⟨hl10, hlk⟩ := hs.out.named hn.out.1
  have hl1 : 3 ≤ l.length := by have := of_decide_eq_true hn.out.2; simp [leastT] at this; omega
  have hl0 : ¬ l = [] := fun e => by rw [e] at hl1; simp at hl1
  have HA := hid (at_getD (l := l) (i := 0) (by omega))
  have HB := hid (at_getD (l := l) (i := 1) (by omega))
  have HC := hid (at_getD (l := l) (i := 2) (by omega))
  obtain ⟨ka, ha⟩ : ∃ a, a = l.getD 0 [] := ⟨_, rfl⟩
  obtain ⟨kb, hb⟩ : ∃ a, a = l.getD 1 [] := ⟨_, rfl⟩
  obtain ⟨kc, hc⟩ : ∃ a, a = l.getD 2 [] := ⟨_, rfl⟩
  rw [← ha] at HA ho
  rw [← hb] at HB ho
  rw [← hc] at HC ho
  have HAK := hid (hlk _ (List.mem_of_getElem? HA.out))
  have HBK := hid (hlk _ (List.mem_of_getElem? HB.out))
  have HCK := hid (hlk _ (List.mem_of_getElem? HC.out))
  have HLK := hid hlk
  have HOP := hid ho
  clear hlk ha hb hc ho
  have hP := fun ts' => hid ((tabR_ok g ts').star (potR_ok p g (.slice SA seen.length sc) made))
  go_enter Try.func48, Try.ntmps48
  go_wp2_with (first | (refine wpF_bxC (cs := ckCells (⟨7, n, text, keys, raw⟩ : Ck) I ic) 3 H HR.out rfl rfl rfl rfl (fun b3 w1 H1 => ?_); clear H; (conv => arg 5; simp only [Act.put, List.setIfInBounds_toArray, List.set_cons_succ, List.set_cons_zero])) | (refine wpF_mkMap 12 H1 HR.out rfl rfl rfl (fun b12 w2 H2 => ?_); clear H1; (conv => arg 5; simp only [Act.put, List.setIfInBounds_toArray, List.set_cons_succ, List.set_cons_zero])) | (refine wpF_ins 0 4 1 (by kernel_rfl) rfl rfl H2 HR.out rfl rfl rfl rfl rfl Swap.head (fun w3 H3 => ?_); clear H2; (conv => arg 5; simp only [Act.put, List.setIfInBounds_toArray, List.set_cons_succ, List.set_cons_zero])) | (refine wpF_ins 1 5 2 (by kernel_rfl) rfl rfl H3 HR.out rfl rfl rfl rfl rfl Swap.head (fun w4 H4 => ?_); clear H3; (conv => arg 5; simp only [Act.put, List.setIfInBounds_toArray, List.set_cons_succ, List.set_cons_zero])) | (refine wpF_ins 2 6 2 (by kernel_rfl) rfl rfl H4 HR.out rfl rfl rfl rfl rfl Swap.head (fun w5 H5 => ?_); clear H4; (conv => arg 5; simp only [Act.put, List.setIfInBounds_toArray, List.set_cons_succ, List.set_cons_zero])) | (refine wpF_ins 3 7 3 (by kernel_rfl) rfl rfl H5 HR.out rfl rfl rfl rfl rfl Swap.head (fun w6 H6 => ?_); clear H5; have c0 := H6.cellC (List.mem_cons_of_mem _ List.mem_cons_self) 0 _ rfl; try dsimp only at c0; (conv => arg 5; simp only [Act.put, List.setIfInBounds_toArray, List.set_cons_succ, List.set_cons_zero])) | (refine wpList_ldagg 16 rfl Try.underlying55 rfl rfl rfl rfl (H6.cellC (List.mem_cons_of_mem _ List.mem_cons_self)) (sz55 hs.out.ck) ?_; (conv => arg 5; simp only [Act.put, List.setIfInBounds_toArray, List.set_cons_succ, List.set_cons_zero])) | (refine wpF_need 20 H6 rfl rfl rfl rfl rfl List.mem_cons_self ?_; (conv => arg 5; simp only [Act.put, List.setIfInBounds_toArray, List.set_cons_succ, List.set_cons_zero])) | (refine (named71S H6 hs.out.ml hs.out.ck (H6.rowC hs.out.ir hs.out.inn) hn.out).mono ?_; rintro e w7 ⟨B, d, rfl, M7⟩; have H7 := (H6.call HR.out M7).sub (L' := [.vec B l.length d 26 32 (nums .u8 l.flatten), .blk b3 (cellsO 55 (ckCells (⟨7, n, text, keys, raw⟩ : Ck) I ic))]) (by (repeat (first | exact List.Sublist.refl _ | apply List.Sublist.cons_cons | apply List.Sublist.cons))); clear H6 c0 M7; have c0 := H7.cellC (List.mem_cons_of_mem _ List.mem_cons_self) 0 _ rfl; try dsimp only at c0))
  obtain ⟨bv, rfl⟩ := H7.reb.vecB List.mem_cons_self (by omega)
  refine wp_region_planTF (PotC p g (.slice SA seen.length sc)) (.free 0 (.free 1 (.free 2 (.free 3 (.free 4 (.free 5 (.free 6 (.free 7 (.free 8 (.free 9 (.free 10 (.free 11 (.free 12 (.free 13 (.free 14 (.one 15 (.free 16 (.free 17 (.free 18 (.free 19 (.free 20 (.free 21 (.free 22 (.done)))))))))))))))))))))))) (by kernel_rfl) (by kernel_rfl) (fun _ _ _ _ _ h => h) H7 HR.out ?_
  clear H7 c0
  intro ops Q HO HQ w8 H
  (refine wpT_free (by rw [HO.out]; rfl) rfl (.inl ⟨rfl, fun w _ => by go_simp; rfl⟩) (by exact H.st (by (repeat (first | exact List.Sublist.refl _ | apply List.Sublist.cons_cons | apply List.Sublist.cons)))) ?_; (conv => arg 6; simp only [Act.put, List.setIfInBounds_toArray, List.set_cons_succ, List.set_cons_zero]))
  (refine wpT_free (by rw [HO.out]; rfl) rfl (.inl ⟨rfl, fun w _ => by go_simp; rfl⟩) (by exact H.st (by (repeat (first | exact List.Sublist.refl _ | apply List.Sublist.cons_cons | apply List.Sublist.cons)))) ?_; (conv => arg 6; simp only [Act.put, List.setIfInBounds_toArray, List.set_cons_succ, List.set_cons_zero]))
  (refine wpT_free (by rw [HO.out]; rfl) rfl (.inl ⟨rfl, fun w _ => by go_simp; rfl⟩) (by exact H.st (by (repeat (first | exact List.Sublist.refl _ | apply List.Sublist.cons_cons | apply List.Sublist.cons)))) ?_; (conv => arg 6; simp only [Act.put, List.setIfInBounds_toArray, List.set_cons_succ, List.set_cons_zero]))
  (refine wpT_free (by rw [HO.out]; rfl) rfl (.inl ⟨rfl, fun w _ => by go_simp; rfl⟩) (by exact H.st (by (repeat (first | exact List.Sublist.refl _ | apply List.Sublist.cons_cons | apply List.Sublist.cons)))) ?_; (conv => arg 6; simp only [Act.put, List.setIfInBounds_toArray, List.set_cons_succ, List.set_cons_zero]))
  (refine wpT_free (by rw [HO.out]; rfl) rfl (.inl ⟨rfl, fun w hw => run_ld1 Try.underlying23 rfl rfl rfl hw.2.1⟩) (by exact H.st (by (repeat (first | exact List.Sublist.refl _ | apply List.Sublist.cons_cons | apply List.Sublist.cons)))) ?_; (conv => arg 6; simp only [Act.put, List.setIfInBounds_toArray, List.set_cons_succ, List.set_cons_zero]))
  (refine wpT_free (by rw [HO.out]; rfl) rfl (.inl ⟨rfl, fun w _ => by go_simp; rfl⟩) (by exact H.st (by (repeat (first | exact List.Sublist.refl _ | apply List.Sublist.cons_cons | apply List.Sublist.cons)))) ?_; (conv => arg 6; simp only [Act.put, List.setIfInBounds_toArray, List.set_cons_succ, List.set_cons_zero]))
  (refine wpT_free (v := .pointer (some ⟨bv, 0, none⟩)) (by rw [HO.out]; rfl) rfl (.inl ⟨rfl, fun w _ => by go_simp; (try omega)⟩) (by exact H.st (by (repeat (first | exact List.Sublist.refl _ | apply List.Sublist.cons_cons | apply List.Sublist.cons)))) ?_; (conv => arg 6; simp only [Act.put, List.setIfInBounds_toArray, List.set_cons_succ, List.set_cons_zero]))
  (refine wpT_free (by rw [HO.out]; rfl) rfl (.inl ⟨rfl, fun w hw => run_ldK Try.underlying26 rfl rfl rfl (st_key (off := 0) hw HLK.out List.mem_cons_self HA.out rfl) (s26k HAK.out)⟩) (by exact H.st (by (repeat (first | exact List.Sublist.refl _ | apply List.Sublist.cons_cons | apply List.Sublist.cons)))) ?_; (conv => arg 6; simp only [Act.put, List.setIfInBounds_toArray, List.set_cons_succ, List.set_cons_zero]))
  (refine wpT_free (by rw [HO.out]; rfl) rfl (.inl ⟨rfl, fun w _ => by go_simp; rfl⟩) (by exact H.st (by (repeat (first | exact List.Sublist.refl _ | apply List.Sublist.cons_cons | apply List.Sublist.cons)))) ?_; (conv => arg 6; simp only [Act.put, List.setIfInBounds_toArray, List.set_cons_succ, List.set_cons_zero]))
  (refine wpT_free (v := .pointer (some ⟨bv, 32, none⟩)) (by rw [HO.out]; rfl) rfl (.inl ⟨rfl, fun w _ => by go_simp; (try omega)⟩) (by exact H.st (by (repeat (first | exact List.Sublist.refl _ | apply List.Sublist.cons_cons | apply List.Sublist.cons)))) ?_; (conv => arg 6; simp only [Act.put, List.setIfInBounds_toArray, List.set_cons_succ, List.set_cons_zero]))
  (refine wpT_free (by rw [HO.out]; rfl) rfl (.inl ⟨rfl, fun w hw => run_ldK Try.underlying26 rfl rfl rfl (st_key (off := 32) hw HLK.out List.mem_cons_self HB.out rfl) (s26k HBK.out)⟩) (by exact H.st (by (repeat (first | exact List.Sublist.refl _ | apply List.Sublist.cons_cons | apply List.Sublist.cons)))) ?_; (conv => arg 6; simp only [Act.put, List.setIfInBounds_toArray, List.set_cons_succ, List.set_cons_zero]))
  (refine wpT_free (by rw [HO.out]; rfl) rfl (.inl ⟨rfl, fun w _ => by go_simp; rfl⟩) (by exact H.st (by (repeat (first | exact List.Sublist.refl _ | apply List.Sublist.cons_cons | apply List.Sublist.cons)))) ?_; (conv => arg 6; simp only [Act.put, List.setIfInBounds_toArray, List.set_cons_succ, List.set_cons_zero]))
  (refine wpT_free (v := .pointer (some ⟨bv, 64, none⟩)) (by rw [HO.out]; rfl) rfl (.inl ⟨rfl, fun w _ => by go_simp; (try omega)⟩) (by exact H.st (by (repeat (first | exact List.Sublist.refl _ | apply List.Sublist.cons_cons | apply List.Sublist.cons)))) ?_; (conv => arg 6; simp only [Act.put, List.setIfInBounds_toArray, List.set_cons_succ, List.set_cons_zero]))
  (refine wpT_free (by rw [HO.out]; rfl) rfl (.inl ⟨rfl, fun w _ => run_slW Try.underlying26 s5 (by decide) rfl rfl w⟩) (by exact H.st (by (repeat (first | exact List.Sublist.refl _ | apply List.Sublist.cons_cons | apply List.Sublist.cons)))) ?_; (conv => arg 6; simp only [Act.put, List.setIfInBounds_toArray, List.set_cons_succ, List.set_cons_zero]))
  (refine wpT_free (by rw [HO.out]; rfl) rfl (.inl ⟨rfl, fun w hw => run_cvOff Try.underlying37 Try.underlying5 Try.underlying9 rfl rfl (st_key (off := 64) hw HLK.out List.mem_cons_self HC.out rfl) HCK.out.1⟩) (by exact H.st (by (repeat (first | exact List.Sublist.refl _ | apply List.Sublist.cons_cons | apply List.Sublist.cons)))) ?_; (conv => arg 6; simp only [Act.put, List.setIfInBounds_toArray, List.set_cons_succ, List.set_cons_zero]))
  refine wpT_op (by rw [HO.out]; rfl) ?_
  go_wp2_with (go_at_call 17; refine (OpenT H hs.out.tw HAK.out HBK.out HOP.out).mono ?_; rintro e wn ⟨rfl, M17⟩; replace H := H.call0 HR.out M17; clear M17)
  refine PlanTQ.mk (by exact H.st (by (repeat (first | exact List.Sublist.refl _ | apply List.Sublist.cons_cons | apply List.Sublist.cons)))) ?_
  (refine wpT_free (by rw [HO.out]; rfl) rfl (.inl ⟨rfl, fun w _ => by go_simp; rfl⟩) (by exact H.st (by (repeat (first | exact List.Sublist.refl _ | apply List.Sublist.cons_cons | apply List.Sublist.cons)))) ?_; (conv => arg 6; simp only [Act.put, List.setIfInBounds_toArray, List.set_cons_succ, List.set_cons_zero]))
  (refine wpT_free (by rw [HO.out]; rfl) rfl (.inl ⟨rfl, fun w _ => by go_simp; rfl⟩) (by exact H.st (by (repeat (first | exact List.Sublist.refl _ | apply List.Sublist.cons_cons | apply List.Sublist.cons)))) ?_; (conv => arg 6; simp only [Act.put, List.setIfInBounds_toArray, List.set_cons_succ, List.set_cons_zero]))
  (refine wpT_free (by rw [HO.out]; rfl) rfl (.inl ⟨rfl, fun w _ => by go_simp; rfl⟩) (by exact H.st (by (repeat (first | exact List.Sublist.refl _ | apply List.Sublist.cons_cons | apply List.Sublist.cons)))) ?_; (conv => arg 6; simp only [Act.put, List.setIfInBounds_toArray, List.set_cons_succ, List.set_cons_zero]))
  (refine wpT_free (by rw [HO.out]; rfl) rfl (.inl ⟨rfl, fun w _ => by go_simp; rfl⟩) (by exact H.st (by (repeat (first | exact List.Sublist.refl _ | apply List.Sublist.cons_cons | apply List.Sublist.cons)))) ?_; (conv => arg 6; simp only [Act.put, List.setIfInBounds_toArray, List.set_cons_succ, List.set_cons_zero]))
  (refine wpT_free (by rw [HO.out]; rfl) rfl (.inl ⟨rfl, fun w _ => by go_simp; rfl⟩) (by exact H.st (by (repeat (first | exact List.Sublist.refl _ | apply List.Sublist.cons_cons | apply List.Sublist.cons)))) ?_; (conv => arg 6; simp only [Act.put, List.setIfInBounds_toArray, List.set_cons_succ, List.set_cons_zero]))
  (refine wpT_free (by rw [HO.out]; rfl) rfl (.inl ⟨rfl, fun w _ => by go_simp; rfl⟩) (by exact H.st (by (repeat (first | exact List.Sublist.refl _ | apply List.Sublist.cons_cons | apply List.Sublist.cons)))) ?_; (conv => arg 6; simp only [Act.put, List.setIfInBounds_toArray, List.set_cons_succ, List.set_cons_zero]))
  (refine wpT_free (by rw [HO.out]; rfl) rfl (.inl ⟨rfl, fun w _ => by go_simp; rfl⟩) (by exact H.st (by (repeat (first | exact List.Sublist.refl _ | apply List.Sublist.cons_cons | apply List.Sublist.cons)))) ?_; (conv => arg 6; simp only [Act.put, List.setIfInBounds_toArray, List.set_cons_succ, List.set_cons_zero]))
  refine wpT_done ?_
  rw [HQ.out]
  go_wp2_with (refine (put72T (ks := []) H (by simp) RowT.nil (by simp only [List.length_nil]; omega)).mono ?_; clear H; rintro e wn ⟨rfl, H⟩)
  go_end0
  exact CookR.put H rfl
set_option maxRecDepth 100000 in
set_option maxHeartbeats 4000000 in
theorem step48_7b {K : Nat → Prop} {w : World} {p g : Nat} {ts : List Tm} {seen made : List (List Int)} {SA : Option Addr} {sc : Nat} {n : Int} {text : ByteArray} {keys raw : List Int} {I : Option Addr} {ic : Nat} (h : StepP K w p g ts seen made SA sc (⟨7, n, text, keys, raw⟩ : Ck) I ic) {l : List (List Int)} (hc : namedL made keys = some l) (hl : leastT 7 ≤ (l.length : Int)) {x : ByteArray} {ks : List (List Int)} (ho : openM ts (l.getD 0 []) (l.getD 1 []) (strOfNums (l.getD 2 [])) = some (x, ks)) :
    Calls Try.prog 48 #[.pointer (some ⟨p, 0, none⟩), .agg (ckCells (⟨7, n, text, keys, raw⟩ : Ck) I ic).toArray] w (CookR K p g (.slice SA seen.length sc) made w (ts, ks)) := by
  have H := TF.start h.res h.lt
  have HR := hid ((tabR_ok g ts).star (potR_ok p g (.slice SA seen.length sc) made))
  have hs := hid h
  have hn := hid (And.intro hc (decide_eq_true hl))
  clear h hc hl
  obtain ⟨hk1, hk2⟩ := openM_ok hs.out.tmok ho
  have HK2 := hid hk2
  clear hk2
  have hml := hs.out.ml
  obtain ⟨hl10, hlk⟩ := hs.out.named hn.out.1
  have hl1 : 3 ≤ l.length := by have := of_decide_eq_true hn.out.2; simp [leastT] at this; omega
  have hl0 : ¬ l = [] := fun e => by rw [e] at hl1; simp at hl1
  have HA := hid (at_getD (l := l) (i := 0) (by omega))
  have HB := hid (at_getD (l := l) (i := 1) (by omega))
  have HC := hid (at_getD (l := l) (i := 2) (by omega))
  obtain ⟨ka, ha⟩ : ∃ a, a = l.getD 0 [] := ⟨_, rfl⟩
  obtain ⟨kb, hb⟩ : ∃ a, a = l.getD 1 [] := ⟨_, rfl⟩
  obtain ⟨kc, hc⟩ : ∃ a, a = l.getD 2 [] := ⟨_, rfl⟩
  rw [← ha] at HA ho
  rw [← hb] at HB ho
  rw [← hc] at HC ho
  have HAK := hid (hlk _ (List.mem_of_getElem? HA.out))
  have HBK := hid (hlk _ (List.mem_of_getElem? HB.out))
  have HCK := hid (hlk _ (List.mem_of_getElem? HC.out))
  have HLK := hid hlk
  have HOP := hid ho
  clear hlk ha hb hc ho
  have hP := fun ts' => hid ((tabR_ok g ts').star (potR_ok p g (.slice SA seen.length sc) made))
  go_enter Try.func48, Try.ntmps48
  go_wp2_with (first | (refine wpF_bxC (cs := ckCells (⟨7, n, text, keys, raw⟩ : Ck) I ic) 3 H HR.out rfl rfl rfl rfl (fun b3 w1 H1 => ?_); clear H; (conv => arg 5; simp only [Act.put, List.setIfInBounds_toArray, List.set_cons_succ, List.set_cons_zero])) | (refine wpF_mkMap 12 H1 HR.out rfl rfl rfl (fun b12 w2 H2 => ?_); clear H1; (conv => arg 5; simp only [Act.put, List.setIfInBounds_toArray, List.set_cons_succ, List.set_cons_zero])) | (refine wpF_ins 0 4 1 (by kernel_rfl) rfl rfl H2 HR.out rfl rfl rfl rfl rfl Swap.head (fun w3 H3 => ?_); clear H2; (conv => arg 5; simp only [Act.put, List.setIfInBounds_toArray, List.set_cons_succ, List.set_cons_zero])) | (refine wpF_ins 1 5 2 (by kernel_rfl) rfl rfl H3 HR.out rfl rfl rfl rfl rfl Swap.head (fun w4 H4 => ?_); clear H3; (conv => arg 5; simp only [Act.put, List.setIfInBounds_toArray, List.set_cons_succ, List.set_cons_zero])) | (refine wpF_ins 2 6 2 (by kernel_rfl) rfl rfl H4 HR.out rfl rfl rfl rfl rfl Swap.head (fun w5 H5 => ?_); clear H4; (conv => arg 5; simp only [Act.put, List.setIfInBounds_toArray, List.set_cons_succ, List.set_cons_zero])) | (refine wpF_ins 3 7 3 (by kernel_rfl) rfl rfl H5 HR.out rfl rfl rfl rfl rfl Swap.head (fun w6 H6 => ?_); clear H5; have c0 := H6.cellC (List.mem_cons_of_mem _ List.mem_cons_self) 0 _ rfl; try dsimp only at c0; (conv => arg 5; simp only [Act.put, List.setIfInBounds_toArray, List.set_cons_succ, List.set_cons_zero])) | (refine wpList_ldagg 16 rfl Try.underlying55 rfl rfl rfl rfl (H6.cellC (List.mem_cons_of_mem _ List.mem_cons_self)) (sz55 hs.out.ck) ?_; (conv => arg 5; simp only [Act.put, List.setIfInBounds_toArray, List.set_cons_succ, List.set_cons_zero])) | (refine wpF_need 20 H6 rfl rfl rfl rfl rfl List.mem_cons_self ?_; (conv => arg 5; simp only [Act.put, List.setIfInBounds_toArray, List.set_cons_succ, List.set_cons_zero])) | (refine (named71S H6 hs.out.ml hs.out.ck (H6.rowC hs.out.ir hs.out.inn) hn.out).mono ?_; rintro e w7 ⟨B, d, rfl, M7⟩; have H7 := (H6.call HR.out M7).sub (L' := [.vec B l.length d 26 32 (nums .u8 l.flatten), .blk b3 (cellsO 55 (ckCells (⟨7, n, text, keys, raw⟩ : Ck) I ic))]) (by (repeat (first | exact List.Sublist.refl _ | apply List.Sublist.cons_cons | apply List.Sublist.cons))); clear H6 c0 M7; have c0 := H7.cellC (List.mem_cons_of_mem _ List.mem_cons_self) 0 _ rfl; try dsimp only at c0))
  obtain ⟨bv, rfl⟩ := H7.reb.vecB List.mem_cons_self (by omega)
  refine wp_region_planTF (PotC p g (.slice SA seen.length sc)) (.free 0 (.free 1 (.free 2 (.free 3 (.free 4 (.free 5 (.free 6 (.free 7 (.free 8 (.free 9 (.free 10 (.free 11 (.free 12 (.free 13 (.free 14 (.one 15 (.free 16 (.free 17 (.free 18 (.free 19 (.free 20 (.free 21 (.free 22 (.done)))))))))))))))))))))))) (by kernel_rfl) (by kernel_rfl) (fun _ _ _ _ _ h => h) H7 HR.out ?_
  clear H7 c0
  intro ops Q HO HQ w8 H
  (refine wpT_free (by rw [HO.out]; rfl) rfl (.inl ⟨rfl, fun w _ => by go_simp; rfl⟩) (by exact H.st (by (repeat (first | exact List.Sublist.refl _ | apply List.Sublist.cons_cons | apply List.Sublist.cons)))) ?_; (conv => arg 6; simp only [Act.put, List.setIfInBounds_toArray, List.set_cons_succ, List.set_cons_zero]))
  (refine wpT_free (by rw [HO.out]; rfl) rfl (.inl ⟨rfl, fun w _ => by go_simp; rfl⟩) (by exact H.st (by (repeat (first | exact List.Sublist.refl _ | apply List.Sublist.cons_cons | apply List.Sublist.cons)))) ?_; (conv => arg 6; simp only [Act.put, List.setIfInBounds_toArray, List.set_cons_succ, List.set_cons_zero]))
  (refine wpT_free (by rw [HO.out]; rfl) rfl (.inl ⟨rfl, fun w _ => by go_simp; rfl⟩) (by exact H.st (by (repeat (first | exact List.Sublist.refl _ | apply List.Sublist.cons_cons | apply List.Sublist.cons)))) ?_; (conv => arg 6; simp only [Act.put, List.setIfInBounds_toArray, List.set_cons_succ, List.set_cons_zero]))
  (refine wpT_free (by rw [HO.out]; rfl) rfl (.inl ⟨rfl, fun w _ => by go_simp; rfl⟩) (by exact H.st (by (repeat (first | exact List.Sublist.refl _ | apply List.Sublist.cons_cons | apply List.Sublist.cons)))) ?_; (conv => arg 6; simp only [Act.put, List.setIfInBounds_toArray, List.set_cons_succ, List.set_cons_zero]))
  (refine wpT_free (by rw [HO.out]; rfl) rfl (.inl ⟨rfl, fun w hw => run_ld1 Try.underlying23 rfl rfl rfl hw.2.1⟩) (by exact H.st (by (repeat (first | exact List.Sublist.refl _ | apply List.Sublist.cons_cons | apply List.Sublist.cons)))) ?_; (conv => arg 6; simp only [Act.put, List.setIfInBounds_toArray, List.set_cons_succ, List.set_cons_zero]))
  (refine wpT_free (by rw [HO.out]; rfl) rfl (.inl ⟨rfl, fun w _ => by go_simp; rfl⟩) (by exact H.st (by (repeat (first | exact List.Sublist.refl _ | apply List.Sublist.cons_cons | apply List.Sublist.cons)))) ?_; (conv => arg 6; simp only [Act.put, List.setIfInBounds_toArray, List.set_cons_succ, List.set_cons_zero]))
  (refine wpT_free (v := .pointer (some ⟨bv, 0, none⟩)) (by rw [HO.out]; rfl) rfl (.inl ⟨rfl, fun w _ => by go_simp; (try omega)⟩) (by exact H.st (by (repeat (first | exact List.Sublist.refl _ | apply List.Sublist.cons_cons | apply List.Sublist.cons)))) ?_; (conv => arg 6; simp only [Act.put, List.setIfInBounds_toArray, List.set_cons_succ, List.set_cons_zero]))
  (refine wpT_free (by rw [HO.out]; rfl) rfl (.inl ⟨rfl, fun w hw => run_ldK Try.underlying26 rfl rfl rfl (st_key (off := 0) hw HLK.out List.mem_cons_self HA.out rfl) (s26k HAK.out)⟩) (by exact H.st (by (repeat (first | exact List.Sublist.refl _ | apply List.Sublist.cons_cons | apply List.Sublist.cons)))) ?_; (conv => arg 6; simp only [Act.put, List.setIfInBounds_toArray, List.set_cons_succ, List.set_cons_zero]))
  (refine wpT_free (by rw [HO.out]; rfl) rfl (.inl ⟨rfl, fun w _ => by go_simp; rfl⟩) (by exact H.st (by (repeat (first | exact List.Sublist.refl _ | apply List.Sublist.cons_cons | apply List.Sublist.cons)))) ?_; (conv => arg 6; simp only [Act.put, List.setIfInBounds_toArray, List.set_cons_succ, List.set_cons_zero]))
  (refine wpT_free (v := .pointer (some ⟨bv, 32, none⟩)) (by rw [HO.out]; rfl) rfl (.inl ⟨rfl, fun w _ => by go_simp; (try omega)⟩) (by exact H.st (by (repeat (first | exact List.Sublist.refl _ | apply List.Sublist.cons_cons | apply List.Sublist.cons)))) ?_; (conv => arg 6; simp only [Act.put, List.setIfInBounds_toArray, List.set_cons_succ, List.set_cons_zero]))
  (refine wpT_free (by rw [HO.out]; rfl) rfl (.inl ⟨rfl, fun w hw => run_ldK Try.underlying26 rfl rfl rfl (st_key (off := 32) hw HLK.out List.mem_cons_self HB.out rfl) (s26k HBK.out)⟩) (by exact H.st (by (repeat (first | exact List.Sublist.refl _ | apply List.Sublist.cons_cons | apply List.Sublist.cons)))) ?_; (conv => arg 6; simp only [Act.put, List.setIfInBounds_toArray, List.set_cons_succ, List.set_cons_zero]))
  (refine wpT_free (by rw [HO.out]; rfl) rfl (.inl ⟨rfl, fun w _ => by go_simp; rfl⟩) (by exact H.st (by (repeat (first | exact List.Sublist.refl _ | apply List.Sublist.cons_cons | apply List.Sublist.cons)))) ?_; (conv => arg 6; simp only [Act.put, List.setIfInBounds_toArray, List.set_cons_succ, List.set_cons_zero]))
  (refine wpT_free (v := .pointer (some ⟨bv, 64, none⟩)) (by rw [HO.out]; rfl) rfl (.inl ⟨rfl, fun w _ => by go_simp; (try omega)⟩) (by exact H.st (by (repeat (first | exact List.Sublist.refl _ | apply List.Sublist.cons_cons | apply List.Sublist.cons)))) ?_; (conv => arg 6; simp only [Act.put, List.setIfInBounds_toArray, List.set_cons_succ, List.set_cons_zero]))
  (refine wpT_free (by rw [HO.out]; rfl) rfl (.inl ⟨rfl, fun w _ => run_slW Try.underlying26 s5 (by decide) rfl rfl w⟩) (by exact H.st (by (repeat (first | exact List.Sublist.refl _ | apply List.Sublist.cons_cons | apply List.Sublist.cons)))) ?_; (conv => arg 6; simp only [Act.put, List.setIfInBounds_toArray, List.set_cons_succ, List.set_cons_zero]))
  (refine wpT_free (by rw [HO.out]; rfl) rfl (.inl ⟨rfl, fun w hw => run_cvOff Try.underlying37 Try.underlying5 Try.underlying9 rfl rfl (st_key (off := 64) hw HLK.out List.mem_cons_self HC.out rfl) HCK.out.1⟩) (by exact H.st (by (repeat (first | exact List.Sublist.refl _ | apply List.Sublist.cons_cons | apply List.Sublist.cons)))) ?_; (conv => arg 6; simp only [Act.put, List.setIfInBounds_toArray, List.set_cons_succ, List.set_cons_zero]))
  refine wpT_op (by rw [HO.out]; rfl) ?_
  go_wp2_with (go_at_call 17; refine (OpenT H hs.out.tw HAK.out HBK.out HOP.out).mono ?_; rintro e wn ⟨A17, c17, rfl, _, _, _, M17⟩; replace H := H.call HR.out M17; clear M17)
  refine PlanTQ.mk (by exact H.st (by (repeat (first | exact List.Sublist.refl _ | apply List.Sublist.cons_cons | apply List.Sublist.cons)))) ?_
  (refine wpT_free (by rw [HO.out]; rfl) rfl (.inl ⟨rfl, fun w _ => by go_simp; rfl⟩) (by exact H.st (by (repeat (first | exact List.Sublist.refl _ | apply List.Sublist.cons_cons | apply List.Sublist.cons)))) ?_; (conv => arg 6; simp only [Act.put, List.setIfInBounds_toArray, List.set_cons_succ, List.set_cons_zero]))
  (refine wpT_free (by rw [HO.out]; rfl) rfl (.inl ⟨rfl, fun w _ => by go_simp; rfl⟩) (by exact H.st (by (repeat (first | exact List.Sublist.refl _ | apply List.Sublist.cons_cons | apply List.Sublist.cons)))) ?_; (conv => arg 6; simp only [Act.put, List.setIfInBounds_toArray, List.set_cons_succ, List.set_cons_zero]))
  (refine wpT_free (by rw [HO.out]; rfl) rfl (.inl ⟨rfl, fun w _ => by go_simp; rfl⟩) (by exact H.st (by (repeat (first | exact List.Sublist.refl _ | apply List.Sublist.cons_cons | apply List.Sublist.cons)))) ?_; (conv => arg 6; simp only [Act.put, List.setIfInBounds_toArray, List.set_cons_succ, List.set_cons_zero]))
  (refine wpT_free (by rw [HO.out]; rfl) rfl (.inl ⟨rfl, fun w _ => by go_simp; rfl⟩) (by exact H.st (by (repeat (first | exact List.Sublist.refl _ | apply List.Sublist.cons_cons | apply List.Sublist.cons)))) ?_; (conv => arg 6; simp only [Act.put, List.setIfInBounds_toArray, List.set_cons_succ, List.set_cons_zero]))
  (refine wpT_free (by rw [HO.out]; rfl) rfl (.inl ⟨rfl, fun w _ => by go_simp; rfl⟩) (by exact H.st (by (repeat (first | exact List.Sublist.refl _ | apply List.Sublist.cons_cons | apply List.Sublist.cons)))) ?_; (conv => arg 6; simp only [Act.put, List.setIfInBounds_toArray, List.set_cons_succ, List.set_cons_zero]))
  (refine wpT_free (by rw [HO.out]; rfl) rfl (.inl ⟨rfl, fun w _ => by go_simp; rfl⟩) (by exact H.st (by (repeat (first | exact List.Sublist.refl _ | apply List.Sublist.cons_cons | apply List.Sublist.cons)))) ?_; (conv => arg 6; simp only [Act.put, List.setIfInBounds_toArray, List.set_cons_succ, List.set_cons_zero]))
  (refine wpT_free (by rw [HO.out]; rfl) rfl (.inl ⟨rfl, fun w _ => by go_simp; rfl⟩) (by exact H.st (by (repeat (first | exact List.Sublist.refl _ | apply List.Sublist.cons_cons | apply List.Sublist.cons)))) ?_; (conv => arg 6; simp only [Act.put, List.setIfInBounds_toArray, List.set_cons_succ, List.set_cons_zero]))
  refine wpT_done ?_
  rw [HQ.out]
  go_wp2_with (refine (put72T (ks := ks) H HK2.out (H.reb.vecT List.mem_cons_self) (by omega)).mono ?_; clear H; rintro e wn ⟨rfl, H⟩)
  go_end0
  exact CookR.put H rfl
end Go.Proofs.Ytcapfnbmmdbcoaa
namespace Go.Proofs.Ytcapfnbmmdbcoaa
open Go.RowKit
theorem low_none {A : Option Addr} {c k size : Nat} (h : A = none → c = 0) : lowA A c k size = none → c - k = 0 := by
  unfold lowA
  split
  · intro hA
    have := h hA
    omega
  · cases A with
    | none => intro _; have := h rfl; omega
    | some a => intro hA; cases hA
theorem low_keys {w : World} {A : Option Addr} {c k : Nat} {l : List (List Int)} (hl : ∀ x ∈ l, KeyOk x) (hr : RowT w 26 A (nums .u8 l.flatten)) (hc : l.length ≤ c) : RowT w 26 (lowA A c k 32) (nums .u8 (l.drop k).flatten) := by
  have h := hr.low (c := c) (low := k) (size := 32) (by rw [nums_length, flat_len hl]; omega)
  have e : (nums .u8 l.flatten).drop (k * 32) = nums .u8 (l.drop k).flatten := by
    rw [nums, ← List.map_drop]
    refine congrArg _ ?_
    have h2 : l = l.take k ++ l.drop k := (List.take_append_drop k l).symm
    by_cases hk : k ≤ l.length
    · have e1 : (l.take k).flatten.length = k * 32 := by
        rw [flat_len (fun x hx => hl x (List.mem_of_mem_take hx)), List.length_take, Nat.min_eq_left hk]
        (try omega)
      rw [show l.flatten = (l.take k).flatten ++ (l.drop k).flatten from by rw [← List.flatten_append, ← h2], ← e1, List.drop_left]
    · rw [List.drop_of_length_le (l := l) (by omega), List.drop_of_length_le (by rw [flat_len hl]; omega), List.flatten_nil]
  rwa [e] at h
theorem SealT {K0 : Nat → Prop} {Q : Res} (hQ : Ok Q) {w0 w : World} {L : List Item} {g : Nat} {ts : List Tm} (H : TF K0 (starR (tabR g ts) Q) w0 w L) {text : ByteArray} {k l : List Int} {B : Option Addr} {n d : Nat} {ks : List (List Int)} (hn : n = ks.length) (ht : text.size ≤ 1000) (hk : KeyOk k) (hkl : KeyOk l) (hks : ∀ k ∈ ks, KeyOk k) (hl : ks.length ≤ 900) (hr : RowT w 26 B (nums .u8 ks.flatten)) (hd : B = none → d = 0) (hf : ts.length ≤ 900000) :
    Calls Try.prog 15 #[.pointer (some ⟨g, 0, none⟩), .agg (nums .u8 k).toArray, .agg (nums .u8 l).toArray, .string text, .slice B n d] w fun e w' => IsStr (strOfNums (nm ts ⟨6, text, k :: l :: ks⟩)) e ∧ TF K0 (starR (tabR g (putL ts ⟨6, text, k :: l :: ks⟩)) Q) w0 w' L := by
  subst hn
  exact (H.runL hQ (R := fun e L2 => IsStr (strOfNums (nm ts ⟨6, text, k :: l :: ks⟩)) e ∧ L2 = []) fun K1 h1 hlt => (SealK h1 ht hk hkl hks hl hr hd hf).mono fun e w' ⟨he, F⟩ => ⟨[], ⟨he, rfl⟩, TF.of F hlt⟩).mono fun e w' ⟨L2, ⟨he, hL⟩, F⟩ => ⟨he, by rw [hL] at F; exact F⟩
theorem MarkN (g : Nat) {k : List Int} (hk : KeyOk k) (w : World) : Calls Try.prog 46 #[.pointer (some ⟨g, 0, none⟩), .string (strOfNums k)] w (KeyR k w) := by
  have := Mark46k g (strOfNums k) w (strKey hk).1
  rwa [(strKey hk).2] at this
set_option maxRecDepth 100000 in
set_option maxHeartbeats 4000000 in
theorem step48_6 {K : Nat → Prop} {w : World} {p g : Nat} {ts : List Tm} {seen made : List (List Int)} {SA : Option Addr} {sc : Nat} {n : Int} {text : ByteArray} {keys raw : List Int} {I : Option Addr} {ic : Nat} (h : StepP K w p g ts seen made SA sc (⟨6, n, text, keys, raw⟩ : Ck) I ic) {l : List (List Int)} (hc : namedL made keys = some l) (hl : leastT 6 ≤ (l.length : Int)) :
    Calls Try.prog 48 #[.pointer (some ⟨p, 0, none⟩), .agg (ckCells (⟨6, n, text, keys, raw⟩ : Ck) I ic).toArray] w (CookR K p g (.slice SA seen.length sc) made w (putN ts ⟨6, text, l.getD 0 [] :: l.getD 1 [] :: l.drop 2⟩)) := by
  have H := TF.start h.res h.lt
  have HR := hid ((tabR_ok g ts).star (potR_ok p g (.slice SA seen.length sc) made))
  have hs := hid h
  have hn := hid (And.intro hc (decide_eq_true hl))
  clear h hc hl
  have hml := hs.out.ml
  have htl := hs.out.tl
  have htx : text.size ≤ 200 := hs.out.ck.tx
  obtain ⟨hl10, hlk⟩ := hs.out.named hn.out.1
  have hl1 : 2 ≤ l.length := by have := of_decide_eq_true hn.out.2; simp [leastT] at this; omega
  have hl0 : ¬ l = [] := fun e => by rw [e] at hl1; simp at hl1
  have HA := hid (at_getD (l := l) (i := 0) (by omega))
  have HB := hid (at_getD (l := l) (i := 1) (by omega))
  obtain ⟨ka, ha⟩ : ∃ a, a = l.getD 0 [] := ⟨_, rfl⟩
  obtain ⟨kb, hb⟩ : ∃ a, a = l.getD 1 [] := ⟨_, rfl⟩
  rw [← ha] at HA ⊢
  rw [← hb] at HB ⊢
  have HAK := hid (hlk _ (List.mem_of_getElem? HA.out))
  have HBK := hid (hlk _ (List.mem_of_getElem? HB.out))
  have HLK := hid hlk
  have HDK := hid (show ∀ k ∈ l.drop 2, KeyOk k from fun k hk => hlk k (List.mem_of_mem_drop hk))
  have HDL := hid (show l.length - 2 = (l.drop 2).length from by rw [List.length_drop])
  have HDN := hid (show (l.drop 2).length ≤ 900 from by rw [List.length_drop]; omega)
  clear hlk ha hb
  have hP := fun ts' => hid ((tabR_ok g ts').star (potR_ok p g (.slice SA seen.length sc) made))
  go_enter Try.func48, Try.ntmps48
  go_wp2_with (first | (refine wpF_bxC (cs := ckCells (⟨6, n, text, keys, raw⟩ : Ck) I ic) 3 H HR.out rfl rfl rfl rfl (fun b3 w1 H1 => ?_); clear H; (conv => arg 5; simp only [Act.put, List.setIfInBounds_toArray, List.set_cons_succ, List.set_cons_zero])) | (refine wpF_mkMap 12 H1 HR.out rfl rfl rfl (fun b12 w2 H2 => ?_); clear H1; (conv => arg 5; simp only [Act.put, List.setIfInBounds_toArray, List.set_cons_succ, List.set_cons_zero])) | (refine wpF_ins 0 4 1 (by kernel_rfl) rfl rfl H2 HR.out rfl rfl rfl rfl rfl Swap.head (fun w3 H3 => ?_); clear H2; (conv => arg 5; simp only [Act.put, List.setIfInBounds_toArray, List.set_cons_succ, List.set_cons_zero])) | (refine wpF_ins 1 5 2 (by kernel_rfl) rfl rfl H3 HR.out rfl rfl rfl rfl rfl Swap.head (fun w4 H4 => ?_); clear H3; (conv => arg 5; simp only [Act.put, List.setIfInBounds_toArray, List.set_cons_succ, List.set_cons_zero])) | (refine wpF_ins 2 6 2 (by kernel_rfl) rfl rfl H4 HR.out rfl rfl rfl rfl rfl Swap.head (fun w5 H5 => ?_); clear H4; (conv => arg 5; simp only [Act.put, List.setIfInBounds_toArray, List.set_cons_succ, List.set_cons_zero])) | (refine wpF_ins 3 7 3 (by kernel_rfl) rfl rfl H5 HR.out rfl rfl rfl rfl rfl Swap.head (fun w6 H6 => ?_); clear H5; have c0 := H6.cellC (List.mem_cons_of_mem _ List.mem_cons_self) 0 _ rfl; try dsimp only at c0; (conv => arg 5; simp only [Act.put, List.setIfInBounds_toArray, List.set_cons_succ, List.set_cons_zero])) | (refine wpList_ldagg 16 rfl Try.underlying55 rfl rfl rfl rfl (H6.cellC (List.mem_cons_of_mem _ List.mem_cons_self)) (sz55 hs.out.ck) ?_; (conv => arg 5; simp only [Act.put, List.setIfInBounds_toArray, List.set_cons_succ, List.set_cons_zero])) | (refine wpF_need 20 H6 rfl rfl rfl rfl rfl List.mem_cons_self ?_; (conv => arg 5; simp only [Act.put, List.setIfInBounds_toArray, List.set_cons_succ, List.set_cons_zero])) | (refine (named71S H6 hs.out.ml hs.out.ck (H6.rowC hs.out.ir hs.out.inn) hn.out).mono ?_; rintro e w7 ⟨B, d, rfl, M7⟩; have H7 := (H6.call HR.out M7).sub (L' := [.vec B l.length d 26 32 (nums .u8 l.flatten), .blk b3 (cellsO 55 (ckCells (⟨6, n, text, keys, raw⟩ : Ck) I ic))]) (by (repeat (first | exact List.Sublist.refl _ | apply List.Sublist.cons_cons | apply List.Sublist.cons))); clear H6 c0 M7; have c0 := H7.cellC (List.mem_cons_of_mem _ List.mem_cons_self) 0 _ rfl; try dsimp only at c0))
  obtain ⟨bv, rfl⟩ := H7.reb.vecB List.mem_cons_self (by omega)
  have hcap := H7.reb.vec_cap List.mem_cons_self
  have HVN := hid (low_none (k := 2) (size := 32) (H7.reb.vec_nil List.mem_cons_self))
  refine wp_region_planTF (PotC p g (.slice SA seen.length sc)) (.free 0 (.free 1 (.free 2 (.free 3 (.free 4 (.free 5 (.free 6 (.free 7 (.free 8 (.free 9 (.free 10 (.free 11 (.free 12 (.free 13 (.free 14 (.free 15 (.free 16 (.free 17 (.free 18 (.free 19 (.free 20 (.one 21 (.one 22 (.one 23 (.one 24 (.done)))))))))))))))))))))))))) (by kernel_rfl) (by kernel_rfl) (fun _ _ _ _ _ h => h) H7 HR.out ?_
  clear H7 c0
  intro ops Q HO HQ w8 H
  (refine wpT_free (by rw [HO.out]; rfl) rfl (.inl ⟨rfl, fun w _ => by go_simp; rfl⟩) (by exact H.st (by (repeat (first | exact List.Sublist.refl _ | apply List.Sublist.cons_cons | apply List.Sublist.cons)))) ?_; (conv => arg 6; simp only [Act.put, List.setIfInBounds_toArray, List.set_cons_succ, List.set_cons_zero]))
  (refine wpT_free (by rw [HO.out]; rfl) rfl (.inl ⟨rfl, fun w _ => by go_simp; rfl⟩) (by exact H.st (by (repeat (first | exact List.Sublist.refl _ | apply List.Sublist.cons_cons | apply List.Sublist.cons)))) ?_; (conv => arg 6; simp only [Act.put, List.setIfInBounds_toArray, List.set_cons_succ, List.set_cons_zero]))
  (refine wpT_free (by rw [HO.out]; rfl) rfl (.inl ⟨rfl, fun w _ => by go_simp; rfl⟩) (by exact H.st (by (repeat (first | exact List.Sublist.refl _ | apply List.Sublist.cons_cons | apply List.Sublist.cons)))) ?_; (conv => arg 6; simp only [Act.put, List.setIfInBounds_toArray, List.set_cons_succ, List.set_cons_zero]))
  (refine wpT_free (by rw [HO.out]; rfl) rfl (.inl ⟨rfl, fun w _ => by go_simp; rfl⟩) (by exact H.st (by (repeat (first | exact List.Sublist.refl _ | apply List.Sublist.cons_cons | apply List.Sublist.cons)))) ?_; (conv => arg 6; simp only [Act.put, List.setIfInBounds_toArray, List.set_cons_succ, List.set_cons_zero]))
  (refine wpT_free (by rw [HO.out]; rfl) rfl (.inl ⟨rfl, fun w _ => by go_simp; rfl⟩) (by exact H.st (by (repeat (first | exact List.Sublist.refl _ | apply List.Sublist.cons_cons | apply List.Sublist.cons)))) ?_; (conv => arg 6; simp only [Act.put, List.setIfInBounds_toArray, List.set_cons_succ, List.set_cons_zero]))
  (refine wpT_free (by rw [HO.out]; rfl) rfl (.inl ⟨rfl, fun w hw => run_ld1 Try.underlying23 rfl rfl rfl hw.2.1⟩) (by exact H.st (by (repeat (first | exact List.Sublist.refl _ | apply List.Sublist.cons_cons | apply List.Sublist.cons)))) ?_; (conv => arg 6; simp only [Act.put, List.setIfInBounds_toArray, List.set_cons_succ, List.set_cons_zero]))
  (refine wpT_free (by rw [HO.out]; rfl) rfl (.inl ⟨rfl, fun w _ => by go_simp; rfl⟩) (by exact H.st (by (repeat (first | exact List.Sublist.refl _ | apply List.Sublist.cons_cons | apply List.Sublist.cons)))) ?_; (conv => arg 6; simp only [Act.put, List.setIfInBounds_toArray, List.set_cons_succ, List.set_cons_zero]))
  (refine wpT_free (by rw [HO.out]; rfl) rfl (.inl ⟨rfl, fun w _ => by go_simp; rfl⟩) (by exact H.st (by (repeat (first | exact List.Sublist.refl _ | apply List.Sublist.cons_cons | apply List.Sublist.cons)))) ?_; (conv => arg 6; simp only [Act.put, List.setIfInBounds_toArray, List.set_cons_succ, List.set_cons_zero]))
  (refine wpT_free (by rw [HO.out]; rfl) rfl (.inl ⟨rfl, fun w _ => by go_simp; rfl⟩) (by exact H.st (by (repeat (first | exact List.Sublist.refl _ | apply List.Sublist.cons_cons | apply List.Sublist.cons)))) ?_; (conv => arg 6; simp only [Act.put, List.setIfInBounds_toArray, List.set_cons_succ, List.set_cons_zero]))
  (refine wpT_free (by rw [HO.out]; rfl) rfl (.inl ⟨rfl, fun w _ => by go_simp; rfl⟩) (by exact H.st (by (repeat (first | exact List.Sublist.refl _ | apply List.Sublist.cons_cons | apply List.Sublist.cons)))) ?_; (conv => arg 6; simp only [Act.put, List.setIfInBounds_toArray, List.set_cons_succ, List.set_cons_zero]))
  (refine wpT_free (by rw [HO.out]; rfl) rfl (.inl ⟨rfl, fun w hw => run_ld1 Try.underlying23 rfl rfl rfl hw.2.1⟩) (by exact H.st (by (repeat (first | exact List.Sublist.refl _ | apply List.Sublist.cons_cons | apply List.Sublist.cons)))) ?_; (conv => arg 6; simp only [Act.put, List.setIfInBounds_toArray, List.set_cons_succ, List.set_cons_zero]))
  (refine wpT_free (by rw [HO.out]; rfl) rfl (.inl ⟨rfl, fun w _ => by go_simp; rfl⟩) (by exact H.st (by (repeat (first | exact List.Sublist.refl _ | apply List.Sublist.cons_cons | apply List.Sublist.cons)))) ?_; (conv => arg 6; simp only [Act.put, List.setIfInBounds_toArray, List.set_cons_succ, List.set_cons_zero]))
  (refine wpT_free (v := .pointer (some ⟨bv, 0, none⟩)) (by rw [HO.out]; rfl) rfl (.inl ⟨rfl, fun w _ => by go_simp; (try omega)⟩) (by exact H.st (by (repeat (first | exact List.Sublist.refl _ | apply List.Sublist.cons_cons | apply List.Sublist.cons)))) ?_; (conv => arg 6; simp only [Act.put, List.setIfInBounds_toArray, List.set_cons_succ, List.set_cons_zero]))
  (refine wpT_free (by rw [HO.out]; rfl) rfl (.inl ⟨rfl, fun w hw => run_ldK Try.underlying26 rfl rfl rfl (st_key (off := 0) hw HLK.out List.mem_cons_self HA.out rfl) (s26k HAK.out)⟩) (by exact H.st (by (repeat (first | exact List.Sublist.refl _ | apply List.Sublist.cons_cons | apply List.Sublist.cons)))) ?_; (conv => arg 6; simp only [Act.put, List.setIfInBounds_toArray, List.set_cons_succ, List.set_cons_zero]))
  (refine wpT_free (by rw [HO.out]; rfl) rfl (.inl ⟨rfl, fun w _ => by go_simp; rfl⟩) (by exact H.st (by (repeat (first | exact List.Sublist.refl _ | apply List.Sublist.cons_cons | apply List.Sublist.cons)))) ?_; (conv => arg 6; simp only [Act.put, List.setIfInBounds_toArray, List.set_cons_succ, List.set_cons_zero]))
  (refine wpT_free (v := .pointer (some ⟨bv, 32, none⟩)) (by rw [HO.out]; rfl) rfl (.inl ⟨rfl, fun w _ => by go_simp; (try omega)⟩) (by exact H.st (by (repeat (first | exact List.Sublist.refl _ | apply List.Sublist.cons_cons | apply List.Sublist.cons)))) ?_; (conv => arg 6; simp only [Act.put, List.setIfInBounds_toArray, List.set_cons_succ, List.set_cons_zero]))
  (refine wpT_free (by rw [HO.out]; rfl) rfl (.inl ⟨rfl, fun w hw => run_ldK Try.underlying26 rfl rfl rfl (st_key (off := 32) hw HLK.out List.mem_cons_self HB.out rfl) (s26k HBK.out)⟩) (by exact H.st (by (repeat (first | exact List.Sublist.refl _ | apply List.Sublist.cons_cons | apply List.Sublist.cons)))) ?_; (conv => arg 6; simp only [Act.put, List.setIfInBounds_toArray, List.set_cons_succ, List.set_cons_zero]))
  (refine wpT_free (by rw [HO.out]; rfl) rfl (.inl ⟨rfl, fun w _ => by go_simp; rfl⟩) (by exact H.st (by (repeat (first | exact List.Sublist.refl _ | apply List.Sublist.cons_cons | apply List.Sublist.cons)))) ?_; (conv => arg 6; simp only [Act.put, List.setIfInBounds_toArray, List.set_cons_succ, List.set_cons_zero]))
  (refine wpT_free (by rw [HO.out]; rfl) rfl (.inl ⟨rfl, fun w hw => run_ld1 Try.underlying9 rfl rfl rfl (st_cell hw (i := 2) (List.mem_cons_of_mem _ List.mem_cons_self) rfl)⟩) (by exact H.st (by (repeat (first | exact List.Sublist.refl _ | apply List.Sublist.cons_cons | apply List.Sublist.cons)))) ?_; (conv => arg 6; simp only [Act.put, List.setIfInBounds_toArray, List.set_cons_succ, List.set_cons_zero]))
  (refine wpT_free (by rw [HO.out]; rfl) rfl (.inl ⟨rfl, fun w _ => by go_simp; rfl⟩) (by exact H.st (by (repeat (first | exact List.Sublist.refl _ | apply List.Sublist.cons_cons | apply List.Sublist.cons)))) ?_; (conv => arg 6; simp only [Act.put, List.setIfInBounds_toArray, List.set_cons_succ, List.set_cons_zero]))
  (refine wpT_free (v := .slice (lowA (some ⟨bv, 0, none⟩) d 2 32) (l.length - 2) (d - 2)) (by rw [HO.out]; rfl) rfl (.inl ⟨rfl, fun w _ => run_slLow Try.underlying34 s26 rfl rfl (k := .i64) (l := 2) rfl (by decide) (by omega) hcap w⟩) (by exact H.st (by (repeat (first | exact List.Sublist.refl _ | apply List.Sublist.cons_cons | apply List.Sublist.cons)))) ?_; (conv => arg 6; simp only [Act.put, List.setIfInBounds_toArray, List.set_cons_succ, List.set_cons_zero]))
  refine wpT_op (by rw [HO.out]; rfl) ?_
  go_wp2_with (go_at_call 15; refine (SealT (potR_ok _ _ _ _) H HDL.out (by omega) HAK.out HBK.out HDK.out HDN.out (low_keys HLK.out (H.reb.vecT List.mem_cons_self) hcap) HVN.out (by omega)).mono ?_; clear H; rintro e wn ⟨rfl, H⟩)
  refine PlanTQ.mk (by exact H.st (by (repeat (first | exact List.Sublist.refl _ | apply List.Sublist.cons_cons | apply List.Sublist.cons)))) ?_
  refine wpT_op (by rw [HO.out]; rfl) ?_
  go_wp2_with (go_at_call 46; refine (MarkN _ (nm_ok _ _) _).mono ?_; rintro e wn ⟨rfl, M⟩; replace H := H.call0 (hP _).out M; clear M)
  refine PlanTQ.mk (by exact H.st (by (repeat (first | exact List.Sublist.refl _ | apply List.Sublist.cons_cons | apply List.Sublist.cons)))) ?_
  refine wpT_op (by rw [HO.out]; rfl) ?_
  go_wp2_with (refine wpF_bsK1 143 H (hP _).out rfl rfl rfl rfl (nm_ok _ _) (fun b143 wn Hn => ?_); clear H; rename TF _ _ _ _ _ => H; (conv => arg 5; simp only [Act.put, List.setIfInBounds_toArray, List.set_cons_succ, List.set_cons_zero]))
  refine PlanTQ.mk (by exact H.st (by (repeat (first | exact List.Sublist.refl _ | apply List.Sublist.cons_cons | apply List.Sublist.cons)))) ?_
  refine wpT_op (by rw [HO.out]; rfl) ?_
  go_wp2_with (refine (put72T (ks := [nm ts ⟨6, text, ka :: kb :: l.drop 2⟩]) H (one_ok (nm_ok _ _)) (H.reb.blkT (by (repeat (first | exact List.mem_cons_self | refine List.mem_cons_of_mem _ ?_)))) (by simp only [List.length_singleton]; omega)).mono ?_; clear H; rintro e wn ⟨rfl, H⟩)
  refine PlanTQ.mk (by exact H.st (by (repeat (first | exact List.Sublist.refl _ | apply List.Sublist.cons_cons | apply List.Sublist.cons)))) ?_
  refine wpT_done ?_
  rw [HQ.out]
  go_wp2_with fail
  go_end0
  exact CookR.put H rfl
end Go.Proofs.Ytcapfnbmmdbcoaa
namespace Go.Proofs.Ytcapfnbmmdbcoaa
open Go.RowKit
theorem AgreeTF {K0 : Nat → Prop} {Q : Res} (hQ : Ok Q) {w0 w : World} {L : List Item} {g : Nat} {ts : List Tm} (H : TF K0 (starR (tabR g ts) Q) w0 w L) {s p : List Int} (hw : ∀ t ∈ ts, TmW t) (hs : KeyOk s) (hp : KeyOk p) (hf : ts.length ≤ 900000) (hz : p ≠ zK) :
    Calls Try.prog 28 #[.pointer (some ⟨g, 0, none⟩), .agg (nums .u8 s).toArray, .agg (nums .u8 p).toArray] w fun e w' => IsKeyB (nm ts (agreeT ts s p)) true e ∧ TF K0 (starR (tabR g (putL ts (agreeT ts s p))) Q) w0 w' L :=
  (H.runL hQ (R := fun e L2 => IsKeyB (nm ts (agreeT ts s p)) true e ∧ L2 = []) fun K1 h1 hlt => (AgreeK h1 hw hs hp hf hz).mono fun e w' ⟨he, F⟩ => ⟨[], ⟨he, rfl⟩, TF.of F hlt⟩).mono fun e w' ⟨L2, ⟨he, hL⟩, F⟩ => ⟨he, by rw [hL] at F; exact F⟩
set_option maxRecDepth 100000 in
set_option maxHeartbeats 4000000 in
theorem step48_5a {K : Nat → Prop} {w : World} {p g : Nat} {ts : List Tm} {seen made : List (List Int)} {SA : Option Addr} {sc : Nat} {n : Int} {text : ByteArray} {keys raw : List Int} {I : Option Addr} {ic : Nat} (h : StepP K w p g ts seen made SA sc (⟨5, n, text, keys, raw⟩ : Ck) I ic) {l : List (List Int)} (hc : namedL made keys = some l) (hl : leastT 5 ≤ (l.length : Int)) (hz : l.getD 1 [] = zK) :
    Calls Try.prog 48 #[.pointer (some ⟨p, 0, none⟩), .agg (ckCells (⟨5, n, text, keys, raw⟩ : Ck) I ic).toArray] w (CookR K p g (.slice SA seen.length sc) made w (ts, [])) := by
  have H := TF.start h.res h.lt
  have HR := hid ((tabR_ok g ts).star (potR_ok p g (.slice SA seen.length sc) made))
  have hs := hid h
  have hn := hid (And.intro hc (decide_eq_true hl))
  clear h hc hl
  have hml := hs.out.ml
  have htl := hs.out.tl
  obtain ⟨hl10, hlk⟩ := hs.out.named hn.out.1
  have hl1 : 2 ≤ l.length := by have := of_decide_eq_true hn.out.2; simp [leastT] at this; omega
  have hl0 : ¬ l = [] := fun e => by rw [e] at hl1; simp at hl1
  have HA := hid (at_getD (l := l) (i := 0) (by omega))
  have HB := hid (at_getD (l := l) (i := 1) (by omega))
  obtain ⟨ka, ha⟩ : ∃ a, a = l.getD 0 [] := ⟨_, rfl⟩
  obtain ⟨kb, hb⟩ : ∃ a, a = l.getD 1 [] := ⟨_, rfl⟩
  rw [← ha] at HA
  rw [← hb] at HB hz
  subst hz
  have HAK := hid (hlk _ (List.mem_of_getElem? HA.out))
  have HBK := hid (hlk _ (List.mem_of_getElem? HB.out))
  have HLK := hid hlk
  clear hlk ha hb
  have HKL := hid (show zK.length = 32 from by decide)
  have hP := fun ts' => hid ((tabR_ok g ts').star (potR_ok p g (.slice SA seen.length sc) made))
  go_enter Try.func48, Try.ntmps48
  go_wp2_with (first | (refine wpF_bxC (cs := ckCells (⟨5, n, text, keys, raw⟩ : Ck) I ic) 3 H HR.out rfl rfl rfl rfl (fun b3 w1 H1 => ?_); clear H; (conv => arg 5; simp only [Act.put, List.setIfInBounds_toArray, List.set_cons_succ, List.set_cons_zero])) | (refine wpF_mkMap 12 H1 HR.out rfl rfl rfl (fun b12 w2 H2 => ?_); clear H1; (conv => arg 5; simp only [Act.put, List.setIfInBounds_toArray, List.set_cons_succ, List.set_cons_zero])) | (refine wpF_ins 0 4 1 (by kernel_rfl) rfl rfl H2 HR.out rfl rfl rfl rfl rfl Swap.head (fun w3 H3 => ?_); clear H2; (conv => arg 5; simp only [Act.put, List.setIfInBounds_toArray, List.set_cons_succ, List.set_cons_zero])) | (refine wpF_ins 1 5 2 (by kernel_rfl) rfl rfl H3 HR.out rfl rfl rfl rfl rfl Swap.head (fun w4 H4 => ?_); clear H3; (conv => arg 5; simp only [Act.put, List.setIfInBounds_toArray, List.set_cons_succ, List.set_cons_zero])) | (refine wpF_ins 2 6 2 (by kernel_rfl) rfl rfl H4 HR.out rfl rfl rfl rfl rfl Swap.head (fun w5 H5 => ?_); clear H4; (conv => arg 5; simp only [Act.put, List.setIfInBounds_toArray, List.set_cons_succ, List.set_cons_zero])) | (refine wpF_ins 3 7 3 (by kernel_rfl) rfl rfl H5 HR.out rfl rfl rfl rfl rfl Swap.head (fun w6 H6 => ?_); clear H5; have c0 := H6.cellC (List.mem_cons_of_mem _ List.mem_cons_self) 0 _ rfl; try dsimp only at c0; (conv => arg 5; simp only [Act.put, List.setIfInBounds_toArray, List.set_cons_succ, List.set_cons_zero])) | (refine wpList_ldagg 16 rfl Try.underlying55 rfl rfl rfl rfl (H6.cellC (List.mem_cons_of_mem _ List.mem_cons_self)) (sz55 hs.out.ck) ?_; (conv => arg 5; simp only [Act.put, List.setIfInBounds_toArray, List.set_cons_succ, List.set_cons_zero])) | (refine wpF_need 20 H6 rfl rfl rfl rfl rfl List.mem_cons_self ?_; (conv => arg 5; simp only [Act.put, List.setIfInBounds_toArray, List.set_cons_succ, List.set_cons_zero])) | (refine (named71S H6 hs.out.ml hs.out.ck (H6.rowC hs.out.ir hs.out.inn) hn.out).mono ?_; rintro e w7 ⟨B, d, rfl, M7⟩; have H7 := (H6.call HR.out M7).sub (L' := [.vec B l.length d 26 32 (nums .u8 l.flatten), .blk b3 (cellsO 55 (ckCells (⟨5, n, text, keys, raw⟩ : Ck) I ic))]) (by (repeat (first | exact List.Sublist.refl _ | apply List.Sublist.cons_cons | apply List.Sublist.cons))); clear H6 c0 M7; have c0 := H7.cellC (List.mem_cons_of_mem _ List.mem_cons_self) 0 _ rfl; try dsimp only at c0))
  obtain ⟨bv, rfl⟩ := H7.reb.vecB List.mem_cons_self (by omega)
  refine wp_region_planTF (PotC p g (.slice SA seen.length sc)) (.free 0 (.free 1 (.free 2 (.free 3 (.free 4 (.free 5 (.free 6 (.free 7 (.free 8 (.free 9 (.free 10 (.two 11 (.free 12 (.free 13 (.free 14 (.one 15 (.one 16 (.free 17 (.done))))))) 15 (.one 11 (.free 12 (.free 13 (.free 14 (.one 16 (.free 17 (.done))))))))))))))))))) (by kernel_rfl) (by kernel_rfl) (fun _ _ _ _ _ h => h) H7 HR.out ?_
  clear H7 c0
  intro ops Q HO HQ w8 H
  (refine wpT_free (by rw [HO.out]; rfl) rfl (.inl ⟨rfl, fun w _ => by go_simp; rfl⟩) (by exact H.st (by (repeat (first | exact List.Sublist.refl _ | apply List.Sublist.cons_cons | apply List.Sublist.cons)))) ?_; (conv => arg 6; simp only [Act.put, List.setIfInBounds_toArray, List.set_cons_succ, List.set_cons_zero]))
  (refine wpT_free (by rw [HO.out]; rfl) rfl (.inl ⟨rfl, fun w _ => by go_simp; rfl⟩) (by exact H.st (by (repeat (first | exact List.Sublist.refl _ | apply List.Sublist.cons_cons | apply List.Sublist.cons)))) ?_; (conv => arg 6; simp only [Act.put, List.setIfInBounds_toArray, List.set_cons_succ, List.set_cons_zero]))
  (refine wpT_free (by rw [HO.out]; rfl) rfl (.inl ⟨rfl, fun w _ => by go_simp; rfl⟩) (by exact H.st (by (repeat (first | exact List.Sublist.refl _ | apply List.Sublist.cons_cons | apply List.Sublist.cons)))) ?_; (conv => arg 6; simp only [Act.put, List.setIfInBounds_toArray, List.set_cons_succ, List.set_cons_zero]))
  (refine wpT_free (by rw [HO.out]; rfl) rfl (.inl ⟨rfl, fun w _ => by go_simp; rfl⟩) (by exact H.st (by (repeat (first | exact List.Sublist.refl _ | apply List.Sublist.cons_cons | apply List.Sublist.cons)))) ?_; (conv => arg 6; simp only [Act.put, List.setIfInBounds_toArray, List.set_cons_succ, List.set_cons_zero]))
  (refine wpT_free (by rw [HO.out]; rfl) rfl (.inl ⟨rfl, fun w hw => run_ld1 Try.underlying23 rfl rfl rfl hw.2.1⟩) (by exact H.st (by (repeat (first | exact List.Sublist.refl _ | apply List.Sublist.cons_cons | apply List.Sublist.cons)))) ?_; (conv => arg 6; simp only [Act.put, List.setIfInBounds_toArray, List.set_cons_succ, List.set_cons_zero]))
  (refine wpT_free (by rw [HO.out]; rfl) rfl (.inl ⟨rfl, fun w _ => by go_simp; rfl⟩) (by exact H.st (by (repeat (first | exact List.Sublist.refl _ | apply List.Sublist.cons_cons | apply List.Sublist.cons)))) ?_; (conv => arg 6; simp only [Act.put, List.setIfInBounds_toArray, List.set_cons_succ, List.set_cons_zero]))
  (refine wpT_free (v := .pointer (some ⟨bv, 0, none⟩)) (by rw [HO.out]; rfl) rfl (.inl ⟨rfl, fun w _ => by go_simp; (try omega)⟩) (by exact H.st (by (repeat (first | exact List.Sublist.refl _ | apply List.Sublist.cons_cons | apply List.Sublist.cons)))) ?_; (conv => arg 6; simp only [Act.put, List.setIfInBounds_toArray, List.set_cons_succ, List.set_cons_zero]))
  (refine wpT_free (by rw [HO.out]; rfl) rfl (.inl ⟨rfl, fun w hw => run_ldK Try.underlying26 rfl rfl rfl (st_key (off := 0) hw HLK.out List.mem_cons_self HA.out rfl) (s26k HAK.out)⟩) (by exact H.st (by (repeat (first | exact List.Sublist.refl _ | apply List.Sublist.cons_cons | apply List.Sublist.cons)))) ?_; (conv => arg 6; simp only [Act.put, List.setIfInBounds_toArray, List.set_cons_succ, List.set_cons_zero]))
  (refine wpT_free (by rw [HO.out]; rfl) rfl (.inl ⟨rfl, fun w _ => by go_simp; rfl⟩) (by exact H.st (by (repeat (first | exact List.Sublist.refl _ | apply List.Sublist.cons_cons | apply List.Sublist.cons)))) ?_; (conv => arg 6; simp only [Act.put, List.setIfInBounds_toArray, List.set_cons_succ, List.set_cons_zero]))
  (refine wpT_free (v := .pointer (some ⟨bv, 32, none⟩)) (by rw [HO.out]; rfl) rfl (.inl ⟨rfl, fun w _ => by go_simp; (try omega)⟩) (by exact H.st (by (repeat (first | exact List.Sublist.refl _ | apply List.Sublist.cons_cons | apply List.Sublist.cons)))) ?_; (conv => arg 6; simp only [Act.put, List.setIfInBounds_toArray, List.set_cons_succ, List.set_cons_zero]))
  (refine wpT_free (by rw [HO.out]; rfl) rfl (.inl ⟨rfl, fun w hw => run_ldK Try.underlying26 rfl rfl rfl (st_key (off := 32) hw HLK.out List.mem_cons_self HB.out rfl) (s26k HBK.out)⟩) (by exact H.st (by (repeat (first | exact List.Sublist.refl _ | apply List.Sublist.cons_cons | apply List.Sublist.cons)))) ?_; (conv => arg 6; simp only [Act.put, List.setIfInBounds_toArray, List.set_cons_succ, List.set_cons_zero]))
  refine wpT_two (by rw [HO.out]; rfl) (by rw [HO.out]; rfl) ?_ ?_
  · go_wp2_with (go_at_call 28; refine (Agree28z _ _ _ HAK.out).mono ?_; rintro e wn ⟨rfl, M⟩; replace H := H.call0 HR.out M; clear M)
    refine PlanTQ.mk (by exact H.st (by (repeat (first | exact List.Sublist.refl _ | apply List.Sublist.cons_cons | apply List.Sublist.cons)))) ?_
    (refine wpT_free (by rw [HO.out]; rfl) rfl (.inl ⟨rfl, fun w _ => by go_simp; rfl⟩) (by exact H.st (by (repeat (first | exact List.Sublist.refl _ | apply List.Sublist.cons_cons | apply List.Sublist.cons)))) ?_; (conv => arg 6; simp only [Act.put, List.setIfInBounds_toArray, List.set_cons_succ, List.set_cons_zero]))
    (refine wpT_free (by rw [HO.out]; rfl) rfl (.inl ⟨rfl, fun w _ => by go_simp; rfl⟩) (by exact H.st (by (repeat (first | exact List.Sublist.refl _ | apply List.Sublist.cons_cons | apply List.Sublist.cons)))) ?_; (conv => arg 6; simp only [Act.put, List.setIfInBounds_toArray, List.set_cons_succ, List.set_cons_zero]))
    (refine wpT_free (by rw [HO.out]; rfl) rfl (.inl ⟨rfl, fun w _ => by go_simp; rfl⟩) (by exact H.st (by (repeat (first | exact List.Sublist.refl _ | apply List.Sublist.cons_cons | apply List.Sublist.cons)))) ?_; (conv => arg 6; simp only [Act.put, List.setIfInBounds_toArray, List.set_cons_succ, List.set_cons_zero]))
    refine wpT_op (by rw [HO.out]; rfl) ?_
    go_wp2_with (refine wpF_al 7 H HR.out z26 rfl rfl rfl (fun b7 wn Hn => ?_); clear H; rename TF _ _ _ _ _ => H; (conv => arg 5; simp only [Act.put, List.setIfInBounds_toArray, List.set_cons_succ, List.set_cons_zero]))
    refine PlanTQ.mk (by exact H.st (by (repeat (first | exact List.Sublist.refl _ | apply List.Sublist.cons_cons | apply List.Sublist.cons)))) ?_
    refine wpT_op (by rw [HO.out]; rfl) ?_
    go_wp2_with (refine wpF_st0 (ys := zK) rfl H HR.out s26 rfl rfl rfl rfl (by (repeat (first | exact Swap.head | apply Swap.tail))) (by simp) HKL.out (fun wn Hn => ?_); clear H; rename TF _ _ _ _ _ => H; (try (conv => arg 5; simp only [Act.put, List.setIfInBounds_toArray, List.set_cons_succ, List.set_cons_zero])))
    refine PlanTQ.mk (by exact H.st (by (repeat (first | exact List.Sublist.refl _ | apply List.Sublist.cons_cons | apply List.Sublist.cons)))) ?_
    (refine wpT_free (by rw [HO.out]; rfl) rfl (.inl ⟨rfl, fun w _ => by go_simp; rfl⟩) (by exact H.st (by (repeat (first | exact List.Sublist.refl _ | apply List.Sublist.cons_cons | apply List.Sublist.cons)))) ?_; (conv => arg 6; simp only [Act.put, List.setIfInBounds_toArray, List.set_cons_succ, List.set_cons_zero]))
    refine wpT_done ?_
    rw [HQ.out]
    go_wp2_with fail
    go_end0
    exact CookR.none H
  · go_wp2_with (refine wpF_al 7 H HR.out z26 rfl rfl rfl (fun b7 wn Hn => ?_); clear H; rename TF _ _ _ _ _ => H; (conv => arg 5; simp only [Act.put, List.setIfInBounds_toArray, List.set_cons_succ, List.set_cons_zero]))
    refine PlanTQ.mk (by exact H.st (by (repeat (first | exact List.Sublist.refl _ | apply List.Sublist.cons_cons | apply List.Sublist.cons)))) ?_
    refine wpT_op (by rw [HO.out]; rfl) ?_
    go_wp2_with (go_at_call 28; refine (Agree28z _ _ _ HAK.out).mono ?_; rintro e wn ⟨rfl, M⟩; replace H := H.call0 HR.out M; clear M)
    refine PlanTQ.mk (by exact H.st (by (repeat (first | exact List.Sublist.refl _ | apply List.Sublist.cons_cons | apply List.Sublist.cons)))) ?_
    (refine wpT_free (by rw [HO.out]; rfl) rfl (.inl ⟨rfl, fun w _ => by go_simp; rfl⟩) (by exact H.st (by (repeat (first | exact List.Sublist.refl _ | apply List.Sublist.cons_cons | apply List.Sublist.cons)))) ?_; (conv => arg 6; simp only [Act.put, List.setIfInBounds_toArray, List.set_cons_succ, List.set_cons_zero]))
    (refine wpT_free (by rw [HO.out]; rfl) rfl (.inl ⟨rfl, fun w _ => by go_simp; rfl⟩) (by exact H.st (by (repeat (first | exact List.Sublist.refl _ | apply List.Sublist.cons_cons | apply List.Sublist.cons)))) ?_; (conv => arg 6; simp only [Act.put, List.setIfInBounds_toArray, List.set_cons_succ, List.set_cons_zero]))
    (refine wpT_free (by rw [HO.out]; rfl) rfl (.inl ⟨rfl, fun w _ => by go_simp; rfl⟩) (by exact H.st (by (repeat (first | exact List.Sublist.refl _ | apply List.Sublist.cons_cons | apply List.Sublist.cons)))) ?_; (conv => arg 6; simp only [Act.put, List.setIfInBounds_toArray, List.set_cons_succ, List.set_cons_zero]))
    refine wpT_op (by rw [HO.out]; rfl) ?_
    go_wp2_with (refine wpF_st0 (ys := zK) rfl H HR.out s26 rfl rfl rfl rfl (by (repeat (first | exact Swap.head | apply Swap.tail))) (by simp) HKL.out (fun wn Hn => ?_); clear H; rename TF _ _ _ _ _ => H; (try (conv => arg 5; simp only [Act.put, List.setIfInBounds_toArray, List.set_cons_succ, List.set_cons_zero])))
    refine PlanTQ.mk (by exact H.st (by (repeat (first | exact List.Sublist.refl _ | apply List.Sublist.cons_cons | apply List.Sublist.cons)))) ?_
    (refine wpT_free (by rw [HO.out]; rfl) rfl (.inl ⟨rfl, fun w _ => by go_simp; rfl⟩) (by exact H.st (by (repeat (first | exact List.Sublist.refl _ | apply List.Sublist.cons_cons | apply List.Sublist.cons)))) ?_; (conv => arg 6; simp only [Act.put, List.setIfInBounds_toArray, List.set_cons_succ, List.set_cons_zero]))
    refine wpT_done ?_
    rw [HQ.out]
    go_wp2_with fail
    go_end0
    exact CookR.none H
set_option maxRecDepth 100000 in
set_option maxHeartbeats 4000000 in
theorem step48_5b {K : Nat → Prop} {w : World} {p g : Nat} {ts : List Tm} {seen made : List (List Int)} {SA : Option Addr} {sc : Nat} {n : Int} {text : ByteArray} {keys raw : List Int} {I : Option Addr} {ic : Nat} (h : StepP K w p g ts seen made SA sc (⟨5, n, text, keys, raw⟩ : Ck) I ic) {l : List (List Int)} (hc : namedL made keys = some l) (hl : leastT 5 ≤ (l.length : Int)) (hz : ¬ l.getD 1 [] = zK) :
    Calls Try.prog 48 #[.pointer (some ⟨p, 0, none⟩), .agg (ckCells (⟨5, n, text, keys, raw⟩ : Ck) I ic).toArray] w (CookR K p g (.slice SA seen.length sc) made w (putN ts (agreeT ts (l.getD 0 []) (l.getD 1 [])))) := by
  have H := TF.start h.res h.lt
  have HR := hid ((tabR_ok g ts).star (potR_ok p g (.slice SA seen.length sc) made))
  have hs := hid h
  have hn := hid (And.intro hc (decide_eq_true hl))
  clear h hc hl
  have hml := hs.out.ml
  have htl := hs.out.tl
  obtain ⟨hl10, hlk⟩ := hs.out.named hn.out.1
  have hl1 : 2 ≤ l.length := by have := of_decide_eq_true hn.out.2; simp [leastT] at this; omega
  have hl0 : ¬ l = [] := fun e => by rw [e] at hl1; simp at hl1
  have HA := hid (at_getD (l := l) (i := 0) (by omega))
  have HB := hid (at_getD (l := l) (i := 1) (by omega))
  obtain ⟨ka, ha⟩ : ∃ a, a = l.getD 0 [] := ⟨_, rfl⟩
  obtain ⟨kb, hb⟩ : ∃ a, a = l.getD 1 [] := ⟨_, rfl⟩
  rw [← ha] at HA ⊢
  rw [← hb] at HB hz ⊢
  have HAK := hid (hlk _ (List.mem_of_getElem? HA.out))
  have HBK := hid (hlk _ (List.mem_of_getElem? HB.out))
  have HLK := hid hlk
  have HZ := hid hz
  clear hlk ha hb hz
  have HKL := hid (nm_ok ts (agreeT ts ka kb)).1
  have hP := fun ts' => hid ((tabR_ok g ts').star (potR_ok p g (.slice SA seen.length sc) made))
  go_enter Try.func48, Try.ntmps48
  go_wp2_with (first | (refine wpF_bxC (cs := ckCells (⟨5, n, text, keys, raw⟩ : Ck) I ic) 3 H HR.out rfl rfl rfl rfl (fun b3 w1 H1 => ?_); clear H; (conv => arg 5; simp only [Act.put, List.setIfInBounds_toArray, List.set_cons_succ, List.set_cons_zero])) | (refine wpF_mkMap 12 H1 HR.out rfl rfl rfl (fun b12 w2 H2 => ?_); clear H1; (conv => arg 5; simp only [Act.put, List.setIfInBounds_toArray, List.set_cons_succ, List.set_cons_zero])) | (refine wpF_ins 0 4 1 (by kernel_rfl) rfl rfl H2 HR.out rfl rfl rfl rfl rfl Swap.head (fun w3 H3 => ?_); clear H2; (conv => arg 5; simp only [Act.put, List.setIfInBounds_toArray, List.set_cons_succ, List.set_cons_zero])) | (refine wpF_ins 1 5 2 (by kernel_rfl) rfl rfl H3 HR.out rfl rfl rfl rfl rfl Swap.head (fun w4 H4 => ?_); clear H3; (conv => arg 5; simp only [Act.put, List.setIfInBounds_toArray, List.set_cons_succ, List.set_cons_zero])) | (refine wpF_ins 2 6 2 (by kernel_rfl) rfl rfl H4 HR.out rfl rfl rfl rfl rfl Swap.head (fun w5 H5 => ?_); clear H4; (conv => arg 5; simp only [Act.put, List.setIfInBounds_toArray, List.set_cons_succ, List.set_cons_zero])) | (refine wpF_ins 3 7 3 (by kernel_rfl) rfl rfl H5 HR.out rfl rfl rfl rfl rfl Swap.head (fun w6 H6 => ?_); clear H5; have c0 := H6.cellC (List.mem_cons_of_mem _ List.mem_cons_self) 0 _ rfl; try dsimp only at c0; (conv => arg 5; simp only [Act.put, List.setIfInBounds_toArray, List.set_cons_succ, List.set_cons_zero])) | (refine wpList_ldagg 16 rfl Try.underlying55 rfl rfl rfl rfl (H6.cellC (List.mem_cons_of_mem _ List.mem_cons_self)) (sz55 hs.out.ck) ?_; (conv => arg 5; simp only [Act.put, List.setIfInBounds_toArray, List.set_cons_succ, List.set_cons_zero])) | (refine wpF_need 20 H6 rfl rfl rfl rfl rfl List.mem_cons_self ?_; (conv => arg 5; simp only [Act.put, List.setIfInBounds_toArray, List.set_cons_succ, List.set_cons_zero])) | (refine (named71S H6 hs.out.ml hs.out.ck (H6.rowC hs.out.ir hs.out.inn) hn.out).mono ?_; rintro e w7 ⟨B, d, rfl, M7⟩; have H7 := (H6.call HR.out M7).sub (L' := [.vec B l.length d 26 32 (nums .u8 l.flatten), .blk b3 (cellsO 55 (ckCells (⟨5, n, text, keys, raw⟩ : Ck) I ic))]) (by (repeat (first | exact List.Sublist.refl _ | apply List.Sublist.cons_cons | apply List.Sublist.cons))); clear H6 c0 M7; have c0 := H7.cellC (List.mem_cons_of_mem _ List.mem_cons_self) 0 _ rfl; try dsimp only at c0))
  obtain ⟨bv, rfl⟩ := H7.reb.vecB List.mem_cons_self (by omega)
  refine wp_region_planTF (PotC p g (.slice SA seen.length sc)) (.free 0 (.free 1 (.free 2 (.free 3 (.free 4 (.free 5 (.free 6 (.free 7 (.free 8 (.free 9 (.free 10 (.two 11 (.free 12 (.free 13 (.free 14 (.one 15 (.one 16 (.free 17 (.done))))))) 15 (.one 11 (.free 12 (.free 13 (.free 14 (.one 16 (.free 17 (.done))))))))))))))))))) (by kernel_rfl) (by kernel_rfl) (fun _ _ _ _ _ h => h) H7 HR.out ?_
  clear H7 c0
  intro ops Q HO HQ w8 H
  (refine wpT_free (by rw [HO.out]; rfl) rfl (.inl ⟨rfl, fun w _ => by go_simp; rfl⟩) (by exact H.st (by (repeat (first | exact List.Sublist.refl _ | apply List.Sublist.cons_cons | apply List.Sublist.cons)))) ?_; (conv => arg 6; simp only [Act.put, List.setIfInBounds_toArray, List.set_cons_succ, List.set_cons_zero]))
  (refine wpT_free (by rw [HO.out]; rfl) rfl (.inl ⟨rfl, fun w _ => by go_simp; rfl⟩) (by exact H.st (by (repeat (first | exact List.Sublist.refl _ | apply List.Sublist.cons_cons | apply List.Sublist.cons)))) ?_; (conv => arg 6; simp only [Act.put, List.setIfInBounds_toArray, List.set_cons_succ, List.set_cons_zero]))
  (refine wpT_free (by rw [HO.out]; rfl) rfl (.inl ⟨rfl, fun w _ => by go_simp; rfl⟩) (by exact H.st (by (repeat (first | exact List.Sublist.refl _ | apply List.Sublist.cons_cons | apply List.Sublist.cons)))) ?_; (conv => arg 6; simp only [Act.put, List.setIfInBounds_toArray, List.set_cons_succ, List.set_cons_zero]))
  (refine wpT_free (by rw [HO.out]; rfl) rfl (.inl ⟨rfl, fun w _ => by go_simp; rfl⟩) (by exact H.st (by (repeat (first | exact List.Sublist.refl _ | apply List.Sublist.cons_cons | apply List.Sublist.cons)))) ?_; (conv => arg 6; simp only [Act.put, List.setIfInBounds_toArray, List.set_cons_succ, List.set_cons_zero]))
  (refine wpT_free (by rw [HO.out]; rfl) rfl (.inl ⟨rfl, fun w hw => run_ld1 Try.underlying23 rfl rfl rfl hw.2.1⟩) (by exact H.st (by (repeat (first | exact List.Sublist.refl _ | apply List.Sublist.cons_cons | apply List.Sublist.cons)))) ?_; (conv => arg 6; simp only [Act.put, List.setIfInBounds_toArray, List.set_cons_succ, List.set_cons_zero]))
  (refine wpT_free (by rw [HO.out]; rfl) rfl (.inl ⟨rfl, fun w _ => by go_simp; rfl⟩) (by exact H.st (by (repeat (first | exact List.Sublist.refl _ | apply List.Sublist.cons_cons | apply List.Sublist.cons)))) ?_; (conv => arg 6; simp only [Act.put, List.setIfInBounds_toArray, List.set_cons_succ, List.set_cons_zero]))
  (refine wpT_free (v := .pointer (some ⟨bv, 0, none⟩)) (by rw [HO.out]; rfl) rfl (.inl ⟨rfl, fun w _ => by go_simp; (try omega)⟩) (by exact H.st (by (repeat (first | exact List.Sublist.refl _ | apply List.Sublist.cons_cons | apply List.Sublist.cons)))) ?_; (conv => arg 6; simp only [Act.put, List.setIfInBounds_toArray, List.set_cons_succ, List.set_cons_zero]))
  (refine wpT_free (by rw [HO.out]; rfl) rfl (.inl ⟨rfl, fun w hw => run_ldK Try.underlying26 rfl rfl rfl (st_key (off := 0) hw HLK.out List.mem_cons_self HA.out rfl) (s26k HAK.out)⟩) (by exact H.st (by (repeat (first | exact List.Sublist.refl _ | apply List.Sublist.cons_cons | apply List.Sublist.cons)))) ?_; (conv => arg 6; simp only [Act.put, List.setIfInBounds_toArray, List.set_cons_succ, List.set_cons_zero]))
  (refine wpT_free (by rw [HO.out]; rfl) rfl (.inl ⟨rfl, fun w _ => by go_simp; rfl⟩) (by exact H.st (by (repeat (first | exact List.Sublist.refl _ | apply List.Sublist.cons_cons | apply List.Sublist.cons)))) ?_; (conv => arg 6; simp only [Act.put, List.setIfInBounds_toArray, List.set_cons_succ, List.set_cons_zero]))
  (refine wpT_free (v := .pointer (some ⟨bv, 32, none⟩)) (by rw [HO.out]; rfl) rfl (.inl ⟨rfl, fun w _ => by go_simp; (try omega)⟩) (by exact H.st (by (repeat (first | exact List.Sublist.refl _ | apply List.Sublist.cons_cons | apply List.Sublist.cons)))) ?_; (conv => arg 6; simp only [Act.put, List.setIfInBounds_toArray, List.set_cons_succ, List.set_cons_zero]))
  (refine wpT_free (by rw [HO.out]; rfl) rfl (.inl ⟨rfl, fun w hw => run_ldK Try.underlying26 rfl rfl rfl (st_key (off := 32) hw HLK.out List.mem_cons_self HB.out rfl) (s26k HBK.out)⟩) (by exact H.st (by (repeat (first | exact List.Sublist.refl _ | apply List.Sublist.cons_cons | apply List.Sublist.cons)))) ?_; (conv => arg 6; simp only [Act.put, List.setIfInBounds_toArray, List.set_cons_succ, List.set_cons_zero]))
  refine wpT_two (by rw [HO.out]; rfl) (by rw [HO.out]; rfl) ?_ ?_
  · go_wp2_with (go_at_call 28; refine (AgreeTF (potR_ok _ _ _ _) H hs.out.tw HAK.out HBK.out (by omega) HZ.out).mono ?_; clear H; rintro e wn ⟨rfl, H⟩)
    refine PlanTQ.mk (by exact H.st (by (repeat (first | exact List.Sublist.refl _ | apply List.Sublist.cons_cons | apply List.Sublist.cons)))) ?_
    (refine wpT_free (by rw [HO.out]; rfl) rfl (.inl ⟨rfl, fun w _ => by go_simp; rfl⟩) (by exact H.st (by (repeat (first | exact List.Sublist.refl _ | apply List.Sublist.cons_cons | apply List.Sublist.cons)))) ?_; (conv => arg 6; simp only [Act.put, List.setIfInBounds_toArray, List.set_cons_succ, List.set_cons_zero]))
    (refine wpT_free (by rw [HO.out]; rfl) rfl (.inl ⟨rfl, fun w _ => by go_simp; rfl⟩) (by exact H.st (by (repeat (first | exact List.Sublist.refl _ | apply List.Sublist.cons_cons | apply List.Sublist.cons)))) ?_; (conv => arg 6; simp only [Act.put, List.setIfInBounds_toArray, List.set_cons_succ, List.set_cons_zero]))
    (refine wpT_free (by rw [HO.out]; rfl) rfl (.inl ⟨rfl, fun w _ => by go_simp; rfl⟩) (by exact H.st (by (repeat (first | exact List.Sublist.refl _ | apply List.Sublist.cons_cons | apply List.Sublist.cons)))) ?_; (conv => arg 6; simp only [Act.put, List.setIfInBounds_toArray, List.set_cons_succ, List.set_cons_zero]))
    refine wpT_op (by rw [HO.out]; rfl) ?_
    go_wp2_with (refine wpF_al 7 H (hP _).out z26 rfl rfl rfl (fun b7 wn Hn => ?_); clear H; rename TF _ _ _ _ _ => H; (conv => arg 5; simp only [Act.put, List.setIfInBounds_toArray, List.set_cons_succ, List.set_cons_zero]))
    refine PlanTQ.mk (by exact H.st (by (repeat (first | exact List.Sublist.refl _ | apply List.Sublist.cons_cons | apply List.Sublist.cons)))) ?_
    refine wpT_op (by rw [HO.out]; rfl) ?_
    go_wp2_with (refine wpF_st0 (ys := nm ts (agreeT ts ka kb)) rfl H (hP _).out s26 rfl rfl rfl rfl (by (repeat (first | exact Swap.head | apply Swap.tail))) (by simp) HKL.out (fun wn Hn => ?_); clear H; rename TF _ _ _ _ _ => H; (try (conv => arg 5; simp only [Act.put, List.setIfInBounds_toArray, List.set_cons_succ, List.set_cons_zero])))
    refine PlanTQ.mk (by exact H.st (by (repeat (first | exact List.Sublist.refl _ | apply List.Sublist.cons_cons | apply List.Sublist.cons)))) ?_
    (refine wpT_free (by rw [HO.out]; rfl) rfl (.inl ⟨rfl, fun w _ => by go_simp; rfl⟩) (by exact H.st (by (repeat (first | exact List.Sublist.refl _ | apply List.Sublist.cons_cons | apply List.Sublist.cons)))) ?_; (conv => arg 6; simp only [Act.put, List.setIfInBounds_toArray, List.set_cons_succ, List.set_cons_zero]))
    refine wpT_done ?_
    rw [HQ.out]
    go_wp2_with (first | (refine wpF_ld H Try.underlying26 s26 rfl rfl rfl rfl (by (repeat (first | exact List.mem_cons_self | refine List.mem_cons_of_mem _ ?_))) (by exact HKL.out) ?_; (conv => arg 5; simp only [Act.put, List.setIfInBounds_toArray, List.set_cons_succ, List.set_cons_zero])) | (refine wpF_bsK1 116 H (hP _).out rfl rfl rfl rfl (nm_ok _ _) (fun b116 wn Hn => ?_); clear H; rename TF _ _ _ _ _ => H; (conv => arg 5; simp only [Act.put, List.setIfInBounds_toArray, List.set_cons_succ, List.set_cons_zero])) | (refine (put72T (ks := [nm ts (agreeT ts ka kb)]) H (one_ok (nm_ok _ _)) (H.reb.blkT (by (repeat (first | exact List.mem_cons_self | refine List.mem_cons_of_mem _ ?_)))) (by simp only [List.length_singleton]; omega)).mono ?_; clear H; rintro e wn ⟨rfl, H⟩))
    go_end0
    exact CookR.put H rfl
  · go_wp2_with (refine wpF_al 7 H HR.out z26 rfl rfl rfl (fun b7 wn Hn => ?_); clear H; rename TF _ _ _ _ _ => H; (conv => arg 5; simp only [Act.put, List.setIfInBounds_toArray, List.set_cons_succ, List.set_cons_zero]))
    refine PlanTQ.mk (by exact H.st (by (repeat (first | exact List.Sublist.refl _ | apply List.Sublist.cons_cons | apply List.Sublist.cons)))) ?_
    refine wpT_op (by rw [HO.out]; rfl) ?_
    go_wp2_with (go_at_call 28; refine (AgreeTF (potR_ok _ _ _ _) H hs.out.tw HAK.out HBK.out (by omega) HZ.out).mono ?_; clear H; rintro e wn ⟨rfl, H⟩)
    refine PlanTQ.mk (by exact H.st (by (repeat (first | exact List.Sublist.refl _ | apply List.Sublist.cons_cons | apply List.Sublist.cons)))) ?_
    (refine wpT_free (by rw [HO.out]; rfl) rfl (.inl ⟨rfl, fun w _ => by go_simp; rfl⟩) (by exact H.st (by (repeat (first | exact List.Sublist.refl _ | apply List.Sublist.cons_cons | apply List.Sublist.cons)))) ?_; (conv => arg 6; simp only [Act.put, List.setIfInBounds_toArray, List.set_cons_succ, List.set_cons_zero]))
    (refine wpT_free (by rw [HO.out]; rfl) rfl (.inl ⟨rfl, fun w _ => by go_simp; rfl⟩) (by exact H.st (by (repeat (first | exact List.Sublist.refl _ | apply List.Sublist.cons_cons | apply List.Sublist.cons)))) ?_; (conv => arg 6; simp only [Act.put, List.setIfInBounds_toArray, List.set_cons_succ, List.set_cons_zero]))
    (refine wpT_free (by rw [HO.out]; rfl) rfl (.inl ⟨rfl, fun w _ => by go_simp; rfl⟩) (by exact H.st (by (repeat (first | exact List.Sublist.refl _ | apply List.Sublist.cons_cons | apply List.Sublist.cons)))) ?_; (conv => arg 6; simp only [Act.put, List.setIfInBounds_toArray, List.set_cons_succ, List.set_cons_zero]))
    refine wpT_op (by rw [HO.out]; rfl) ?_
    go_wp2_with (refine wpF_st0 (ys := nm ts (agreeT ts ka kb)) rfl H (hP _).out s26 rfl rfl rfl rfl (by (repeat (first | exact Swap.head | apply Swap.tail))) (by simp) HKL.out (fun wn Hn => ?_); clear H; rename TF _ _ _ _ _ => H; (try (conv => arg 5; simp only [Act.put, List.setIfInBounds_toArray, List.set_cons_succ, List.set_cons_zero])))
    refine PlanTQ.mk (by exact H.st (by (repeat (first | exact List.Sublist.refl _ | apply List.Sublist.cons_cons | apply List.Sublist.cons)))) ?_
    (refine wpT_free (by rw [HO.out]; rfl) rfl (.inl ⟨rfl, fun w _ => by go_simp; rfl⟩) (by exact H.st (by (repeat (first | exact List.Sublist.refl _ | apply List.Sublist.cons_cons | apply List.Sublist.cons)))) ?_; (conv => arg 6; simp only [Act.put, List.setIfInBounds_toArray, List.set_cons_succ, List.set_cons_zero]))
    refine wpT_done ?_
    rw [HQ.out]
    go_wp2_with (first | (refine wpF_ld H Try.underlying26 s26 rfl rfl rfl rfl (by (repeat (first | exact List.mem_cons_self | refine List.mem_cons_of_mem _ ?_))) (by exact HKL.out) ?_; (conv => arg 5; simp only [Act.put, List.setIfInBounds_toArray, List.set_cons_succ, List.set_cons_zero])) | (refine wpF_bsK1 116 H (hP _).out rfl rfl rfl rfl (nm_ok _ _) (fun b116 wn Hn => ?_); clear H; rename TF _ _ _ _ _ => H; (conv => arg 5; simp only [Act.put, List.setIfInBounds_toArray, List.set_cons_succ, List.set_cons_zero])) | (refine (put72T (ks := [nm ts (agreeT ts ka kb)]) H (one_ok (nm_ok _ _)) (H.reb.blkT (by (repeat (first | exact List.mem_cons_self | refine List.mem_cons_of_mem _ ?_)))) (by simp only [List.length_singleton]; omega)).mono ?_; clear H; rintro e wn ⟨rfl, H⟩))
    go_end0
    exact CookR.put H rfl
end Go.Proofs.Ytcapfnbmmdbcoaa
namespace Go.Proofs.Ytcapfnbmmdbcoaa
open Go.RowKit
theorem step48 {K : Nat → Prop} {w : World} {p g : Nat} {ts : List Tm} {seen made : List (List Int)} {SA : Option Addr} {sc : Nat} {c : Ck} {I : Option Addr} {ic : Nat} (h : StepP K w p g ts seen made SA sc c I ic) :
    Calls Try.prog 48 #[.pointer (some ⟨p, 0, none⟩), .agg (ckCells c I ic).toArray] w (CookR K p g (.slice SA seen.length sc) made w (cookT ts seen made c)) := by
  unfold cookT
  cases hc : namedL made c.keys with
  | none => exact step48_a h (fun l hl => by rw [hc] at hl; cases hl)
  | some l =>
    by_cases hl : leastT c.kind ≤ (l.length : Int)
    · simp only [if_pos hl]
      obtain ⟨kind, n, text, keys, raw⟩ := c
      unfold cookKind
      simp only [] at hc hl ⊢
      by_cases h1 : kind = 1
      · subst h1
        rw [if_pos rfl]
        by_cases hin : inR seen n = true
        · rw [if_pos hin]; exact step48_1c h hc hl hin
        · rw [if_neg hin]
          by_cases h0 : n < 0
          · exact step48_1a h hc hl h0
          · refine step48_1b h hc hl (by omega) ?_
            simp only [inR, Bool.and_eq_true, decide_eq_true_eq] at hin
            omega
      rw [if_neg h1]
      by_cases h2 : kind = 2
      · subst h2; rw [if_pos rfl]; exact step48_2 h hc hl
      rw [if_neg h2]
      by_cases h3 : kind = 3
      · subst h3; rw [if_pos rfl]; exact step48_3 h hc hl
      rw [if_neg h3]
      by_cases h4 : kind = 4
      · subst h4; rw [if_pos rfl]; exact step48_4 h hc hl
      rw [if_neg h4]
      by_cases h5 : kind = 5
      · subst h5
        rw [if_pos rfl]
        by_cases hz : l.getD 1 [] = zK
        · rw [if_pos hz]; exact step48_5a h hc hl hz
        · rw [if_neg hz]; exact step48_5b h hc hl hz
      rw [if_neg h5]
      by_cases h6 : kind = 6
      · subst h6; rw [if_pos rfl]; exact step48_6 h hc hl
      rw [if_neg h6]
      by_cases h7 : kind = 7
      · subst h7
        rw [if_pos rfl]
        cases ho : openM ts (l.getD 0 []) (l.getD 1 []) (strOfNums (l.getD 2 [])) with
        | none => exact step48_7a h hc hl ho
        | some r => obtain ⟨x, ks⟩ := r; exact step48_7b h hc hl ho
      rw [if_neg h7]
      by_cases h8 : kind = 8
      · subst h8; rw [if_pos rfl]; exact step48_8 h hc hl
      rw [if_neg h8]
      exact step48_x h hc hl h1 h2 h3 h4 h5 h6 h7 h8
    · simp only [if_neg hl]
      exact step48_a h (fun l' hl' => by rw [hc] at hl'; injection hl' with hl'; subst hl'; exact hl)
end Go.Proofs.Ytcapfnbmmdbcoaa
