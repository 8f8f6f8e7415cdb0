/- Frames: what they show, plainly; is an operation great. -/
import Derived.Test.YtcapfnbmmdbcoaaFB
import Derived.Test.YtcapfnbmmdbcoaaHD
set_option linter.unusedVariables false
set_option linter.unusedSimpArgs false
namespace Go.Proofs.Ytcapfnbmmdbcoaa
open Go.RowKit
/-- A box as a key: its name, the table then. -/
def markN (ts : List Tm) (s : ByteArray) : List Int := if s.size = 32 then bytesOf s else nm ts ⟨2, boxS s, []⟩
def markL (ts : List Tm) (s : ByteArray) : List Tm := if s.size = 32 then ts else putL ts ⟨2, boxS s, []⟩
theorem markN_ok (ts : List Tm) (s : ByteArray) : KeyOk (markN ts s) := by
  unfold markN
  split
  · rename_i h; exact ⟨by rw [bytesOf_length, h], bytesOf_all s⟩
  · exact nm_ok _ _

/-! ### Frames -/
structure Bx where
  to_ : Int
  pub : List Int
  n : Int
  prev : Int
  body : ByteArray
structure Fr where
  kind : Int
  from_ : Int
  author : Int
  seq : Int
  parents : List (List Int)
  okind : Int
  who : Nat
  of_ : List Int
  check : List Int
  text : ByteArray
  boxes : List Bx
  ids : List (List Int)
/-- Where a frame's rows lie. -/
structure Fx where
  ip : Option Addr
  iw : Option Addr
  ib : Option Addr
  ii : Option Addr
  cp : Nat
  cw : Nat
  cb : Nat
  ci : Nat
def bxCells (b : Bx) : List Value := [.int .i64 b.to_] ++ nums .u8 b.pub ++ [.int .u32 b.n, .int .u32 b.prev, .string b.body]
def opCells (f : Fr) (a : Fx) : List Value := [.int .i64 f.author, .int .u32 f.seq, .slice a.ip f.parents.length a.cp, .int .i64 f.okind, .slice a.iw f.who a.cw] ++ nums .u8 f.of_ ++ nums .u8 f.check ++ [.string f.text, .slice a.ib f.boxes.length a.cb]
def frCells (f : Fr) (a : Fx) : List Value := [.int .i64 f.kind, .int .i64 f.from_] ++ opCells f a ++ [.slice a.ii f.ids.length a.ci]
structure FrOk (f : Fr) : Prop where
  par : ∀ k ∈ f.parents, KeyOk k
  of_ : KeyOk f.of_
  check : KeyOk f.check
  pub : ∀ b ∈ f.boxes, KeyOk b.pub
  ids : ∀ k ∈ f.ids, KeyOk k
/-- A frame's rows, read. -/
structure FrR (w : World) (f : Fr) (a : Fx) : Prop where
  par : RowC w a.ip (nums .u8 f.parents.flatten)
  pn : a.ip = none → a.cp = 0
  box : ∀ (i : Nat) (b : Bx), f.boxes[i]? = some b → ∃ bb off, a.ib = some ⟨bb, off, none⟩ ∧ ∀ (j : Nat) (v : Value), (bxCells b)[j]? = some v → w.cell? ⟨bb, off + i * 36 + j, none⟩ = some v
  ids : RowC w a.ii (nums .u8 f.ids.flatten)
theorem FrR.mem {w0 w : World} {f : Fr} {a : Fx} {L : List Item} (h : FrR w0 f a) (M : Mem w0 [] w L) : FrR w f a :=
  ⟨h.par.mem M, h.pn, fun i b hi => by
    obtain ⟨bb, off, e, hc⟩ := h.box i b hi
    exact ⟨bb, off, e, M.cells0 hc⟩, h.ids.mem M⟩
section
variable {f : Fr} {a : Fx} {b : Bx}
theorem op_len (h : FrOk f) : (opCells f a).length = 71 := by
  simp only [opCells, List.length_append, nums_length, h.of_.1, h.check.1, List.length_cons, List.length_nil]
theorem op_of (h : FrOk f) {j : Nat} {v : Value} (hv : (nums .u8 f.of_)[j]? = some v) : (opCells f a)[5 + j]? = some v := by
  have hj := (List.getElem?_eq_some_iff.1 hv).1
  rw [nums_length, h.of_.1] at hj
  unfold opCells
  rw [List.getElem?_append_left (by simp only [List.length_append, nums_length, h.of_.1, h.check.1, List.length_cons, List.length_nil]; omega), List.getElem?_append_left (by simp only [List.length_append, nums_length, h.of_.1, List.length_cons, List.length_nil]; omega), List.getElem?_append_right (by simp only [List.length_cons, List.length_nil]; omega)]
  simpa using hv
theorem op_check (h : FrOk f) {j : Nat} {v : Value} (hv : (nums .u8 f.check)[j]? = some v) : (opCells f a)[37 + j]? = some v := by
  have hj := (List.getElem?_eq_some_iff.1 hv).1
  rw [nums_length, h.check.1] at hj
  unfold opCells
  rw [List.getElem?_append_left (by simp only [List.length_append, nums_length, h.of_.1, h.check.1, List.length_cons, List.length_nil]; omega), List.getElem?_append_right (by simp only [List.length_append, nums_length, h.of_.1, List.length_cons, List.length_nil]; omega)]
  have he : 37 + j - ([Value.int .i64 f.author, .int .u32 f.seq, .slice a.ip f.parents.length a.cp, .int .i64 f.okind, .slice a.iw f.who a.cw] ++ nums .u8 f.of_).length = j := by
    simp only [List.length_append, nums_length, h.of_.1, List.length_cons, List.length_nil]; omega
  rw [he]
  exact hv
theorem op_end (h : FrOk f) {j : Nat} {v : Value} (hv : [Value.string f.text, .slice a.ib f.boxes.length a.cb][j]? = some v) : (opCells f a)[69 + j]? = some v := by
  have hl : ([Value.int .i64 f.author, .int .u32 f.seq, .slice a.ip f.parents.length a.cp, .int .i64 f.okind, .slice a.iw f.who a.cw] ++ nums .u8 f.of_ ++ nums .u8 f.check).length = 69 := by
    simp only [List.length_append, nums_length, h.of_.1, h.check.1, List.length_cons, List.length_nil]
  unfold opCells
  rw [List.getElem?_append_right (by rw [hl]; omega), hl, Nat.add_sub_cancel_left]
  exact hv
theorem op_text (h : FrOk f) : (opCells f a)[69]? = some (.string f.text) := op_end h (j := 0) rfl
theorem op_box (h : FrOk f) : (opCells f a)[70]? = some (.slice a.ib f.boxes.length a.cb) := op_end h (j := 1) rfl
theorem fr_op (h : FrOk f) {j : Nat} {v : Value} (hv : (opCells f a)[j]? = some v) : (frCells f a)[2 + j]? = some v := by
  have hj := (List.getElem?_eq_some_iff.1 hv).1
  unfold frCells
  rw [List.getElem?_append_left (by simp only [List.length_append, List.length_cons, List.length_nil]; omega), List.getElem?_append_right (by simp only [List.length_cons, List.length_nil]; omega)]
  simpa using hv
theorem fr_len (h : FrOk f) : (frCells f a).length = 74 := by
  simp only [frCells, List.length_append, op_len h, List.length_cons, List.length_nil]
theorem fr_ids (h : FrOk f) : (frCells f a)[73]? = some (.slice a.ii f.ids.length a.ci) := by
  have hl : ([Value.int .i64 f.kind, .int .i64 f.from_] ++ opCells f a).length = 73 := by
    simp only [List.length_append, op_len h, List.length_cons, List.length_nil]
  unfold frCells
  rw [List.getElem?_append_right (by rw [hl]; exact Nat.le_refl _), hl]
  rfl
theorem bx_len (h : KeyOk b.pub) : (bxCells b).length = 36 := by
  simp only [bxCells, List.length_append, nums_length, h.1, List.length_cons, List.length_nil]
theorem bx_pub (h : KeyOk b.pub) {j : Nat} {v : Value} (hv : (nums .u8 b.pub)[j]? = some v) : (bxCells b)[1 + j]? = some v := by
  have hj := (List.getElem?_eq_some_iff.1 hv).1
  rw [nums_length, h.1] at hj
  unfold bxCells
  rw [List.getElem?_append_left (by simp only [List.length_append, nums_length, h.1, List.length_cons, List.length_nil]; omega), List.getElem?_append_right (by simp only [List.length_cons, List.length_nil]; omega)]
  simpa using hv
theorem bx_body (h : KeyOk b.pub) : (bxCells b)[35]? = some (.string b.body) := by
  have hl : ([Value.int .i64 b.to_] ++ nums .u8 b.pub).length = 33 := by simp only [List.length_append, nums_length, h.1, List.length_cons, List.length_nil]
  unfold bxCells
  rw [List.getElem?_append_right (by rw [hl]; omega), hl]
  rfl
end
theorem sz75 {f : Fr} {a : Fx} (h : FrOk f) : (Try.prog.info? 75).map (·.size) = some (opCells f a).length := by rw [op_len h]; kernel_rfl
theorem sz77 {f : Fr} {a : Fx} (h : FrOk f) : (Try.prog.info? 77).map (·.size) = some (frCells f a).length := by rw [fr_len h]; kernel_rfl
theorem sz114 {b : Bx} (h : KeyOk b.pub) : (Try.prog.info? 114).map (·.size) = some (bxCells b).length := by rw [bx_len h]; kernel_rfl
/-! ### What a frame shows -/
def boxK (s : List Tm × List (List Int)) (b : Bx) : List Tm × List (List Int) := (markL s.1 b.body, s.2 ++ [b.pub, markN s.1 b.body])
def frS0 (ts : List Tm) (f : Fr) : List Tm × List (List Int) := if f.okind = 7 then (markL ts f.text, f.parents ++ [f.of_, f.check] ++ [markN ts f.text]) else (ts, f.parents ++ [f.of_, f.check])
def frB (ts : List Tm) (f : Fr) (i : Nat) : List Tm × List (List Int) := (f.boxes.take i).foldl boxK (frS0 ts f)
def frT (ts : List Tm) (f : Fr) : List Tm := (frB ts f f.boxes.length).1
def frK (ts : List Tm) (f : Fr) : List (List Int) := (frB ts f f.boxes.length).2 ++ f.ids
theorem frB_succ {ts : List Tm} {f : Fr} {i : Nat} {b : Bx} (h : f.boxes[i]? = some b) : frB ts f (i + 1) = boxK (frB ts f i) b := by
  obtain ⟨hl, rfl⟩ := List.getElem?_eq_some_iff.1 h
  rw [frB, List.take_succ_eq_append_getElem hl, List.foldl_append]
  rfl
theorem mark_pre (ts : List Tm) (s : ByteArray) : ts <+: markL ts s := by
  unfold markL
  split
  · exact List.prefix_refl _
  · exact putL_pre _ _
theorem mark_len (ts : List Tm) (s : ByteArray) : (markL ts s).length ≤ ts.length + 1 := by
  unfold markL
  split
  · omega
  · exact putL_len _ _
theorem mark_in {ts : List Tm} {s : ByteArray} (h : ∀ t ∈ ts, TmW t) : ∀ t ∈ markL ts s, TmW t := fun t ht => by
  unfold markL at ht
  split at ht
  · exact h t ht
  · rcases putL_in ht with ht | rfl
    · exact h t ht
    · exact tmw_oth (by simp) (by simp) (by simp)
theorem mark_again {ts T : List Tm} {s : ByteArray} (h : markL ts s <+: T) : markN T s = markN ts s ∧ markL T s = T := by
  unfold markL markN at *
  split at h
  · rename_i hs
    rw [if_pos hs, if_pos hs, if_pos hs]
    exact ⟨rfl, rfl⟩
  · rename_i hs
    rw [if_neg hs, if_neg hs, if_neg hs]
    exact nm_pre h
structure FI (ts : List Tm) (n l : Nat) (s : List Tm × List (List Int)) : Prop where
  pre : ts <+: s.1
  tl : s.1.length ≤ ts.length + n
  kl : s.2.length ≤ l
  ok : ∀ k ∈ s.2, KeyOk k
  tw : ∀ t ∈ s.1, TmW t
theorem FI.s0 {ts : List Tm} {f : Fr} (h : FrOk f) (hw : ∀ t ∈ ts, TmW t) : FI ts 1 (f.parents.length + 3) (frS0 ts f) := by
  unfold frS0
  have hk : ∀ k ∈ f.parents ++ [f.of_, f.check], KeyOk k := fun k hk => by
    rcases List.mem_append.1 hk with hk | hk
    · exact h.par k hk
    · simp only [List.mem_cons, List.not_mem_nil, or_false] at hk
      rcases hk with rfl | rfl
      · exact h.of_
      · exact h.check
  split
  · refine ⟨mark_pre _ _, mark_len _ _, by simp, fun k hk' => ?_, mark_in hw⟩
    rcases List.mem_append.1 hk' with hk' | hk'
    · exact hk k hk'
    · rw [List.mem_singleton] at hk'
      subst hk'
      exact markN_ok _ _
  · exact ⟨List.prefix_refl _, by simp, by simp, hk, hw⟩
theorem FI.box {ts : List Tm} {n l : Nat} {s : List Tm × List (List Int)} (h : FI ts n l s) {b : Bx} (hb : KeyOk b.pub) : FI ts (n + 1) (l + 2) (boxK s b) := by
  refine ⟨h.pre.trans (mark_pre _ _), by have := mark_len s.1 b.body; have := h.tl; simp only [boxK]; omega, by have := h.kl; simp [boxK]; omega, fun k hk => ?_, mark_in h.tw⟩
  rcases List.mem_append.1 hk with hk | hk
  · exact h.ok k hk
  · simp only [List.mem_cons, List.not_mem_nil, or_false] at hk
    rcases hk with rfl | rfl
    · exact hb
    · exact markN_ok _ _
theorem FI.frB {ts : List Tm} {f : Fr} (h : FrOk f) (hw : ∀ t ∈ ts, TmW t) : ∀ i, i ≤ f.boxes.length → FI ts (1 + i) (f.parents.length + 3 + 2 * i) (Go.Proofs.Ytcapfnbmmdbcoaa.frB ts f i)
  | 0, _ => by
    have := FI.s0 (ts := ts) h hw
    unfold Go.Proofs.Ytcapfnbmmdbcoaa.frB
    exact this
  | i + 1, hi => by
    have h1 := FI.frB h hw i (by omega)
    have hb : f.boxes[i]? = some f.boxes[i] := List.getElem?_eq_getElem (by omega)
    rw [frB_succ hb]
    have := h1.box (h.pub _ (List.mem_of_getElem? hb))
    exact ⟨this.pre, by have := this.tl; omega, by have := this.kl; omega, this.ok, this.tw⟩
theorem FI.all {ts : List Tm} {f : Fr} (h : FrOk f) (hw : ∀ t ∈ ts, TmW t) : ts <+: frT ts f ∧ (frT ts f).length ≤ ts.length + 1 + f.boxes.length ∧ (frK ts f).length ≤ f.parents.length + 3 + 2 * f.boxes.length + f.ids.length ∧ (∀ k ∈ frK ts f, KeyOk k) ∧ ∀ t ∈ frT ts f, TmW t := by
  have h1 := FI.frB h hw f.boxes.length (Nat.le_refl _)
  refine ⟨h1.pre, by have := h1.tl; unfold frT; omega, by have := h1.kl; unfold frK; rw [List.length_append]; omega, fun k hk => ?_, h1.tw⟩
  rcases List.mem_append.1 hk with hk | hk
  · exact h1.ok k hk
  · exact h.ids k hk
/-- A frame shown again on the full table shows the same, and the table stays. -/
theorem frS0_again {ts T : List Tm} {f : Fr} (h : (frS0 ts f).1 <+: T) : frS0 T f = (T, (frS0 ts f).2) := by
  unfold frS0 at *
  split
  · rename_i h7
    rw [if_pos h7] at h
    obtain ⟨e1, e2⟩ := mark_again h
    rw [e1, e2]
  · rfl
theorem fold_pre : ∀ (l : List Bx) (s : List Tm × List (List Int)), s.1 <+: (l.foldl boxK s).1
  | [], s => List.prefix_refl _
  | b :: l, s => (mark_pre s.1 b.body).trans (fold_pre l (boxK s b))
theorem fold_again {T : List Tm} : ∀ (l : List Bx) (s : List Tm × List (List Int)), (l.foldl boxK s).1 <+: T → l.foldl boxK (T, s.2) = (T, (l.foldl boxK s).2)
  | [], s, _ => rfl
  | b :: l, s, h => by
    rw [List.foldl_cons, List.foldl_cons]
    have h1 : markL s.1 b.body <+: T := (fold_pre l (boxK s b)).trans h
    obtain ⟨e1, e2⟩ := mark_again h1
    have : boxK (T, s.2) b = (T, (boxK s b).2) := by simp only [boxK, e1, e2]
    rw [this]
    exact fold_again l (boxK s b) h
theorem fr_again (ts : List Tm) (f : Fr) : frT (frT ts f) f = frT ts f ∧ frK (frT ts f) f = frK ts f := by
  have h1 : (frS0 ts f).1 <+: frT ts f := by unfold frT frB; exact fold_pre _ _
  have h2 : frB (frT ts f) f f.boxes.length = (frT ts f, (frB ts f f.boxes.length).2) := by
    rw [frB, frS0_again h1]
    exact fold_again _ (frS0 ts f) (by unfold frT frB; exact List.prefix_refl _)
  refine ⟨by rw [frT, h2], by rw [frK, h2]; rfl⟩
theorem fol_eq {ts : List Tm} {s : List (List Int)} {b1 b2 : List Bool} (h1 : Follows ts s b1) (h2 : Follows ts s b2) : b1 = b2 := by
  have l1 := h1.least b2 h2.len h2.has h2.closed
  have l2 := h2.least b1 h1.len h1.has h1.closed
  apply List.ext_getElem?
  intro i
  by_cases hi : i < b1.length
  · have hi2 : i < b2.length := by rw [← l1.len]; exact hi
    rw [List.getElem?_eq_getElem hi, List.getElem?_eq_getElem hi2]
    have e1 : b1.getD i false = b1[i] := by rw [List.getD_eq_getElem?_getD, List.getElem?_eq_getElem hi]; rfl
    have e2 : b2.getD i false = b2[i] := by rw [List.getD_eq_getElem?_getD, List.getElem?_eq_getElem hi2]; rfl
    cases ha : b1[i] <;> cases hb : b2[i]
    · rfl
    · have := l2.le i (by rw [e2, hb]); rw [e1, ha] at this; cases this
    · have := l1.le i (by rw [e1, ha]); rw [e2, hb] at this; cases this
    · rfl
  · rw [List.getElem?_eq_none (by omega), List.getElem?_eq_none (by rw [← l1.len]; omega)]
/-! ### Rows of unknown types -/
theorem RowC.toT {w : World} {A : Option Addr} {cs : List Value} (h : RowC w A cs) : ∃ t, RowT w t A cs := by
  cases cs with
  | nil => exact ⟨0, RowT.nil⟩
  | cons v0 vs =>
    obtain ⟨b, off, hA, hc⟩ := h 0 v0 rfl
    unfold World.cell? at hc
    split at hc
    · rename_i arr t mk hh
      refine ⟨t, fun i v hi => ?_⟩
      obtain ⟨b', off', hA', hc'⟩ := h i v hi
      rw [hA] at hA'
      injection hA' with hA'
      injection hA' with h1 h2
      subst h1 h2
      refine ⟨b, off, arr, mk, hA, hh, ?_⟩
      unfold World.cell? at hc'
      simp only [hh] at hc'
      simpa using hc'
    · cases hc
set_option maxRecDepth 100000 in
set_option maxHeartbeats 1000000 in
theorem Clone44C (A : Option Addr) (c : Nat) (ks : List (List Int)) (w : World) (hk : ∀ k ∈ ks, KeyOk k) {t2 : TypeId} (hr : RowT w t2 A (nums .u8 ks.flatten)) (hn : A = none → c = 0) (hl : ks.length ≤ 1000) :
    Calls Try.prog 44 #[.slice A ks.length c] w (KeysR ks w) := by
  have M0 := Mem.start w
  cases A with
  | none =>
    exact Clone44 none c ks w hk (fun i v hi => by obtain ⟨b, off, arr, m, h, _⟩ := hr i v hi; cases h) hn hl
  | some ad =>
    have HR := hid hr
    have hfl := flat_len hk
    have HK := hid hk
    clear hn hr hk
    have heq : ∀ w' : World, (binOp .eql 34 (.slice (some ad) ks.length c) (.slice none 0 0)).run Try.prog w' = .ok (.bool false) w' := fun w' => Lib.run_eql_slice_nil w' 34 26 (some ad) ks.length c 0 0 Try.underlying34
    go_enter Try.func44, Try.ntmps44
    go_wp2_with (first | (apply wpList_bsK0 5; (· rfl); (· rfl); (· rfl); (· exact M0); intro b5 w1 M1; (conv => arg 5; simp only [Act.put, List.setIfInBounds_toArray, List.set_cons_succ, List.set_cons_zero])) | (refine wpList_appS Try.underlying34 i26' rfl (by decide) rfl rfl rfl rfl M1 (fun A' cap' => Swap.head) (HR.out.mem M1) (by rw [nums_length, hfl]) (nums_one .u8 _) (by omega) (by omega) (fun A' cap' w2 M2 => ?_); (conv => arg 5; simp only [Act.put, List.setIfInBounds_toArray, List.set_cons_succ, List.set_cons_zero])))
    simp only [Nat.zero_add, List.nil_append] at M2 ⊢
    go_wp2_with fail
    go_ret
    exact ⟨A', cap', rfl, M2.vec_cap List.mem_cons_self, M2.vec_nil List.mem_cons_self, M2.vecT List.mem_cons_self, M2⟩
/-! ### Is an operation great? -/
def greatO (f : Fr) : Bool := decide (30 < f.parents.length) || decide (30 < f.who) || decide (30 < f.boxes.length) || decide (600 < f.text.size) || f.boxes.any fun b => decide (600 < b.body.size)
set_option maxRecDepth 100000 in
set_option maxHeartbeats 4000000 in
theorem Great33 (f : Fr) (a : Fx) (w : World) (hok : FrOk f) (h : FrR w f a) : Calls Try.prog 33 #[.agg (opCells f a).toArray] w (BoolR (greatO f) w) := by
  have M0 := Mem.start w
  have HO := hid hok
  have HR := hid h
  clear hok h
  by_cases p0 : 30 < f.parents.length
  · have q0 : (30 : Int) < (f.parents.length : Int) := by omega
    rw [show greatO f = true from by simp [greatO, p0]]
    go_enter Try.func33, Try.ntmps33
    go_wp2_with (first | (apply wpList_want; (· rfl)) | (apply wpList_wantLd; (· rfl)) | (refine wpList_bx (cs := opCells f a) rfl rfl M0 rfl rfl (fun b1 w1 M => ?_); clear M0; have c2 := M.cell (i := 2) (g := b1) (v := .slice a.ip f.parents.length a.cp) (by (repeat (first | exact List.mem_cons_self | refine List.mem_cons_of_mem _ ?_))) rfl; have c4 := M.cell (i := 4) (g := b1) (v := .slice a.iw f.who a.cw) (by (repeat (first | exact List.mem_cons_self | refine List.mem_cons_of_mem _ ?_))) rfl; have c69 := M.cell (i := 69) (g := b1) (v := .string f.text) (by (repeat (first | exact List.mem_cons_self | refine List.mem_cons_of_mem _ ?_))) (op_text HO.out); have c70 := M.cell (i := 70) (g := b1) (v := .slice a.ib f.boxes.length a.cb) (by (repeat (first | exact List.mem_cons_self | refine List.mem_cons_of_mem _ ?_))) (op_box HO.out); (conv => arg 5; simp only [Act.put, List.setIfInBounds_toArray, List.set_cons_succ, List.set_cons_zero])))
    go_ret
    exact ⟨rfl, M.sub (List.nil_sublist _)⟩
  · have q0 : ¬ (30 : Int) < (f.parents.length : Int) := by omega
    by_cases p1 : 30 < f.who
    · have q1 : (30 : Int) < (f.who : Int) := by omega
      rw [show greatO f = true from by simp [greatO, p1]]
      go_enter Try.func33, Try.ntmps33
      go_wp2_with (first | (apply wpList_want; (· rfl)) | (apply wpList_wantLd; (· rfl)) | (refine wpList_bx (cs := opCells f a) rfl rfl M0 rfl rfl (fun b1 w1 M => ?_); clear M0; have c2 := M.cell (i := 2) (g := b1) (v := .slice a.ip f.parents.length a.cp) (by (repeat (first | exact List.mem_cons_self | refine List.mem_cons_of_mem _ ?_))) rfl; have c4 := M.cell (i := 4) (g := b1) (v := .slice a.iw f.who a.cw) (by (repeat (first | exact List.mem_cons_self | refine List.mem_cons_of_mem _ ?_))) rfl; have c69 := M.cell (i := 69) (g := b1) (v := .string f.text) (by (repeat (first | exact List.mem_cons_self | refine List.mem_cons_of_mem _ ?_))) (op_text HO.out); have c70 := M.cell (i := 70) (g := b1) (v := .slice a.ib f.boxes.length a.cb) (by (repeat (first | exact List.mem_cons_self | refine List.mem_cons_of_mem _ ?_))) (op_box HO.out); (conv => arg 5; simp only [Act.put, List.setIfInBounds_toArray, List.set_cons_succ, List.set_cons_zero])))
      go_ret
      exact ⟨rfl, M.sub (List.nil_sublist _)⟩
    · have q1 : ¬ (30 : Int) < (f.who : Int) := by omega
      by_cases p2 : 30 < f.boxes.length
      · have q2 : (30 : Int) < (f.boxes.length : Int) := by omega
        rw [show greatO f = true from by simp [greatO, p2]]
        go_enter Try.func33, Try.ntmps33
        go_wp2_with (first | (apply wpList_want; (· rfl)) | (apply wpList_wantLd; (· rfl)) | (refine wpList_bx (cs := opCells f a) rfl rfl M0 rfl rfl (fun b1 w1 M => ?_); clear M0; have c2 := M.cell (i := 2) (g := b1) (v := .slice a.ip f.parents.length a.cp) (by (repeat (first | exact List.mem_cons_self | refine List.mem_cons_of_mem _ ?_))) rfl; have c4 := M.cell (i := 4) (g := b1) (v := .slice a.iw f.who a.cw) (by (repeat (first | exact List.mem_cons_self | refine List.mem_cons_of_mem _ ?_))) rfl; have c69 := M.cell (i := 69) (g := b1) (v := .string f.text) (by (repeat (first | exact List.mem_cons_self | refine List.mem_cons_of_mem _ ?_))) (op_text HO.out); have c70 := M.cell (i := 70) (g := b1) (v := .slice a.ib f.boxes.length a.cb) (by (repeat (first | exact List.mem_cons_self | refine List.mem_cons_of_mem _ ?_))) (op_box HO.out); (conv => arg 5; simp only [Act.put, List.setIfInBounds_toArray, List.set_cons_succ, List.set_cons_zero])))
        go_ret
        exact ⟨rfl, M.sub (List.nil_sublist _)⟩
      · have q2 : ¬ (30 : Int) < (f.boxes.length : Int) := by omega
        by_cases p3 : 600 < f.text.size
        · have q3 : (600 : Int) < (f.text.size : Int) := by omega
          rw [show greatO f = true from by simp [greatO, p3]]
          go_enter Try.func33, Try.ntmps33
          go_wp2_with (first | (apply wpList_want; (· rfl)) | (apply wpList_wantLd; (· rfl)) | (refine wpList_bx (cs := opCells f a) rfl rfl M0 rfl rfl (fun b1 w1 M => ?_); clear M0; have c2 := M.cell (i := 2) (g := b1) (v := .slice a.ip f.parents.length a.cp) (by (repeat (first | exact List.mem_cons_self | refine List.mem_cons_of_mem _ ?_))) rfl; have c4 := M.cell (i := 4) (g := b1) (v := .slice a.iw f.who a.cw) (by (repeat (first | exact List.mem_cons_self | refine List.mem_cons_of_mem _ ?_))) rfl; have c69 := M.cell (i := 69) (g := b1) (v := .string f.text) (by (repeat (first | exact List.mem_cons_self | refine List.mem_cons_of_mem _ ?_))) (op_text HO.out); have c70 := M.cell (i := 70) (g := b1) (v := .slice a.ib f.boxes.length a.cb) (by (repeat (first | exact List.mem_cons_self | refine List.mem_cons_of_mem _ ?_))) (op_box HO.out); (conv => arg 5; simp only [Act.put, List.setIfInBounds_toArray, List.set_cons_succ, List.set_cons_zero])))
          go_ret
          exact ⟨rfl, M.sub (List.nil_sublist _)⟩
        · have q3 : ¬ (600 : Int) < (f.text.size : Int) := by omega
          rw [show greatO f = f.boxes.any (fun b => decide (600 < b.body.size)) from by simp [greatO, p0, p1, p2, p3]]
          go_enter Try.func33, Try.ntmps33
          go_wp2_with (first | (apply wpList_want; (· rfl)) | (apply wpList_wantLd; (· rfl)) | (refine wpList_bx (cs := opCells f a) rfl rfl M0 rfl rfl (fun b1 w1 M => ?_); clear M0; have c2 := M.cell (i := 2) (g := b1) (v := .slice a.ip f.parents.length a.cp) (by (repeat (first | exact List.mem_cons_self | refine List.mem_cons_of_mem _ ?_))) rfl; have c4 := M.cell (i := 4) (g := b1) (v := .slice a.iw f.who a.cw) (by (repeat (first | exact List.mem_cons_self | refine List.mem_cons_of_mem _ ?_))) rfl; have c69 := M.cell (i := 69) (g := b1) (v := .string f.text) (by (repeat (first | exact List.mem_cons_self | refine List.mem_cons_of_mem _ ?_))) (op_text HO.out); have c70 := M.cell (i := 70) (g := b1) (v := .slice a.ib f.boxes.length a.cb) (by (repeat (first | exact List.mem_cons_self | refine List.mem_cons_of_mem _ ?_))) (op_box HO.out); (conv => arg 5; simp only [Act.put, List.setIfInBounds_toArray, List.set_cons_succ, List.set_cons_zero])))
          clear c2 c4 c69 c70
          go_loopw [3] (fun x wr => ∃ i : Nat, i ≤ f.boxes.length ∧ x = .int .i64 i ∧ Mem w [] wr [.blk b1 (cellsO 75 (opCells f a))] ∧ Hid ((f.boxes.take i).any (fun b => decide (600 < b.body.size)) = false)) (fun x _ => f.boxes.length - (intOf x).toNat)
          case atStart => exact ⟨0, by omega, rfl, M, hid rfl⟩
          case round =>
            clear M
            obtain ⟨i, hi, rfl, M, HN⟩ := hrel
            have c70 := M.cell (i := 70) (g := b1) (v := .slice a.ib f.boxes.length a.cb) (by (repeat (first | exact List.mem_cons_self | refine List.mem_cons_of_mem _ ?_))) (op_box HO.out)
            by_cases hlt : i < f.boxes.length
            · have hltI : (i : Int) < (f.boxes.length : Int) := by omega
              obtain ⟨b, hbe⟩ : ∃ b, f.boxes[i]? = some b := ⟨_, List.getElem?_eq_getElem hlt⟩
              obtain ⟨bb, off, hB, hcc⟩ := HR.out.box i b hbe
              have hcb := M.cell0 (hcc 35 _ (bx_body (HO.out.pub b (List.mem_of_getElem? hbe))))
              rw [hB] at c70
              have HT := hid (show f.boxes.take (i + 1) = f.boxes.take i ++ [b] from by
                obtain ⟨hl, rfl⟩ := List.getElem?_eq_some_iff.1 hbe
                exact List.take_succ_eq_append_getElem hl)
              have HBE := hid hbe
              clear hbe hcc
              by_cases p : 600 < b.body.size
              · have q : (600 : Int) < (b.body.size : Int) := by omega
                go_wp2_with fail
                go_ret
                exact ⟨by rw [List.any_eq_true.2 ⟨b, List.mem_of_getElem? HBE.out, by simpa using p⟩]; rfl, M.sub (List.nil_sublist _)⟩
              · have q : ¬ (600 : Int) < (b.body.size : Int) := by omega
                go_wp2_with fail
                go_round
                case rel => exact ⟨i + 1, by omega, by go_num, M, hid (by rw [HT.out, List.any_append, HN.out]; simp [p])⟩
                case measure => simp [intOf]; omega
            · obtain rfl : i = f.boxes.length := by omega
              go_wp2_with fail
              go_ret
              have hf := HN.out
              rw [List.take_length] at hf
              exact ⟨by rw [hf]; rfl, M.sub (List.nil_sublist _)⟩
end Go.Proofs.Ytcapfnbmmdbcoaa
