/- A play: calls on its tables and its keys, each by one contract. -/
import Derived.Test.YtcapfnbmmdbcoaaG3
set_option linter.unusedVariables false
set_option linter.unusedSimpArgs false
namespace Go.Proofs.Ytcapfnbmmdbcoaa
open Go.RowKit
/-- A box as a key: its name, the table then. -/
def markN (ts : List Tm) (s : ByteArray) : List Int := if s.size = 32 then bytesOf s else nm ts ⟨2, boxS s, []⟩
def markL (ts : List Tm) (s : ByteArray) : List Tm := if s.size = 32 then ts else putL ts ⟨2, boxS s, []⟩
theorem markN_ok (ts : List Tm) (s : ByteArray) : KeyOk (markN ts s) := by
  unfold markN
  split
  · rename_i h; exact ⟨by rw [bytesOf_length, h], bytesOf_all s⟩
  · exact nm_ok _ _
/-- What two agree on: the key, whether, the table then. -/
def agrN (ts : List Tm) (s p : List Int) : List Int := if p = zK then zK else nm ts (agreeT ts s p)
def agrL (ts : List Tm) (s p : List Int) : List Tm := if p = zK then ts else putL ts (agreeT ts s p)
def agrB (p : List Int) : Bool := !decide (p = zK)
theorem agrN_ok (ts : List Tm) (s p : List Int) : KeyOk (agrN ts s p) := by
  unfold agrN
  split
  · exact zK_ok
  · exact nm_ok _ _
def opS (r : Option (ByteArray × List (List Int))) : ByteArray := match r with | none => ⟨#[]⟩ | some (x, _) => x
def opK (r : Option (ByteArray × List (List Int))) : List (List Int) := match r with | none => [] | some (_, ks) => ks
def opB (r : Option (ByteArray × List (List Int))) : Bool := match r with | none => false | some _ => true
section
variable {K0 : Nat → Prop} {P Q X : Res} {w0 w : World} {L : List Item} {g m p : Nat} {ts : List Tm} {keys : List (List Int)}
/-! ### The program's table, on the left -/
theorem MarkP (hQ : Ok Q) (H : TF K0 (starR (tabR g ts) Q) w0 w L) {s : ByteArray} (ht : s.size ≤ 900) (hf : ts.length ≤ 900000) :
    Calls Try.prog 46 #[.pointer (some ⟨g, 0, none⟩), .string s] w fun e w' => e = .returned (.agg (nums .u8 (markN ts s)).toArray) ∧ TF K0 (starR (tabR g (markL ts s)) Q) w0 w' L := by
  by_cases hs : s.size = 32
  · rw [markN, markL, if_pos hs, if_pos hs]
    exact (Mark46k g s w hs).mono fun e w' ⟨he, M⟩ => ⟨he, H.call0 ((tabR_ok g ts).star hQ) M⟩
  · rw [markN, markL, if_neg hs, if_neg hs]
    exact (H.runL hQ (R := fun e L2 => IsKey (nm ts ⟨2, boxS s, []⟩) e ∧ L2 = []) fun K1 h1 hlt => (MarkK h1 hs ht hf).mono fun e w' ⟨he, F⟩ => ⟨[], ⟨he, rfl⟩, TF.of F hlt⟩).mono fun e w' ⟨L2, ⟨he, hL⟩, F⟩ => ⟨he, by rw [hL] at F; exact F⟩
theorem AgreeP (hQ : Ok Q) (H : TF K0 (starR (tabR g ts) Q) w0 w L) {s q : List Int} (hw : ∀ t ∈ ts, TmW t) (hs : KeyOk s) (hp : KeyOk q) (hf : ts.length ≤ 900000) :
    Calls Try.prog 28 #[.pointer (some ⟨g, 0, none⟩), .agg (nums .u8 s).toArray, .agg (nums .u8 q).toArray] w fun e w' => e = .returned (.tuple #[.agg (nums .u8 (agrN ts s q)).toArray, .bool (agrB q)]) ∧ TF K0 (starR (tabR g (agrL ts s q)) Q) w0 w' L := by
  by_cases hz : q = zK
  · rw [agrN, agrL, agrB, if_pos hz, if_pos hz, decide_eq_true hz]
    subst hz
    exact (Agree28z g s w hs).mono fun e w' ⟨he, M⟩ => ⟨he, H.call0 ((tabR_ok g ts).star hQ) M⟩
  · rw [agrN, agrL, agrB, if_neg hz, if_neg hz, decide_eq_false hz]
    exact AgreeTF hQ H hw hs hp hf hz
theorem OpenP (H : TF K0 (starR (tabR g ts) Q) w0 w L) (hw : ∀ t ∈ ts, TmW t) {k b : List Int} {s : ByteArray} (hk : KeyOk k) (hb : KeyOk b) :
    Calls Try.prog 17 #[.pointer (some ⟨g, 0, none⟩), .agg (nums .u8 k).toArray, .agg (nums .u8 b).toArray, .string s] w fun e w' => ∃ A d, e = .returned (.tuple #[.string (opS (openM ts k b s)), .slice A (opK (openM ts k b s)).length d, .bool (opB (openM ts k b s))]) ∧ RowT w' 26 A (nums .u8 (opK (openM ts k b s)).flatten) ∧ Mem w [] w' [] := by
  refine (OpenT H hw hk hb rfl).mono fun e w' h => ?_
  cases ho : openM ts k b s with
  | none =>
    rw [ho] at h
    exact ⟨none, 0, h.1, RowT.nil, h.2⟩
  | some x =>
    obtain ⟨x, ks⟩ := x
    rw [ho] at h
    obtain ⟨A, c, he, _, _, hr, M⟩ := h
    exact ⟨A, c, he, hr, M.sub (List.nil_sublist _)⟩
theorem LookPT (H : TF K0 (starR (tabR g ts) Q) w0 w L) {k : List Int} (hk : KeyOk k) :
    Calls Try.prog 57 #[.pointer (some ⟨g, 0, none⟩), .agg (nums .u8 k).toArray] w (LookP w (lookT ts k)) := by
  obtain ⟨K, ⟨K1, K2, h, _⟩, _⟩ := H.ex
  exact Look57 h hk
/-! ### The reference's table, in the middle -/
theorem mid {Pr : Program} {f : FuncId} {args : Array Value} {P' : Res} {R : Ending → Prop} (hP : Ok P) (hX : Ok X) (H : TF K0 (starR P (starR Q X)) w0 w L) (hc : ∀ K : Nat → Prop, Q K w → (∀ b, K b → b < w.heap.size) → Calls Pr f args w fun e w' => R e ∧ FootK K P' w w') :
    Calls Pr f args w fun e w' => R e ∧ TF K0 (starR P (starR P' X)) w0 w' L :=
  (H.swap.runL (hP.star hX) (R := fun e L2 => R e ∧ L2 = []) fun K1 h1 hlt => (hc K1 h1 hlt).mono fun e w' ⟨he, F⟩ => ⟨[], ⟨he, rfl⟩, TF.of F hlt⟩).mono fun e w' ⟨L2, ⟨he, hL⟩, F⟩ => ⟨he, by rw [hL] at F; exact F.swap⟩
theorem MakeM (hP : Ok P) (hX : Ok X) (H : TF K0 (starR P (starR (refR m ts) X)) w0 w L) {kind : Int} {text : ByteArray} {ks : List (List Int)} {B : Option Addr} {n d : Nat} (hn : n = ks.length) (ht : TmOk ⟨kind, text, ks⟩) (hr : RowT w 26 B (nums .u8 ks.flatten)) (hf : ts.length ≤ 900000) :
    Calls Try.prog 45 #[.pointer (some ⟨m, 0, none⟩), .int .i64 kind, .string text, .slice B n d] w fun e w' => e = .returned (.agg (nums .u8 (nm ts ⟨kind, text, ks⟩)).toArray) ∧ TF K0 (starR P (starR (refR m (putL ts ⟨kind, text, ks⟩)) X)) w0 w' L := by
  subst hn
  exact mid hP hX H fun K h hlt => MakeK (t := ⟨kind, text, ks⟩) h hlt ht hr hf
theorem SealM (hP : Ok P) (hX : Ok X) (H : TF K0 (starR P (starR (refR m ts) X)) w0 w L) {text : ByteArray} {q l : List Int} {B : Option Addr} {n d : Nat} {ks : List (List Int)} (hn : n = ks.length) (ht : text.size ≤ 1000) (hk : KeyOk q) (hkl : KeyOk l) (hks : ∀ k ∈ ks, KeyOk k) (hl : ks.length ≤ 900) (hr : RowT w 26 B (nums .u8 ks.flatten)) (hf : ts.length ≤ 900000) :
    Calls Try.prog 47 #[.pointer (some ⟨m, 0, none⟩), .agg (nums .u8 q).toArray, .agg (nums .u8 l).toArray, .string text, .slice B n d] w fun e w' => e = .returned (.string (strOfNums (nm ts ⟨6, text, q :: l :: ks⟩))) ∧ TF K0 (starR P (starR (refR m (putL ts ⟨6, text, q :: l :: ks⟩)) X)) w0 w' L := by
  subst hn
  exact mid hP hX H fun K h hlt => Seal47 h hlt ht hk hkl hks hl hr hf
theorem MarkM (hP : Ok P) (hX : Ok X) (H : TF K0 (starR P (starR (refR m ts) X)) w0 w L) {s : ByteArray} (ht : s.size ≤ 900) (hf : ts.length ≤ 900000) :
    Calls Try.prog 52 #[.pointer (some ⟨m, 0, none⟩), .string s] w fun e w' => e = .returned (.agg (nums .u8 (markN ts s)).toArray) ∧ TF K0 (starR P (starR (refR m (markL ts s)) X)) w0 w' L := by
  by_cases hs : s.size = 32
  · rw [markN, markL, if_pos hs, if_pos hs]
    exact (Mark52k m s w hs).mono fun e w' ⟨he, M⟩ => ⟨he, H.call0 (hP.star ((refR_ok m ts).star hX)) M⟩
  · rw [markN, markL, if_neg hs, if_neg hs]
    exact mid hP hX H fun K h hlt => Mark52h h hlt hs ht hf
theorem AgreeM (hP : Ok P) (hX : Ok X) (H : TF K0 (starR P (starR (refR m ts) X)) w0 w L) {s q : List Int} (hw : ∀ t ∈ ts, TmW t) (hs : KeyOk s) (hp : KeyOk q) (hf : ts.length ≤ 900000) :
    Calls Try.prog 54 #[.pointer (some ⟨m, 0, none⟩), .agg (nums .u8 s).toArray, .agg (nums .u8 q).toArray] w fun e w' => e = .returned (.tuple #[.agg (nums .u8 (agrN ts s q)).toArray, .bool (agrB q)]) ∧ TF K0 (starR P (starR (refR m (agrL ts s q)) X)) w0 w' L := by
  by_cases hz : q = zK
  · rw [agrN, agrL, agrB, if_pos hz, if_pos hz, decide_eq_true hz]
    subst hz
    exact (Agree54z m s w hs).mono fun e w' ⟨he, M⟩ => ⟨he, H.call0 (hP.star ((refR_ok m ts).star hX)) M⟩
  · rw [agrN, agrL, agrB, if_neg hz, if_neg hz, decide_eq_false hz]
    exact mid hP hX H fun K h hlt => Agree54 h hlt hw hs hp hf hz
theorem OpenM' (H : TF K0 (starR P (starR (refR m ts) X)) w0 w L) (hw : ∀ t ∈ ts, TmW t) {k b : List Int} {s : ByteArray} (hk : KeyOk k) (hb : KeyOk b) :
    Calls Try.prog 74 #[.pointer (some ⟨m, 0, none⟩), .agg (nums .u8 k).toArray, .agg (nums .u8 b).toArray, .string s] w fun e w' => ∃ A d, e = .returned (.tuple #[.string (opS (openM ts k b s)), .slice A (opK (openM ts k b s)).length d, .bool (opB (openM ts k b s))]) ∧ RowT w' 26 A (nums .u8 (opK (openM ts k b s)).flatten) ∧ Mem w [] w' [] := by
  obtain ⟨K, ⟨_, K2, _, ⟨K3, K4, h, _, b3, _⟩, _, a4, _⟩, a2, _⟩ := H.ex
  refine (Open74 h (fun b hb => (a2 b (a4 b (b3 b hb))).2) hw hk hb).mono fun e w' h => ?_
  cases ho : openM ts k b s with
  | none =>
    rw [ho] at h
    exact ⟨none, 0, h.1, RowT.nil, h.2⟩
  | some x =>
    obtain ⟨x, ks⟩ := x
    rw [ho] at h
    obtain ⟨A, c, he, _, _, hr, _, M⟩ := h
    exact ⟨A, c, he, hr, M⟩
theorem LookM (H : TF K0 (starR P (starR (refR m ts) X)) w0 w L) {k : List Int} (hk : KeyOk k) :
    Calls Try.prog 58 #[.pointer (some ⟨m, 0, none⟩), .agg (nums .u8 k).toArray] w (LookP w (lookT ts k)) := by
  obtain ⟨K, ⟨_, K2, _, ⟨K3, K4, ⟨A, c, S, e, T⟩, _⟩, _⟩, _⟩ := H.ex
  exact (Look58 K3 m c e A S ts k w T hk).mono fun e w' ⟨B, d, he, _, _, hr, _, M⟩ => ⟨B, d, he, hr, M⟩
theorem TF.refCell2 (H : TF K0 (starR P (starR (refR m ts) X)) w0 w L) : ∃ A c, w.cell? ⟨m, 0, none⟩ = some (.slice A ts.length c) := by
  obtain ⟨K, ⟨_, _, _, ⟨_, _, ⟨A, c, S, e, T⟩, _⟩, _⟩, _⟩ := H.ex
  exact ⟨A, c, T.cap.1⟩
/-! ### The play's keys, on the right -/
theorem TF.playC (H : TF K0 (starR P (starR Q (playR p g m keys))) w0 w L) : w.cell? ⟨p, 0, none⟩ = some (.pointer (some ⟨g, 0, none⟩)) ∧ w.cell? ⟨p, 1, none⟩ = some (.pointer (some ⟨m, 0, none⟩)) := by
  obtain ⟨K, ⟨_, _, _, ⟨_, _, _, ⟨A, c, T⟩, _⟩, _⟩, _⟩ := H.ex
  exact ⟨T.cells.1, T.cells.2.1⟩
theorem TF.playOk (H : TF K0 (starR P (starR Q (playR p g m keys))) w0 w L) : ∀ k ∈ keys, KeyOk k := by
  obtain ⟨K, ⟨_, _, _, ⟨_, _, _, ⟨A, c, T⟩, _⟩, _⟩, _⟩ := H.ex
  exact T.ok
theorem two51T (H : TF K0 (starR P (starR Q (playR p g m keys))) w0 w L) (h1 : 1 ≤ keys.length) (hl : keys.length ≤ 100000) {c : Sp} {I : Option Addr} {ic : Nat} (hr : KeyOk c.raw) (hI : RowC w I (nums .i64 c.keys)) :
    Calls Try.prog 51 #[.pointer (some ⟨p, 0, none⟩), .agg (spCells c I ic).toArray] w (TwoR (atK keys c.at_) (atK keys (c.keys.getD 0 0)) w) := by
  obtain ⟨K, ⟨_, _, _, ⟨_, _, _, h, _⟩, _⟩, _⟩ := H.ex
  exact two51 h h1 hl hr hI
theorem at31T (H : TF K0 (starR P (starR Q (playR p g m keys))) w0 w L) (h1 : 1 ≤ keys.length) (hl : keys.length ≤ 100000) (n : Int) :
    Calls Try.prog 31 #[.pointer (some ⟨p, 0, none⟩), .int .i64 n] w (KeyR (atK keys n) w) := by
  obtain ⟨K, ⟨_, _, _, ⟨_, _, _, h, _⟩, _⟩, _⟩ := H.ex
  exact at31 h h1 hl n
theorem named53T (H : TF K0 (starR P (starR Q (playR p g m keys))) w0 w L) (h1 : 1 ≤ keys.length) (hl : keys.length ≤ 100000) {c : Sp} {I : Option Addr} {ic : Nat} (hr : KeyOk c.raw) (hI : RowC w I (nums .i64 c.keys)) :
    Calls Try.prog 53 #[.pointer (some ⟨p, 0, none⟩), .agg (spCells c I ic).toArray] w (NamedPR keys c.keys w) := by
  obtain ⟨K, ⟨_, _, _, ⟨_, _, _, h, _⟩, _⟩, _⟩ := H.ex
  exact named53 h h1 hl hr hI
/-- The play is opened: its blocks, and how it is closed again. -/
theorem TF.playOut (hP : Ok P) (hQ : Ok Q) (H : TF K0 (starR P (starR Q (playR p g m keys))) w0 w L) :
    ∃ A c, w.cell? ⟨p, 2, none⟩ = some (.slice A keys.length c) ∧ Mem w (p :: blkA A) w [.blk p (cellsO 70 [.pointer (some ⟨g, 0, none⟩), .pointer (some ⟨m, 0, none⟩), .slice A keys.length c]), .vec A keys.length c 26 32 (nums .u8 keys.flatten)] ∧
      ∀ (A2 : Option Addr) (c2 : Nat) (ks : List (List Int)) (wz : World), (∀ k ∈ ks, KeyOk k) → Mem w (p :: blkA A) wz [.blk p (cellsO 70 [.pointer (some ⟨g, 0, none⟩), .pointer (some ⟨m, 0, none⟩), .slice A2 (keys.length + ks.length) c2]), .vec A2 (keys.length + ks.length) c2 26 32 (nums .u8 keys.flatten ++ nums .u8 ks.flatten)] → TF K0 (starR P (starR Q (playR p g m (keys ++ ks)))) w0 wz L := by
  have H1 := H.assoc'
  obtain ⟨K, ⟨K1, K2, b1, ⟨A, c, T⟩, b3, b4, b5⟩, a2, a3⟩ := H1.ex
  refine ⟨A, c, T.cells.2.2, T.items, fun A2 c2 ks wz hk M => ?_⟩
  have hlt : ∀ b, K b → b < w.heap.size := fun b hb => (a2 b hb).2
  have h1 : wz.heap[p]? = _ := M.holds _ List.mem_cons_self
  have h2 : wz.ownsRow 0 26 32 (.slice A2 (keys.length + ks.length) c2) (keys.length + ks.length) (nums .u8 keys.flatten ++ nums .u8 ks.flatten) := M.holds _ (List.mem_cons_of_mem _ List.mem_cons_self)
  have hK : ∀ b ∈ p :: blkA A, K2 b := fun b hb => by
    rcases List.mem_cons.1 hb with rfl | hb
    · exact T.kp
    · exact T.kA b hb
  have F : TF K2 (playR p g m (keys ++ ks)) w wz [] := by
    refine ⟨M.os, M.tape, M.output, M.size, fun b hb => hlt b (b4 b hb), ⟨fun b => (K2 b ∨ w.heap.size ≤ b) ∧ b < wz.heap.size, ⟨A2, c2, ?_, ?_, fun k hkk => ?_, ⟨.inl T.kp, (Array.getElem?_eq_some_iff.1 h1).1⟩, fun b hb => ⟨?_, own_lt h2 b hb⟩⟩, fun b hb => hb, by simp⟩, fun b hl hn => M.old b hl (fun hin => hn (hK b hin)), by simp, by simp, List.Pairwise.nil⟩
    · rw [List.length_append]; exact h1
    · rw [List.length_append, List.flatten_append, nums_append]; exact h2
    · rcases List.mem_append.1 hkk with h | h
      · exact T.ok k h
      · exact hk k h
    · simp only [blkA, Option.mem_toList, Option.map_eq_some_iff] at hb
      obtain ⟨ad, rfl, rfl⟩ := hb
      exact (M.fresh _ (List.mem_cons_of_mem _ List.mem_cons_self) ad.block rfl).imp (hK _) id
  have F2 := (TF.star (K0 := K1) b1 F (hP.star hQ) b1 b4 b3 (fun b h h2 => b5 b h2 h) hlt).comm
  exact (H1.turn a3 a2 F2).assoc
end
/-! ### What a play keeps -/
structure PI (n : Nat) (ts : List Tm) (keys : List (List Int)) : Prop where
  tw : ∀ t ∈ ts, TmW t
  kl : ∀ t ∈ ts, t.keys.length ≤ 10
  tl : ts.length ≤ 2 * n
  k1 : 1 ≤ keys.length
  kn : keys.length ≤ 2 + 10 * n
theorem PI.put {n : Nat} {ts : List Tm} {t : Tm} (h : (∀ t ∈ ts, TmW t) ∧ (∀ t ∈ ts, t.keys.length ≤ 10) ∧ ts.length ≤ n) (hw : TmW t) (hk : t.keys.length ≤ 10) : (∀ u ∈ putL ts t, TmW u) ∧ (∀ u ∈ putL ts t, u.keys.length ≤ 10) ∧ (putL ts t).length ≤ n + 1 :=
  ⟨fun u hu => (putL_in hu).elim (h.1 u) (fun e => by rw [e]; exact hw), fun u hu => (putL_in hu).elim (h.2.1 u) (fun e => by rw [e]; exact hk), by have := putL_len ts t; have := h.2.2; omega⟩
theorem mark_keeps {n : Nat} {ts : List Tm} (s : ByteArray) (h : (∀ t ∈ ts, TmW t) ∧ (∀ t ∈ ts, t.keys.length ≤ 10) ∧ ts.length ≤ n) : (∀ u ∈ markL ts s, TmW u) ∧ (∀ u ∈ markL ts s, u.keys.length ≤ 10) ∧ (markL ts s).length ≤ n + 1 := by
  unfold markL
  split
  · exact ⟨h.1, h.2.1, by have := h.2.2; omega⟩
  · exact PI.put h (tmw_oth (by simp) (by simp) (by simp)) (by simp)
theorem agr_keeps {n : Nat} {ts : List Tm} (s q : List Int) (h : (∀ t ∈ ts, TmW t) ∧ (∀ t ∈ ts, t.keys.length ≤ 10) ∧ ts.length ≤ n) : (∀ u ∈ agrL ts s q, TmW u) ∧ (∀ u ∈ agrL ts s q, u.keys.length ≤ 10) ∧ (agrL ts s q).length ≤ n + 1 := by
  unfold agrL
  split
  · exact ⟨h.1, h.2.1, by have := h.2.2; omega⟩
  · have ha := agree_two ts s q
    exact PI.put h ⟨fun e => by rcases ha.2 with e' | e' <;> omega, fun _ => by omega⟩ (by omega)
/-- All of a play: both tables, its keys. -/
abbrev playS (p g m : Nat) (ts : List Tm) (keys : List (List Int)) : Res := starR (tabR g ts) (starR (refR m ts) (playR p g m keys))
/-- What a step of a play leaves. -/
def DoR (K : Nat → Prop) (p g m n : Nat) (w : World) (e : Ending) (w' : World) : Prop :=
  ∃ ts keys, e = .returned (.bool true) ∧ PI (n + 1) ts keys ∧ TF K (playS p g m ts keys) w w' []
end Go.Proofs.Ytcapfnbmmdbcoaa
