/- What a call owns: a thing in memory (a table) that holds some blocks, beside items. Plain laws, then the calls on a table. -/
import Derived.Test.YtcapfnbmmdbcoaaC17
set_option linter.unusedVariables false
set_option linter.unusedSimpArgs false
namespace Go.Proofs.Ytcapfnbmmdbcoaa
open Go.RowKit
/-- A thing that holds the blocks K. -/
abbrev Res := (Nat → Prop) → World → Prop
def Stays (K : Nat → Prop) (w w' : World) : Prop := ∀ b, K b → b < w.heap.size → w'.heap[b]? = w.heap[b]?
structure Ok (P : Res) : Prop where
  keep : ∀ {K : Nat → Prop} {w w' : World}, P K w → Stays K w w' → P K w'
def starR (P Q : Res) : Res := fun K w => ∃ K1 K2, P K1 w ∧ Q K2 w ∧ (∀ b, K1 b → K b) ∧ (∀ b, K2 b → K b) ∧ ∀ b, K1 b → ¬ K2 b
theorem Ok.star {P Q : Res} (h1 : Ok P) (h2 : Ok Q) : Ok (starR P Q) := ⟨fun {K w w'} ⟨K1, K2, a1, a2, a3, a4, a5⟩ hs =>
  ⟨K1, K2, h1.keep a1 (fun b hb hl => hs b (a3 b hb) hl), h2.keep a2 (fun b hb hl => hs b (a4 b hb) hl), a3, a4, a5⟩⟩
def blks (L : List Item) : List Nat := L.filterMap Item.block
theorem mem_blks {L : List Item} {b : Nat} : b ∈ blks L ↔ ∃ x ∈ L, x.block = some b := by simp [blks]
/-- The thing P, and the items L, apart; all of it is new since w0. -/
structure TS (P : Res) (w0 w : World) (L : List Item) : Prop where
  ex : ∃ K : Nat → Prop, P K w ∧ (∀ b, K b → w0.heap.size ≤ b ∧ b < w.heap.size) ∧ ∀ x ∈ L, ∀ b, x.block = some b → ¬ K b
  mem : Mem w0 [] w L
theorem TS.reb {P : Res} {w0 w : World} {L : List Item} (h : TS P w0 w L) : Mem w (blks L) w L :=
  ⟨rfl, rfl, rfl, Nat.le_refl _, fun _ _ _ => rfl, h.mem.holds, fun x hx b hb => .inl (mem_blks.2 ⟨x, hx, hb⟩), h.mem.apart⟩
theorem TS.step {P : Res} {w0 w w' : World} {L L' : List Item} (h : TS P w0 w L) (hP : Ok P) (M : Mem w (blks L) w' L') : TS P w0 w' L' := by
  obtain ⟨K, hK, hlt, hap⟩ := h.ex
  have hst : Stays K w w' := fun b hb hl => M.old b hl (fun hin => by
    obtain ⟨x, hx, hxb⟩ := mem_blks.1 hin
    exact hap x hx b hxb hb)
  refine ⟨⟨K, hP.keep hK hst, fun b hb => ⟨(hlt b hb).1, Nat.lt_of_lt_of_le (hlt b hb).2 M.size⟩, fun x hx b hxb hb => ?_⟩, ?_⟩
  · rcases M.fresh x hx b hxb with h1 | h1
    · obtain ⟨y, hy, hyb⟩ := mem_blks.1 h1
      exact hap y hy b hyb hb
    · have := (hlt b hb).2
      omega
  · refine ⟨M.os.trans h.mem.os, M.tape.trans h.mem.tape, M.output.trans h.mem.output, Nat.le_trans h.mem.size M.size, fun i hi hn => ?_, M.holds, fun x hx b hxb => ?_, M.apart⟩
    · rw [M.old i (Nat.lt_of_lt_of_le hi h.mem.size) (fun hin => by
        obtain ⟨x, hx, hxb⟩ := mem_blks.1 hin
        have := (h.mem.fresh x hx i hxb).resolve_left (by simp)
        omega)]
      exact h.mem.old i hi hn
    · rcases M.fresh x hx b hxb with h1 | h1
      · obtain ⟨y, hy, hyb⟩ := mem_blks.1 h1
        exact h.mem.fresh y hy b hyb
      · exact .inr (Nat.le_trans h.mem.size h1)
theorem TS.call {P : Res} {w0 w w' : World} {L L2 : List Item} (h : TS P w0 w L) (hP : Ok P) (M : Mem w [] w' L2) : TS P w0 w' (L2 ++ L) := by
  obtain ⟨K, hK, hlt, hap⟩ := h.ex
  refine ⟨⟨K, hP.keep hK (fun b hb hl => M.old b hl (by simp)), fun b hb => ⟨(hlt b hb).1, Nat.lt_of_lt_of_le (hlt b hb).2 M.size⟩, fun x hx b hxb hb => ?_⟩, h.mem.join M⟩
  rcases List.mem_append.1 hx with hx | hx
  · have h1 := (M.fresh x hx b hxb).resolve_left (by simp)
    have := (hlt b hb).2
    omega
  · exact hap x hx b hxb hb
theorem TS.sub {P : Res} {w0 w : World} {L L' : List Item} (h : TS P w0 w L) (hs : L'.Sublist L) : TS P w0 w L' := by
  obtain ⟨K, hK, hlt, hap⟩ := h.ex
  exact ⟨⟨K, hK, hlt, fun x hx => hap x (hs.subset hx)⟩, h.mem.sub hs⟩
/-- A call turned what held K into P'; of what was there it wrote only K. -/
structure FootK (K : Nat → Prop) (P' : Res) (w w' : World) : Prop where
  os : w'.os = w.os
  tape : w'.tape = w.tape
  output : w'.output = w.output
  size : w.heap.size ≤ w'.heap.size
  run : ∃ K' : Nat → Prop, P' K' w' ∧ (∀ b, K' b → (K b ∨ w.heap.size ≤ b) ∧ b < w'.heap.size)
  old : ∀ b, b < w.heap.size → ¬ K b → w'.heap[b]? = w.heap[b]?
theorem TS.footK {P' : Res} {w0 w w' : World} {L : List Item} {K : Nat → Prop} (hlt : ∀ b, K b → w0.heap.size ≤ b ∧ b < w.heap.size) (hap : ∀ x ∈ L, ∀ b, x.block = some b → ¬ K b) (M : Mem w0 [] w L) (F : FootK K P' w w') : TS P' w0 w' L := by
  obtain ⟨K', hK', hn⟩ := F.run
  have hst : ∀ x ∈ L, ∀ b, x.block = some b → w'.heap[b]? = w.heap[b]? := fun x hx b hxb => F.old b (Item.lt (M.holds x hx) hxb) (hap x hx b hxb)
  refine ⟨⟨K', hK', fun b hb => ⟨?_, (hn b hb).2⟩, fun x hx b hxb hb => ?_⟩, ?_⟩
  · rcases (hn b hb).1 with h1 | h1
    · exact (hlt b h1).1
    · exact Nat.le_trans M.size h1
  · rcases (hn b hb).1 with h1 | h1
    · exact hap x hx b hxb h1
    · have := Item.lt (M.holds x hx) hxb
      omega
  · refine ⟨F.os.trans M.os, F.tape.trans M.tape, F.output.trans M.output, Nat.le_trans M.size F.size, fun i hi hn => ?_, fun x hx => Item.stays (M.holds x hx) (hst x hx), M.fresh, M.apart⟩
    rw [F.old i (Nat.lt_of_lt_of_le hi M.size) (fun hb => by
      have := (hlt i hb).1
      omega)]
    exact M.old i hi hn
theorem FootK.left {P' Q : Res} {w w' : World} {K K1 K2 : Nat → Prop} (F : FootK K1 P' w w') (hQ : Ok Q) (a2 : Q K2 w) (a3 : ∀ b, K1 b → K b) (a4 : ∀ b, K2 b → K b) (a5 : ∀ b, K1 b → ¬ K2 b) (hlt : ∀ b, K b → b < w.heap.size) : FootK K (starR P' Q) w w' := by
  obtain ⟨K1', b1, b2⟩ := F.run
  refine ⟨F.os, F.tape, F.output, F.size, ⟨fun b => K1' b ∨ K2 b, ⟨K1', K2, b1, hQ.keep a2 (fun b hb hl => F.old b hl (fun h => a5 b h hb)), fun b h => .inl h, fun b h => .inr h, fun b h h2 => ?_⟩, fun b hb => ?_⟩, fun b hl hn => F.old b hl (fun h => hn (a3 b h))⟩
  · rcases (b2 b h).1 with h1 | h1
    · exact a5 b h1 h2
    · have := hlt b (a4 b h2)
      omega
  · rcases hb with hb | hb
    · exact ⟨(b2 b hb).1.imp (a3 b) id, (b2 b hb).2⟩
    · exact ⟨.inl (a4 b hb), Nat.lt_of_lt_of_le (hlt b (a4 b hb)) F.size⟩
theorem FootK.right {P' Q : Res} {w w' : World} {K K1 K2 : Nat → Prop} (F : FootK K1 P' w w') (hQ : Ok Q) (a2 : Q K2 w) (a3 : ∀ b, K1 b → K b) (a4 : ∀ b, K2 b → K b) (a5 : ∀ b, K2 b → ¬ K1 b) (hlt : ∀ b, K b → b < w.heap.size) : FootK K (starR Q P') w w' := by
  obtain ⟨K1', b1, b2⟩ := F.run
  refine ⟨F.os, F.tape, F.output, F.size, ⟨fun b => K1' b ∨ K2 b, ⟨K2, K1', hQ.keep a2 (fun b hb hl => F.old b hl (fun h => a5 b hb h)), b1, fun b h => .inr h, fun b h => .inl h, fun b h2 h => ?_⟩, fun b hb => ?_⟩, fun b hl hn => F.old b hl (fun h => hn (a3 b h))⟩
  · rcases (b2 b h).1 with h1 | h1
    · exact a5 b h2 h1
    · have := hlt b (a4 b h2)
      omega
  · rcases hb with hb | hb
    · exact ⟨(b2 b hb).1.imp (a3 b) id, (b2 b hb).2⟩
    · exact ⟨.inl (a4 b hb), Nat.lt_of_lt_of_le (hlt b (a4 b hb)) F.size⟩
section
variable {Pr : Program} {f : FuncId} {args : Array Value} {P P' Q : Res} {w0 w : World} {L : List Item} {R : Ending → Prop}
theorem TS.run (h : TS P w0 w L) (hc : ∀ K : Nat → Prop, P K w → (∀ b, K b → b < w.heap.size) → Calls Pr f args w fun e w' => R e ∧ FootK K P' w w') : Calls Pr f args w fun e w' => R e ∧ TS P' w0 w' L := by
  obtain ⟨K, hK, hlt, hap⟩ := h.ex
  exact (hc K hK (fun b hb => (hlt b hb).2)).mono fun e w' ⟨he, F⟩ => ⟨he, TS.footK hlt hap h.mem F⟩
theorem TS.runL (h : TS (starR P Q) w0 w L) (hQ : Ok Q) (hc : ∀ K : Nat → Prop, P K w → (∀ b, K b → b < w.heap.size) → Calls Pr f args w fun e w' => R e ∧ FootK K P' w w') : Calls Pr f args w fun e w' => R e ∧ TS (starR P' Q) w0 w' L := by
  obtain ⟨K, ⟨K1, K2, a1, a2, a3, a4, a5⟩, hlt, hap⟩ := h.ex
  exact (hc K1 a1 (fun b hb => (hlt b (a3 b hb)).2)).mono fun e w' ⟨he, F⟩ => ⟨he, TS.footK hlt hap h.mem (F.left hQ a2 a3 a4 a5 (fun b hb => (hlt b hb).2))⟩
theorem TS.runR (h : TS (starR Q P) w0 w L) (hQ : Ok Q) (hc : ∀ K : Nat → Prop, P K w → (∀ b, K b → b < w.heap.size) → Calls Pr f args w fun e w' => R e ∧ FootK K P' w w') : Calls Pr f args w fun e w' => R e ∧ TS (starR Q P') w0 w' L := by
  obtain ⟨K, ⟨K2, K1, a2, a1, a4, a3, a5⟩, hlt, hap⟩ := h.ex
  exact (hc K1 a1 (fun b hb => (hlt b (a3 b hb)).2)).mono fun e w' ⟨he, F⟩ => ⟨he, TS.footK hlt hap h.mem (F.right hQ a2 a3 a4 a5 (fun b hb => (hlt b hb).2))⟩
end
/-! ### A table -/
def tabR (g : Nat) (ts : List Tm) : Res := fun K w => ∃ mb A c, TabP K w g mb A c ts
theorem tabR_ok (g : Nat) (ts : List Tm) : Ok (tabR g ts) := ⟨fun ⟨mb, A, c, T⟩ hs => ⟨mb, A, c, T.keep hs⟩⟩
theorem PutT.foot {K : Nat → Prop} {w w' : World} {g mb c : Nat} {A : Option Addr} {ts : List Tm} {t : Tm} (T : TabP K w g mb A c ts) (h : PutT K w g mb A ts t w') : FootK K (tabR g (putL ts t)) w w' := by
  obtain ⟨A', c', T', M, _⟩ := h
  exact ⟨M.os, M.tape, M.output, M.size, ⟨_, ⟨mb, A', c', T'.lt⟩, fun b hb => hb⟩, fun b hl hn => M.old b hl (fun hin => hn (T.E_lt b hin).1)⟩
/-- The name of a term. -/
def nm (ts : List Tm) (t : Tm) : List Int := nameL (ts.idxOf t : Nat)
def IsKey (k : List Int) (e : Ending) : Prop := e = .returned (.agg (nums .u8 k).toArray)
def IsStr (s : ByteArray) (e : Ending) : Prop := e = .returned (.string s)
def IsKeyB (k : List Int) (b : Bool) (e : Ending) : Prop := e = .returned (.tuple #[.agg (nums .u8 k).toArray, .bool b])
section
variable {g : Nat} {ts : List Tm} {w : World} {K : Nat → Prop}
theorem DrawK (h : tabR g ts K w) {text : ByteArray} (ht : text.size ≤ 1000) (hf : ts.length ≤ 900000) :
    Calls Try.prog 12 #[.pointer (some ⟨g, 0, none⟩), .string text] w fun e w' => IsKey (nm ts ⟨1, text, []⟩) e ∧ FootK K (tabR g (putL ts ⟨1, text, []⟩)) w w' := by
  obtain ⟨mb, A, c, T⟩ := h
  exact (Draw12 K g mb c A ts text w T ht hf).mono fun e w' ⟨he, hp⟩ => ⟨he, PutT.foot T hp⟩
theorem HashK (h : tabR g ts K w) {text : ByteArray} {B : Option Addr} {d : Nat} {ks : List (List Int)} (ht : text.size ≤ 1000) (hk : ∀ k ∈ ks, KeyOk k) (hl : ks.length ≤ 1000) (hr : RowT w 26 B (nums .u8 ks.flatten)) (hn : B = none → d = 0) (hf : ts.length ≤ 900000) :
    Calls Try.prog 13 #[.pointer (some ⟨g, 0, none⟩), .string text, .slice B ks.length d] w fun e w' => IsKey (nm ts ⟨2, text, ks⟩) e ∧ FootK K (tabR g (putL ts ⟨2, text, ks⟩)) w w' := by
  obtain ⟨mb, A, c, T⟩ := h
  exact (Hash13 K g mb c A B d ts text ks w T ht hk hl hr hn hf).mono fun e w' ⟨he, hp⟩ => ⟨he, PutT.foot T hp⟩
theorem PubK (h : tabR g ts K w) {k : List Int} (hk : KeyOk k) (hf : ts.length ≤ 900000) :
    Calls Try.prog 27 #[.pointer (some ⟨g, 0, none⟩), .agg (nums .u8 k).toArray] w fun e w' => IsKey (nm ts ⟨3, ⟨#[]⟩, [k]⟩) e ∧ FootK K (tabR g (putL ts ⟨3, ⟨#[]⟩, [k]⟩)) w w' := by
  obtain ⟨mb, A, c, T⟩ := h
  exact (Pub27 K g mb c A ts k w T hk hf).mono fun e w' ⟨he, hp⟩ => ⟨he, PutT.foot T hp⟩
theorem SealK (h : tabR g ts K w) {text : ByteArray} {k l : List Int} {B : Option Addr} {d : Nat} {ks : List (List Int)} (ht : text.size ≤ 1000) (hk : KeyOk k) (hkl : KeyOk l) (hks : ∀ k ∈ ks, KeyOk k) (hl : ks.length ≤ 900) (hr : RowT w 26 B (nums .u8 ks.flatten)) (hn : B = none → d = 0) (hf : ts.length ≤ 900000) :
    Calls Try.prog 15 #[.pointer (some ⟨g, 0, none⟩), .agg (nums .u8 k).toArray, .agg (nums .u8 l).toArray, .string text, .slice B ks.length d] w fun e w' => IsStr (strOfNums (nm ts ⟨6, text, k :: l :: ks⟩)) e ∧ FootK K (tabR g (putL ts ⟨6, text, k :: l :: ks⟩)) w w' := by
  obtain ⟨mb, A, c, T⟩ := h
  exact (Seal15 K g mb c A B d ts text k l ks w T ht hk hkl hks hl hr hn hf).mono fun e w' ⟨he, hp⟩ => ⟨he, PutT.foot T hp⟩
theorem AgreeK (h : tabR g ts K w) {s p : List Int} (hw : ∀ t ∈ ts, TmW t) (hs : KeyOk s) (hp : KeyOk p) (hf : ts.length ≤ 900000) (hz : p ≠ zK) :
    Calls Try.prog 28 #[.pointer (some ⟨g, 0, none⟩), .agg (nums .u8 s).toArray, .agg (nums .u8 p).toArray] w fun e w' => IsKeyB (nm ts (agreeT ts s p)) true e ∧ FootK K (tabR g (putL ts (agreeT ts s p))) w w' := by
  obtain ⟨mb, A, c, T⟩ := h
  exact (Agree28 K g mb c A ts s p w T hw hs hp hf hz).mono fun e w' ⟨he, hp⟩ => ⟨he, PutT.foot T hp⟩
theorem MarkK (h : tabR g ts K w) {s : ByteArray} (hs : s.size ≠ 32) (ht : s.size ≤ 900) (hf : ts.length ≤ 900000) :
    Calls Try.prog 46 #[.pointer (some ⟨g, 0, none⟩), .string s] w fun e w' => IsKey (nm ts ⟨2, boxS s, []⟩) e ∧ FootK K (tabR g (putL ts ⟨2, boxS s, []⟩)) w w' := by
  obtain ⟨mb, A, c, T⟩ := h
  exact (Mark46h K g mb c A ts s w T hs ht hf).mono fun e w' ⟨he, hp⟩ => ⟨he, PutT.foot T hp⟩
end
section
variable {P : Res} {w0 w : World} {L : List Item} {g : Nat} {ts : List Tm}
/-- A table is made. -/
theorem TS.new {M : Mem w0 [] w L} {w' : World} {g mb : Nat} (T : TabP (fun b => w.heap.size ≤ b) w' g mb none 0 []) (M2 : Mem w [] w' []) : TS (tabR g []) w0 w' L := by
  refine ⟨⟨_, ⟨mb, none, 0, T.lt⟩, fun b hb => ⟨Nat.le_trans M.size hb.1, hb.2⟩, fun x hx b hxb hb => ?_⟩, M.call M2.below⟩
  have := Item.lt (M.holds x hx) hxb
  have := hb.1
  omega
theorem Follow16T (h : TS (tabR g ts) w0 w L) (hw : ∀ t ∈ ts, TmW t) {B : Option Addr} {d : Nat} {seen : List (List Int)} (hk : ∀ k ∈ seen, KeyOk k) (hl : seen.length ≤ 1000) (hr : RowT w 26 B (nums .u8 seen.flatten)) :
    Calls Try.prog 16 #[.pointer (some ⟨g, 0, none⟩), .slice B seen.length d] w (FollowR ts seen w) := by
  obtain ⟨K, ⟨mb, A, c, T⟩, _⟩ := h.ex
  exact Follow16 K g mb c d A B ts seen w T (fun t ht => (hw t ht).k46) hk hl hr
theorem Open17T (h : TS (tabR g ts) w0 w L) (hw : ∀ t ∈ ts, TmW t) {k b : List Int} {s : ByteArray} (hk : KeyOk k) (hb : KeyOk b) :
    Calls Try.prog 17 #[.pointer (some ⟨g, 0, none⟩), .agg (nums .u8 k).toArray, .agg (nums .u8 b).toArray, .string s] w (OpenR w (openM ts k b s)) := by
  obtain ⟨K, ⟨mb, A, c, T⟩, _⟩ := h.ex
  exact Open17 K g mb c A ts k b s w T hw hk hb
theorem Len26T (h : TS (tabR g ts) w0 w L) : Calls Try.prog 26 #[.pointer (some ⟨g, 0, none⟩)] w (IntR ts.length w) := by
  obtain ⟨K, ⟨mb, A, c, T⟩, _⟩ := h.ex
  exact Len26 g ts.length c A w (by rw [cell_of_row w g 0 _ 88 (0, 0) T.hg]; rfl)
end
end Go.Proofs.Ytcapfnbmmdbcoaa
