/- Walks of the term layer: a table is made; atoms, hashes, public keys, boxes. -/
import Derived.Test.YtcapfnbmmdbcoaaC5
set_option linter.unusedVariables false
set_option linter.unusedSimpArgs false
namespace Go.Proofs.Ytcapfnbmmdbcoaa
open Go.RowKit
section
variable {P : Program} {ops : Array Oper} {rest : List Oper} {o : Oper} {a : Act} {w w0 w' : World} {Q : Exit → Act → World → Prop} {E : List Nat} {L L' : List Item}
theorem Item.stays {x : Item} (h : x.holds w) (hb : ∀ b, x.block = some b → w'.heap[b]? = w.heap[b]?) : x.holds w' := by
  cases x with
  | blk b o =>
    show w'.heap[b]? = some o
    rw [hb b rfl]
    exact h
  | vec A n c t size cs =>
    have h : w.ownsRow 0 t size (.slice A n c) n cs := h
    show w'.ownsRow 0 t size (.slice A n c) n cs
    rcases h.2 with ⟨h', hn⟩ | ⟨b, cap, cur, h', a1, a2, a3⟩
    · exact ⟨h.1, .inl ⟨h', hn⟩⟩
    · refine ⟨h.1, .inr ⟨b, cap, cur, h', a1, ?_, a3⟩⟩
      rw [hb b (by injection h' with e1 _ _; rw [e1]; rfl), a2]
/-- A call that writes some old blocks: what is new stays. -/
theorem Mem.callE (M : Mem w0 [] w L) (M2 : Mem w E w' []) (hE : ∀ b ∈ E, b < w0.heap.size) : Mem w0 E w' L :=
  ⟨M2.os.trans M.os, M2.tape.trans M.tape, M2.output.trans M.output, Nat.le_trans M.size M2.size,
    fun i hi hn => (M2.old i (Nat.lt_of_lt_of_le hi M.size) hn).trans (M.old i hi (by simp)),
    fun x hx => Item.stays (M.holds x hx) (fun b hb => M2.old b (Item.lt (M.holds x hx) hb) (fun hin => by
      have h1 := (M.fresh x hx b hb).resolve_left (by simp)
      have h2 := hE b hin
      omega)),
    fun x hx b hb => .inr ((M.fresh x hx b hb).resolve_left (by simp)), M.apart⟩
theorem wpList_strowNG {ty : TypeId} {n : Nat} (hsz : (P.info? ty).map (·.size) = some n) (hgd : o.guard = none) {x y : Operand} (ho : o.op = .store ty x y) {g : Nat} (hx : a.eval x = .pointer (some ⟨g, 0, none⟩)) {k : IntKind} {ys : List Int} (hy : a.eval y = .agg (nums k ys).toArray)
    (M : Mem w0 E w L) {t : TypeId} {xs : List Int} (hs : Swap (.blk g (rowO k t xs)) (.blk g (rowO k t ys)) L L') (hn : xs.length = n) (hn' : ys.length = n)
    (h : ∀ w', Mem w0 E w' L' → w.grownBy w' (some g) → wpList P ops Q rest (a.put o.dst undef) w') : wpList P ops Q (o :: rest) a w :=
  wpList_plain hgd fun K hK => by
    have hr := run_storeVar_row (P := P) w g t ty (nums k xs).toArray (nums k ys).toArray (M.holds _ hs.mem) (by rw [hsz]; simp [nums_length, hn']) (by simp [nums_length, hn, hn']) (by simpa [Array.all_eq_true_iff_forall_mem] using nums_one k ys)
    unfold Oper.wp execOp
    simp only [ho, hx, hy, Instr.storeAt, Instr.sureAddr, Sem.run_bind, Sem.run_pure, Result.andThen_ok, hr]
    exact hK _ _ (h _ (M.setRow hs) (grown_setRow w g _))
/-- An empty map. -/
theorem wpList_mkMap (hgd : o.guard = none) {t : TypeId} (ho : o.op = .makeMap t none) (M : Mem w0 E w L)
    (h : ∀ b w', Mem w0 E w' (.blk b (mapO []) :: L) → wpList P ops Q rest (a.put o.dst (.map (some b))) w') : wpList P ops Q (o :: rest) a w :=
  wpList_plain hgd fun K hK => by
    have hr : (Instr.makeMap t none).run P w = .ok (.map (some w.heap.size)) (w.alloc (mapO [])) := by
      simp [Instr.makeMap, newObj, Sem.run]
      rfl
    unfold Oper.wp execOp
    simp only [ho, Option.map_none, Sem.run_bind, Sem.run_pure, Result.andThen_ok, hr]
    exact hK _ _ (h _ _ (M.alloc _))
end
theorem TabP.after {K : Nat → Prop} {w w1 w2 w4 : World} {g mb c b4 : Nat} {A : Option Addr} {ts : List Tm} (T : TabP (fun b => (K b ∧ b < w.heap.size) ∨ w1.heap.size ≤ b) w2 g mb A c ts) (h1 : w.heap.size ≤ b4) (h2 : b4 < w1.heap.size) (hg : w2.grownBy w4 (some b4)) :
    TabP (fun b => K b ∨ w.heap.size ≤ b) w4 g mb A c ts :=
  (T.keep fun b hb hl => hg.block b hl (by
    rcases hb with ⟨_, hb⟩ | hb
    · simp only [ne_eq, Option.some.injEq]; omega
    · simp only [ne_eq, Option.some.injEq]; omega)).mono fun b hb => by
      rcases hb with ⟨hb, _⟩ | hb
      · exact .inl hb
      · exact .inr (by omega)
theorem tmOk {k : Int} {text : ByteArray} {ks : List (List Int)} (h0 : 0 ≤ k) (h1 : k < 256) (h2 : text.size ≤ 1000) (h3 : ks.length ≤ 1000) (h4 : ∀ k ∈ ks, KeyOk k) : TmOk ⟨k, text, ks⟩ := ⟨h0, h1, h2, h3, h4⟩
def NewR (w : World) (e : Ending) (w' : World) : Prop := ∃ g mb, e = .returned (.pointer (some ⟨g, 0, none⟩)) ∧ TabP (fun b => w.heap.size ≤ b) w' g mb none 0 [] ∧ Mem w [] w' []
set_option maxRecDepth 100000 in
theorem New11 (w : World) : Calls Try.prog 11 #[] w (NewR w) := by
  have M0 := Mem.start w
  go_enter Try.func11, Try.ntmps11
  go_wp2_with (first | (refine wpList_mkMap rfl rfl M0 (fun mb w1 M1 => ?_); (conv => arg 5; simp only [Act.put, List.setIfInBounds_toArray, List.set_cons_succ, List.set_cons_zero])) | (refine wpList_bx (cs := [.slice none 0 0, .map (some mb)]) rfl rfl M1 rfl rfl (fun g w2 M2 => ?_); (conv => arg 5; simp only [Act.put, List.setIfInBounds_toArray, List.set_cons_succ, List.set_cons_zero])))
  go_ret
  have f1 := (M2.fresh _ List.mem_cons_self g rfl).resolve_left (by simp)
  have f2 := (M2.fresh _ (List.mem_cons_of_mem _ List.mem_cons_self) mb rfl).resolve_left (by simp)
  exact ⟨g, mb, rfl, ⟨M2.holds _ List.mem_cons_self, M2.holds _ (List.mem_cons_of_mem _ List.mem_cons_self), ⟨[], World.ownsRow_nil _ 0 95 3, fun i t h => by simp at h⟩, by simp, by simp, by simp, f1, f2, by simp [blkA]⟩, M2.sub (List.nil_sublist _)⟩
set_option maxRecDepth 100000 in
set_option maxHeartbeats 1000000 in
theorem Draw12 (K : Nat → Prop) (g mb c : Nat) (A : Option Addr) (ts : List Tm) (text : ByteArray) (w : World) (h : TabP K w g mb A c ts) (ht : text.size ≤ 1000) (hf : ts.length ≤ 900000) :
    Calls Try.prog 12 #[.pointer (some ⟨g, 0, none⟩), .string text] w (PutR K w g mb A ts ⟨1, text, []⟩) := by
  have M0 := Mem.start w
  have HT := hid h
  have HOK := hid (show TmOk ⟨1, text, []⟩ from tmOk (by decide) (by decide) ht (by simp) (by simp))
  clear h
  go_enter Try.func12, Try.ntmps12
  go_wp2_with (first | (apply wpList_alN z26 4; (· rfl); (· rfl); (· rfl); (· exact M0); intro b4 w1 M1; (conv => arg 5; simp only [Act.put, List.setIfInBounds_toArray, List.set_cons_succ, List.set_cons_zero])) | (go_at_call 39; refine (put39 (fun b => K b ∧ b < w.heap.size) g mb c A none 0 ts ⟨1, text, []⟩ _ (HT.out.lt.below M1.below) HOK.out RowT.nil (fun _ => rfl) hf).mono ?_; rintro e w2 ⟨rfl, A', c', T2, M2, hA2⟩; have M3 := M1.callE M2 (fun b hb => (HT.out.E_lt b hb).2); have hb1 := (M1.fresh _ List.mem_cons_self b4 rfl).resolve_left (by simp); have hb2 := Item.lt (M1.holds _ List.mem_cons_self) (b := b4) rfl; have hsz := M1.size) | (refine wpList_strowNG s26 rfl rfl rfl rfl M3 Swap.head rfl (nameL_length _) (fun w4 M4 hgr => ?_); (conv => arg 5; simp only [Act.put, List.setIfInBounds_toArray, List.set_cons_succ, List.set_cons_zero])))
  ((try simp only [Exit.inBlock, Exit.then]); apply ret_rowN Try.underlying26 s26; (· rfl); (· rfl); (· rfl); (· rfl); (· assumption); (· (repeat (first | exact List.mem_cons_self | refine List.mem_cons_of_mem _ ?_))); (· (first | with_reducible assumption | omega | (simp only [nums_length, List.length_set, List.length_replicate]; first | with_reducible assumption | omega) | rfl | (simp [*]; done) | (simp [*]; omega))); skip)
  have M5 := M4.sub (List.nil_sublist _)
  exact ⟨rfl, A', c', T2.after hb1 hb2 hgr, M5, fun b hb => (hA2 b hb).imp id (fun h => Nat.le_trans hsz h)⟩
set_option maxRecDepth 100000 in
set_option maxHeartbeats 1000000 in
theorem Hash13 (K : Nat → Prop) (g mb c : Nat) (A B : Option Addr) (d : Nat) (ts : List Tm) (text : ByteArray) (ks : List (List Int)) (w : World) (h : TabP K w g mb A c ts) (ht : text.size ≤ 1000) (hk : ∀ k ∈ ks, KeyOk k) (hl : ks.length ≤ 1000) (hr : RowT w 26 B (nums .u8 ks.flatten)) (hn : B = none → d = 0) (hf : ts.length ≤ 900000) :
    Calls Try.prog 13 #[.pointer (some ⟨g, 0, none⟩), .string text, .slice B ks.length d] w (PutR K w g mb A ts ⟨2, text, ks⟩) := by
  have M0 := Mem.start w
  have HT := hid h
  have HOK := hid (show TmOk ⟨2, text, ks⟩ from tmOk (by decide) (by decide) ht hl hk)
  have HR := hid hr
  have HN := hid hn
  clear h hr hn
  go_enter Try.func13, Try.ntmps13
  go_wp2_with (first | (apply wpList_alN z26 6; (· rfl); (· rfl); (· rfl); (· exact M0); intro b4 w1 M1; (conv => arg 5; simp only [Act.put, List.setIfInBounds_toArray, List.set_cons_succ, List.set_cons_zero])) | (go_at_call 39; refine (put39 (fun b => K b ∧ b < w.heap.size) g mb c A B d ts ⟨2, text, ks⟩ _ (HT.out.lt.below M1.below) HOK.out (HR.out.mem M1) HN.out hf).mono ?_; rintro e w2 ⟨rfl, A', c', T2, M2, hA2⟩; have M3 := M1.callE M2 (fun b hb => (HT.out.E_lt b hb).2); have hb1 := (M1.fresh _ List.mem_cons_self b4 rfl).resolve_left (by simp); have hb2 := Item.lt (M1.holds _ List.mem_cons_self) (b := b4) rfl; have hsz := M1.size) | (refine wpList_strowNG s26 rfl rfl rfl rfl M3 Swap.head rfl (nameL_length _) (fun w4 M4 hgr => ?_); (conv => arg 5; simp only [Act.put, List.setIfInBounds_toArray, List.set_cons_succ, List.set_cons_zero])))
  ((try simp only [Exit.inBlock, Exit.then]); apply ret_rowN Try.underlying26 s26; (· rfl); (· rfl); (· rfl); (· rfl); (· assumption); (· (repeat (first | exact List.mem_cons_self | refine List.mem_cons_of_mem _ ?_))); (· (first | with_reducible assumption | omega | (simp only [nums_length, List.length_set, List.length_replicate]; first | with_reducible assumption | omega) | rfl | (simp [*]; done) | (simp [*]; omega))); skip)
  have M5 := M4.sub (List.nil_sublist _)
  exact ⟨rfl, A', c', T2.after hb1 hb2 hgr, M5, fun b hb => (hA2 b hb).imp id (fun h => Nat.le_trans hsz h)⟩
set_option maxRecDepth 100000 in
set_option maxHeartbeats 1000000 in
theorem Pub27 (K : Nat → Prop) (g mb c : Nat) (A : Option Addr) (ts : List Tm) (k : List Int) (w : World) (h : TabP K w g mb A c ts) (hk : KeyOk k) (hf : ts.length ≤ 900000) :
    Calls Try.prog 27 #[.pointer (some ⟨g, 0, none⟩), .agg (nums .u8 k).toArray] w (PutR K w g mb A ts ⟨3, ⟨#[]⟩, [k]⟩) := by
  have M0 := Mem.start w
  have HT := hid h
  have HOK := hid (show TmOk ⟨3, ⟨#[]⟩, [k]⟩ from tmOk (by decide) (by decide) (by decide) (by simp) (by simpa using hk))
  have HK := hid hk
  clear h hk
  go_enter Try.func27, Try.ntmps27
  go_wp2_with (first | (refine wpList_bxN 3 rfl rfl rfl rfl M0 (fun b3 w0 M1 => ?_); clear M0; (conv => arg 5; simp only [Act.put, List.setIfInBounds_toArray, List.set_cons_succ, List.set_cons_zero])) | (refine wpList_alN z26 4 rfl rfl rfl M1 (fun b4 w0 M2 => ?_); clear M1; (conv => arg 5; simp only [Act.put, List.setIfInBounds_toArray, List.set_cons_succ, List.set_cons_zero])) | (refine wpList_ldrowN Try.underlying26 s26 rfl rfl rfl rfl M2 (List.mem_cons_of_mem _ List.mem_cons_self) HK.out.1 ?_; (conv => arg 5; simp only [Act.put, List.setIfInBounds_toArray, List.set_cons_succ, List.set_cons_zero])) | (refine wpList_bsK1 7 rfl rfl rfl rfl HK.out M2 (fun b7 w1 M3 => ?_); clear M2; (conv => arg 5; simp only [Act.put, List.setIfInBounds_toArray, List.set_cons_succ, List.set_cons_zero])) | (go_at_call 39; refine (put39 (fun b => K b ∧ b < w.heap.size) g mb c A (some ⟨b7, 0, none⟩) 1 ts ⟨3, ⟨#[]⟩, [k]⟩ _ (HT.out.lt.below M3.below) HOK.out (M3.blkT List.mem_cons_self) (fun h => by cases h) hf).mono ?_; rintro e w2 ⟨rfl, A', c', T2, M2, hA2⟩; have M4 := M3.callE M2 (fun b hb => (HT.out.E_lt b hb).2); have hb1 := (M3.fresh _ (List.mem_cons_of_mem _ List.mem_cons_self) b4 rfl).resolve_left (by simp); have hb2 := Item.lt (M3.holds _ (List.mem_cons_of_mem _ List.mem_cons_self)) (b := b4) rfl; have hsz := M3.size; clear M2 M3) | (refine wpList_strowNG s26 rfl rfl rfl rfl M4 (Swap.tail Swap.head) rfl (nameL_length _) (fun w4 M4 hgr => ?_); (conv => arg 5; simp only [Act.put, List.setIfInBounds_toArray, List.set_cons_succ, List.set_cons_zero])))
  ((try simp only [Exit.inBlock, Exit.then]); apply ret_rowN Try.underlying26 s26; (· rfl); (· rfl); (· rfl); (· rfl); (· assumption); (· (repeat (first | exact List.mem_cons_self | refine List.mem_cons_of_mem _ ?_))); (· (first | with_reducible assumption | omega | (simp only [nums_length, List.length_set, List.length_replicate]; first | with_reducible assumption | omega) | rfl | (simp [*]; done) | (simp [*]; omega))); skip)
  have M5 := M4.sub (List.nil_sublist _)
  exact ⟨rfl, A', c', T2.after hb1 hb2 hgr, M5, fun b hb => (hA2 b hb).imp id (fun h => Nat.le_trans hsz h)⟩
/-- A box comes back. -/
def SealR (K : Nat → Prop) (w : World) (g mb : Nat) (A : Option Addr) (ts : List Tm) (t : Tm) (e : Ending) (w' : World) : Prop :=
  e = .returned (.string (strOfNums (nameL (ts.idxOf t : Nat)))) ∧ ∃ A' c', TabP (fun b => K b ∨ w.heap.size ≤ b) w' g mb A' c' (putL ts t) ∧ Mem w (TabE g mb A) w' [] ∧ ∀ b ∈ blkA A', b ∈ blkA A ∨ w.heap.size ≤ b
set_option maxRecDepth 100000 in
set_option maxHeartbeats 1000000 in
theorem Seal15 (K : Nat → Prop) (g mb c : Nat) (A B : Option Addr) (d : Nat) (ts : List Tm) (text : ByteArray) (k l : List Int) (ks : List (List Int)) (w : World) (h : TabP K w g mb A c ts) (ht : text.size ≤ 1000) (hk : KeyOk k) (hkl : KeyOk l) (hks : ∀ k ∈ ks, KeyOk k) (hl : ks.length ≤ 900) (hr : RowT w 26 B (nums .u8 ks.flatten)) (hn : B = none → d = 0) (hf : ts.length ≤ 900000) :
    Calls Try.prog 15 #[.pointer (some ⟨g, 0, none⟩), .agg (nums .u8 k).toArray, .agg (nums .u8 l).toArray, .string text, .slice B ks.length d] w (SealR K w g mb A ts ⟨6, text, k :: l :: ks⟩) := by
  have M0 := Mem.start w
  have HT := hid h
  have HOK := hid (show TmOk ⟨6, text, k :: l :: ks⟩ from tmOk (by decide) (by decide) ht (by simp; omega) (by simpa using ⟨hk, hkl, hks⟩))
  have HK := hid hk
  have HL := hid hkl
  have HR := hid hr
  have HN := hid hn
  have hfl := flat_len hks
  have HF2 := hid (show [k, l].flatten.length = 64 from by simp [hk.1, hkl.1])
  have hlen : 2 + ks.length = (k :: l :: ks).length := by simp; omega
  have hap : nums .u8 [k, l].flatten ++ nums .u8 ks.flatten = nums .u8 (k :: l :: ks).flatten := by simp [nums]
  have HAP := hid hap
  clear h hk hkl hr hn hap
  go_enter Try.func15, Try.ntmps15
  go_wp2_with (first | (refine wpList_bxN 6 rfl rfl rfl rfl M0 (fun b6 w0 M1 => ?_); clear M0; (conv => arg 5; simp only [Act.put, List.setIfInBounds_toArray, List.set_cons_succ, List.set_cons_zero])) | (refine wpList_bxN 7 rfl rfl rfl rfl M1 (fun b7 w0 M2 => ?_); clear M1; (conv => arg 5; simp only [Act.put, List.setIfInBounds_toArray, List.set_cons_succ, List.set_cons_zero])) | (refine wpList_ldrowN Try.underlying26 s26 rfl rfl rfl rfl M2 (List.mem_cons_of_mem _ List.mem_cons_self) HK.out.1 ?_; (conv => arg 5; simp only [Act.put, List.setIfInBounds_toArray, List.set_cons_succ, List.set_cons_zero])) | (refine wpList_ldrowN Try.underlying26 s26 rfl rfl rfl rfl M2 List.mem_cons_self HL.out.1 ?_; (conv => arg 5; simp only [Act.put, List.setIfInBounds_toArray, List.set_cons_succ, List.set_cons_zero])) | (refine wpList_bsK2 16 rfl rfl rfl rfl rfl HK.out HL.out M2 (fun b16 w1 M3 => ?_); clear M2; (conv => arg 5; simp only [Act.put, List.setIfInBounds_toArray, List.set_cons_succ, List.set_cons_zero])) | (refine wpList_appSm 18 rfl Try.underlying34 i26' rfl (by decide) rfl rfl rfl rfl (M3.toVec (n := 2) (size := 32) (by rw [nums_length]; exact HF2.out) (by decide) Swap.head) (fun A' cap' => Swap.head) (HR.out.mem M3) (by rw [nums_length, hfl]) (nums_one .u8 _) (by omega) (by omega) (fun A2 c2 w2 M4 => ?_); rw [HAP.out] at M4; have hn2 := M4.vec_nil List.mem_cons_self; rw [hlen]; clear M3; (conv => arg 5; simp only [Act.put, List.setIfInBounds_toArray, List.set_cons_succ, List.set_cons_zero])) | (go_at_call 39; refine (put39 K g mb c A A2 c2 ts ⟨6, text, k :: l :: ks⟩ _ (HT.out.below M4.below) HOK.out (M4.vecT List.mem_cons_self) hn2 hf).mono ?_; rintro e w3 ⟨rfl, A', c', T2, M5, hA2⟩; have M6 := M4.callE M5 (fun b hb => (HT.out.E_lt b hb).2); have hsz := M4.size; have N0 := Mem.start w3; clear M5 M4) | (refine wpList_alN z26 11 rfl rfl rfl N0 (fun b11 w4 N1 => ?_); clear N0; (conv => arg 5; simp only [Act.put, List.setIfInBounds_toArray, List.set_cons_succ, List.set_cons_zero])) | (refine wpList_strowN s26 rfl rfl rfl rfl N1 Swap.head rfl (nameL_length _) (fun w5 N2 => ?_); clear N1; (conv => arg 5; simp only [Act.put, List.setIfInBounds_toArray, List.set_cons_succ, List.set_cons_zero])) | (refine wpList_slW Try.underlying26 (by kernel_rfl) (by decide) rfl rfl rfl ?_; (conv => arg 5; simp only [Act.put, List.setIfInBounds_toArray, List.set_cons_succ, List.set_cons_zero])) | (refine wpList_cvS Try.underlying37 Try.underlying5 Try.underlying9 rfl rfl rfl N2 List.mem_cons_self (by rw [nameL_length]; decide) ?_; rw [List.drop_zero, List.take_of_length_le (by rw [nameL_length]; decide)]; (conv => arg 5; simp only [Act.put, List.setIfInBounds_toArray, List.set_cons_succ, List.set_cons_zero])))
  go_ret
  exact ⟨rfl, A', c', (T2.below N2.below).mono (fun b hb => hb.imp id (fun h => Nat.le_trans hsz h)), (M6.call N2.below).sub (List.nil_sublist _), fun b hb => (hA2 b hb).imp id (fun h => Nat.le_trans hsz h)⟩
end Go.Proofs.Ytcapfnbmmdbcoaa
