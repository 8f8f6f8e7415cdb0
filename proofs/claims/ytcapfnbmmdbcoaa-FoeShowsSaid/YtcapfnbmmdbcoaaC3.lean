/- Walks of the term layer: a term's shape. -/
import Derived.Test.YtcapfnbmmdbcoaaC2
import Derived.Test.YtcapfnbmmdbcoaaCM
import Derived.Lib.AppendStr
set_option linter.unusedVariables false
set_option linter.unusedSimpArgs false
namespace Go.Proofs.Ytcapfnbmmdbcoaa
open Go.RowKit
section
variable {P : Program} {ops : Array Oper} {rest : List Oper} {o : Oper} {a : Act} {w w0 : World} {Q : Exit → Act → World → Prop} {E : List Nat} {L L' : List Item}
theorem Mem.toVec (M : Mem w0 E w L) {b : Nat} {e : TypeId} {cs : List Value} {size : Nat} {n : Nat} (hl : cs.length = n * size) (hn : n ≤ maxLen) (hsw : Swap (.blk b (cellsO e cs)) (.vec (some ⟨b, 0, none⟩) n n e size cs) L L') : Mem w0 E w L' := by
  have h : w.heap[b]? = some (cellsO e cs) := M.holds _ hsw.mem
  refine M.swap hsw (grownBy_refl w none) (.inl rfl) ?_ (fun b hb => .inl hb)
  exact ⟨hl, .inr ⟨b, n, cs.toArray, rfl, Nat.zero_le _, h, Nat.le_refl _, hn, by simpa using hl, by simp [← hl]⟩⟩
/-- append(v, y...), v the call's own, y a row of a block; the slot named. -/
theorem wpList_appNm (m' : Nat) (hm : o.dst = some m') {t e : TypeId} {k : IntKind} {bytes : Nat} (ht : P.underlying t = some (.slice e)) (hi : (P.info? e).map (fun i => (i.zero, i.size, i.bytes)) = some (some (.int k 0), 1, bytes)) (hgd : o.guard = none) {s x : Operand}
    (ho : o.op = .call { callee := .builtin .append, args := #[s, x], argTypes := #[t, t] }) {A : Option Addr} {n cap m c : Nat} (hs : a.eval s = .slice A n cap) {g : Nat} (hx : a.eval x = .slice (some ⟨g, 0, none⟩) m c)
    (M : Mem w0 E w L) {xs ys : List Int} {L' : Option Addr → Nat → List Item} (hsw : ∀ A' cap', Swap (.vec A n cap e 1 (nums k xs)) (.vec A' (n + m) cap' e 1 (nums k (xs ++ ys))) L (L' A' cap')) {t2 : TypeId} (hin : .blk g (rowO k t2 ys) ∈ L) (hl : ys.length = m)
    (hb : (n + m) * bytes ≤ 140737488355328) (hb2 : n + m ≤ 140737488355328)
    (h : ∀ A' cap' w', Mem w0 E w' (L' A' cap') → wpList P ops Q rest (a.put (some m') (.slice A' (n + m) cap')) w') : wpList P ops Q (o :: rest) a w :=
  wpList_appS ht hi rfl (by decide) hgd ho hs hx M (ds := nums k ys) (fun A' cap' => by rw [← nums_append]; exact hsw A' cap') (M.blkT hin) (by rw [nums_length]; omega) (nums_one k ys) hb hb2 (by rw [hm]; exact h)
theorem appStr_at {t u ty e : TypeId} {i : TypeInfo} (ht : P.underlying t = some (.slice e)) (hu : P.underlying u = some .string) (hi : P.info? e = some i) (hz : i.zero = some (.int .u8 0)) (hsize : i.size = 1) (hby : i.bytes = 1)
    {v : Value} {n : Nat} {xs : List Value} (hown : w.ownsRow 0 e 1 v n xs) {s : ByteArray} (hb : n + s.size ≤ 140737488355328) {v' : Value} {w' : World} (hr : (Builtin.append_ #[t, u] ty #[v, .string s]).run P w = .ok v' w') :
    v'.ownBlock = v.ownBlock ∨ v'.ownBlock = some w.heap.size := by
  have hxl : xs.length = n := by simpa using hown.1
  rcases hown.2 with ⟨rfl, rfl⟩ | ⟨g, cap, cur, rfl, hbg, hg, hnc, hcm, hcs, htake⟩
  · by_cases hm : s.size = 0
    · have hf := Lib.run_firstCells_string (P := P) w 1 s
      rw [hm] at hf
      have : (Builtin.append_ #[t, u] ty #[.slice none 0 0, .string s]).run P w = .ok (.slice none 0 0) w := by
        simp [Builtin.append_, run_underlying ht, run_underlying hu, sizeOf, typeInfo, hi, hsize, Builtin.lenOf, hm, hf]
      rw [this] at hr
      injection hr with h1 h2
      exact .inl (by rw [← h1])
    · have := run_append_nil_string (P := P) w t u ty e i (.int .u8 0) ht hu hi hz s (by omega) (by omega) (by rw [hby]; omega)
      rw [this] at hr
      injection hr with h1 h2
      exact .inr (by rw [← h1]; rfl)
  · by_cases hroom : n + s.size ≤ cap
    · have := Lib.run_append_room_string (P := P) w t u ty e i ht hu hi hsize g n cap cur hg s hroom (by simp at hcs; omega)
      rw [this] at hr
      injection hr with h1 h2
      exact .inl (by rw [← h1]; rfl)
    · have holds : ∀ j u, xs[j]? = some u → w.cell? ((⟨g, 0, none⟩ : Addr).add j) = some u := hown.cells (g := g) rfl
      have := Lib.run_append_grow_string (P := P) w t u ty e i (.int .u8 0) ht hu hi hz ⟨g, 0, none⟩ n cap xs (by rw [hsize]; simpa using hxl) holds s (by omega) (by omega) (by rw [hby]; exact growslice_fits (by omega) (by omega))
      rw [this] at hr
      injection hr with h1 h2
      exact .inr (by rw [← h1]; rfl)
/-- append(v, s...), v the call's own, s a text. -/
theorem wpList_appStr (m' : Nat) (hm : o.dst = some m') {t u e : TypeId} (ht : P.underlying t = some (.slice e)) (hu : P.underlying u = some .string) (hi : (P.info? e).map (fun i => (i.zero, i.size, i.bytes)) = some (some (.int .u8 0), 1, 1)) (hgd : o.guard = none) {sl x : Operand}
    (ho : o.op = .call { callee := .builtin .append, args := #[sl, x], argTypes := #[t, u] }) {A : Option Addr} {n cap : Nat} (hs : a.eval sl = .slice A n cap) {s : ByteArray} (hx : a.eval x = .string s)
    (M : Mem w0 E w L) {xs : List Int} {L' : Option Addr → Nat → List Item} (hsw : ∀ A' cap', Swap (.vec A n cap e 1 (nums .u8 xs)) (.vec A' (n + s.size) cap' e 1 (nums .u8 (xs ++ bytesOf s))) L (L' A' cap'))
    (hb : n + s.size ≤ 140737488355328)
    (h : ∀ A' cap' w', Mem w0 E w' (L' A' cap') → wpList P ops Q rest (a.put (some m') (.slice A' (n + s.size) cap')) w') : wpList P ops Q (o :: rest) a w := by
  obtain ⟨i, hii, hp⟩ := Option.map_eq_some_iff.1 hi
  simp only [Prod.mk.injEq] at hp
  obtain ⟨hz', hs', hby⟩ := hp
  have hown : w.ownsRow 0 e 1 (.slice A n cap) n (nums .u8 xs) := M.holds _ (hsw none 0).mem
  obtain ⟨v', w', hr, hown', hg, _⟩ := Lib.run_append_own_string (P := P) w 0 t u o.type e i ht hu hii hz' hs' hby (.slice A n cap) n _ hown s (by simp only [maxLen]; omega) hb (Nat.zero_le _)
  have hat := appStr_at ht hu hii hz' hs' hby hown hb hr
  have hnb : nums .u8 xs ++ Lib.strCells s = nums .u8 (xs ++ bytesOf s) := by simp [nums, Lib.strCells, bytesOf]
  rw [hnb] at hown'
  obtain ⟨A', cap', rfl⟩ := own_form hown'
  refine wpList_plain hgd fun K hK => ?_
  unfold Oper.wp execOp
  simp only [ho, resolve, invoke, builtin, Sem.run_bind, Sem.run_pure, Result.andThen_ok, List.map_toArray, List.map_cons, List.map_nil, hs, hx, hr]
  rw [← hm] at h
  refine hK _ _ (h A' cap' w' (M.swap (hsw A' cap') hg (.inr rfl) hown' (fun b hb' => ?_)))
  rcases hat with hat | hat
  · left; rw [Item.block, ← hat]; exact hb'
  · right
    have : some b = some w.heap.size := by rw [← hat]; exact hb'.symm
    simp only [Option.some.injEq] at this
    omega
end
/-! ### Rows of keys -/
def KeyOk (k : List Int) : Prop := k.length = 32 ∧ ∀ x ∈ k, isByte x
theorem flat_at : ∀ {ks : List (List Int)} {i : Nat} {k : List Int}, (∀ k ∈ ks, KeyOk k) → ks[i]? = some k → ∀ j, j < 32 → ks.flatten[32 * i + j]? = k[j]?
  | [], i, k, _, hi, j, hj => by simp at hi
  | q :: ks, 0, k, hk, hi, j, hj => by
    simp only [List.getElem?_cons_zero, Option.some.injEq] at hi
    subst hi
    have := (hk q (by simp)).1
    rw [List.flatten_cons, Nat.mul_zero, Nat.zero_add, List.getElem?_append_left (by omega)]
  | q :: ks, i + 1, k, hk, hi, j, hj => by
    simp only [List.getElem?_cons_succ] at hi
    have h1 := (hk q (by simp)).1
    rw [List.flatten_cons, List.getElem?_append_right (by omega), show 32 * (i + 1) + j - q.length = 32 * i + j from by omega]
    exact flat_at (fun k h => hk k (by simp [h])) hi j hj
theorem flat_len : ∀ {ks : List (List Int)}, (∀ k ∈ ks, KeyOk k) → ks.flatten.length = ks.length * 32
  | [], _ => rfl
  | q :: ks, hk => by
    rw [List.flatten_cons, List.length_append, (hk q (by simp)).1, flat_len (fun k h => hk k (by simp [h])), List.length_cons]
    omega
theorem keys_at {w : World} {A : Option Addr} {ks : List (List Int)} (hk : ∀ k ∈ ks, KeyOk k) (h : RowT w 26 A (nums .u8 ks.flatten)) {i : Nat} {k : List Int} (hi : ks[i]? = some k) :
    ∃ b off, A = some ⟨b, off, none⟩ ∧ ∀ (j : Nat) (v : Value), (nums .u8 k)[j]? = some v → w.cell? ⟨b, off + i * 32 + j, none⟩ = some v := by
  have hkk := hk k (List.mem_of_getElem? hi)
  have h0 := flat_at hk hi 0 (by decide)
  have e0 : (nums .u8 ks.flatten)[32 * i + 0]? = some (.int .u8 (rd k 0)) := by
    rw [nums, List.getElem?_map, h0, ← List.getElem?_map]
    exact nums_get .u8 k 0 (by rw [hkk.1]; decide)
  obtain ⟨b, off, hA, _⟩ := h.cell e0
  refine ⟨b, off, hA, fun j v hj => ?_⟩
  have hjl : j < 32 := by
    have := (List.getElem?_eq_some_iff.1 hj).1
    rw [nums_length, hkk.1] at this
    exact this
  subst hA
  have := h.at (i := 32 * i + j) (v := v) (by rw [nums, List.getElem?_map, flat_at hk hi j hjl, ← List.getElem?_map]; exact hj)
  rw [Nat.add_assoc, Nat.mul_comm]
  exact this
theorem flat_takeI {α : Type} (qs : List (List α)) (i : Nat) (q : List α) (h : qs[i]? = some q) : (qs.take (i + 1)).flatten = (qs.take i).flatten ++ q := by
  obtain ⟨hl, rfl⟩ := List.getElem?_eq_some_iff.1 h
  rw [List.take_succ_eq_append_getElem hl, List.flatten_append]
  simp
/-! ### A term as a text -/
def StrR (s : ByteArray) (w : World) (e : Ending) (w' : World) : Prop := e = .returned (.string s) ∧ Mem w [] w' []
def shapeL (kind : Int) (text : ByteArray) (ks : List (List Int)) : List Int := [kind] ++ fourL text.size ++ bytesOf text ++ ks.flatten
section
variable {ops : Array Oper} {rest : List Oper} {o : Oper} {a : Act} {w w0 : World} {Q : Exit → Act → World → Prop} {E : List Nat} {L L' : List Item}
theorem iz5 : (Try.prog.info? 5).map (fun i => (i.zero, i.size)) = some (some (.int .u8 0), 1) := by kernel_rfl
theorem i5' : (Try.prog.info? 5).map (fun i => (i.zero, i.size, i.bytes)) = some (some (.int .u8 0), 1, 1) := by kernel_rfl
/-- A slice of one byte is made. -/
theorem wpList_bsB1 (m : Nat) (hm : o.dst = some m) (hgd : o.guard = none) {x : Operand} (ho : o.op = .buildSlice 37 1 #[(0, x)]) {v : Int} (hx : a.eval x = .int .u8 v) (M : Mem w0 E w L)
    (h : ∀ b w', Mem w0 E w' (.vec (some ⟨b, 0, none⟩) 1 1 5 1 (nums .u8 [v]) :: L) → wpList Try.prog ops Q rest (a.put (some m) (.slice (some ⟨b, 0, none⟩) 1 1)) w') : wpList Try.prog ops Q (o :: rest) a w :=
  wpList_bsN Try.underlying37 iz5 m hm hgd ho (by decide) (cs := nums .u8 [v]) (by rw [show (#[(0, x)] : Array (Nat × Operand)).toList.map (fun (i, x) => (i, a.eval x)) = [(0, .int .u8 v)] from by simp [hx]]; kernel_rfl) M fun b w' M' => h b w' (M'.toVec (n := 1) rfl (by decide) Swap.head)
end
def FourR (n : Int) (w : World) (e : Ending) (w' : World) : Prop := ∃ b, e = .returned (.slice (some ⟨b, 0, none⟩) 4 4) ∧ Mem w [] w' [.blk b (rowO .u8 5 (fourL n))]
theorem four79' (n : Int) (w : World) (h0 : 0 ≤ n) (hn : n ≤ 1000000000000) : Calls Try.prog 79 #[.int .i64 n] w (FourR n w) := four79 n w h0 hn
set_option maxRecDepth 100000 in
set_option maxHeartbeats 1000000 in
theorem shape65 (kind : Int) (text : ByteArray) (A : Option Addr) (c : Nat) (ks : List (List Int)) (w : World) (h0 : 0 ≤ kind) (h1 : kind < 256) (ht : text.size ≤ 1000) (hn : ks.length ≤ 1000) (hk : ∀ k ∈ ks, KeyOk k) (hr : RowT w 26 A (nums .u8 ks.flatten)) :
    Calls Try.prog 65 #[.agg #[.int .i64 kind, .string text, .slice A ks.length c]] w (StrR (strOfNums (shapeL kind text ks)) w) := by
  have M0 := Mem.start w
  have hw8 : IntKind.u8.wrap kind = kind := IntWalk.u8_in kind (by omega)
  have HW := hid hw8
  have HK := hid hk
  have HR := hid hr
  clear hw8 hk hr
  go_enter Try.func65, Try.ntmps65
  go_wp2_with (refine wpList_bx rfl rfl M0 rfl rfl (fun b w' M1 => ?_); (conv => arg 5; simp only [Act.put, List.setIfInBounds_toArray, List.set_cons_succ, List.set_cons_zero]))
  clear M0
  refine wp_region_planT (.free 0 (.free 1 (.free 2 (.free 4 (.free 5 (.free 6 (.two 3 (.one 7 (.one 8 (.free 9 (.done)))) 7 (.one 3 (.one 8 (.free 9 (.done))))))))))) (by kernel_rfl) (by kernel_rfl) (fun _ _ _ _ _ h => h) M1 (fun w1 M2 => ?_)
  clear M1
  (refine wpT_free rfl rfl (.inl ⟨rfl, fun w _ => by go_simp; rfl⟩) (by assumption) ?_; (conv => arg 6; simp only [Act.put, List.setIfInBounds_toArray, List.set_cons_succ, List.set_cons_zero]))
  refine wpT_free rfl rfl (.inl ⟨rfl, fun w hw => run_ld1 Try.underlying3 rfl rfl rfl (hw.cell List.mem_cons_self (i := 0) rfl)⟩) (by assumption) ?_; (conv => arg 6; simp only [Act.put, List.setIfInBounds_toArray, List.set_cons_succ, List.set_cons_zero])
  refine wpT_free (v := .int .u8 kind) rfl rfl (.inl ⟨rfl, fun w _ => by go_simp; rw [HW.out]⟩) (by assumption) ?_; (conv => arg 6; simp only [Act.put, List.setIfInBounds_toArray, List.set_cons_succ, List.set_cons_zero])
  (refine wpT_free rfl rfl (.inl ⟨rfl, fun w _ => by go_simp; rfl⟩) (by assumption) ?_; (conv => arg 6; simp only [Act.put, List.setIfInBounds_toArray, List.set_cons_succ, List.set_cons_zero]))
  refine wpT_free rfl rfl (.inl ⟨rfl, fun w hw => run_ld1 Try.underlying9 rfl rfl rfl (hw.cell List.mem_cons_self (i := 1) rfl)⟩) (by assumption) ?_; (conv => arg 6; simp only [Act.put, List.setIfInBounds_toArray, List.set_cons_succ, List.set_cons_zero])
  (refine wpT_free rfl rfl (.inl ⟨rfl, fun w _ => by go_simp; rfl⟩) (by assumption) ?_; (conv => arg 6; simp only [Act.put, List.setIfInBounds_toArray, List.set_cons_succ, List.set_cons_zero]))
  refine wpT_two rfl rfl ?_ ?_
  ·
    go_wp2_with (refine wpList_bsB1 9 rfl rfl rfl rfl M2 (fun b9 w2 M3 => ?_); (conv => arg 5; simp only [Act.put, List.setIfInBounds_toArray, List.set_cons_succ, List.set_cons_zero]))
    clear M2
    refine PlanTQ.mk (M3.sub (by simp)) (wpT_op rfl ?_)
    go_wp2_with (go_at_call 79; refine (four79' (text.size : Int) _ (by omega) (by omega)).mono ?_; rintro e w3 ⟨b13, rfl, M4⟩)
    have M5 := M3.join M4
    clear M4 M3
    refine PlanTQ.mk (M5.sub (by simp)) (wpT_op rfl ?_)
    (refine wpList_appNm 14 rfl Try.underlying37 i5' rfl rfl rfl rfl M5 (fun A' cap' => Swap.tail Swap.head) List.mem_cons_self rfl (by decide) (by decide) (fun A' cap' w4 M6 => ?_); (conv => arg 5; simp only [Act.put, List.setIfInBounds_toArray, List.set_cons_succ, List.set_cons_zero]))
    go_wp2_with fail
    have MS : Mem w [] w4 [.blk b (cellsO 95 [.int .i64 kind, .string text, .slice A ks.length c])] := M6.sub (by simp)
    have M7 : Mem w [] w4 [.vec A' 5 cap' 5 1 (nums .u8 ([kind] ++ fourL text.size)), .blk b (cellsO 95 [.int .i64 kind, .string text, .slice A ks.length c])] := M6.sub (List.sublist_cons_self _ _)
    clear M5
    refine PlanTQ.mk MS ?_
    (refine wpT_free rfl rfl (.inl ⟨rfl, fun w _ => by go_simp; rfl⟩) (by assumption) ?_; (conv => arg 6; simp only [Act.put, List.setIfInBounds_toArray, List.set_cons_succ, List.set_cons_zero]))
    refine wpT_done ?_
    clear MS
    clear M6
    have c1 := M7.cell (i := 1) (v := .string text) (List.mem_cons_of_mem _ List.mem_cons_self) rfl
    go_wp2_with (refine wpList_appStr 18 rfl Try.underlying37 Try.underlying9 i5' rfl rfl rfl rfl M7 (fun A' cap' => Swap.head) (by omega) (fun A2 cap2 w5 M8 => ?_); have c2 := M8.cell (i := 2) (v := .slice A ks.length c) (List.mem_cons_of_mem _ List.mem_cons_self) rfl; clear c1 M7; (conv => arg 5; simp only [Act.put, List.setIfInBounds_toArray, List.set_cons_succ, List.set_cons_zero]))
    clear c2
    obtain ⟨pre, hpre⟩ : ∃ x, x = [kind] ++ fourL text.size ++ bytesOf text := ⟨_, rfl⟩
    obtain ⟨n0, hn0⟩ : ∃ x, x = 5 + text.size := ⟨_, rfl⟩
    have hn1 : n0 ≤ 1005 := by omega
    rw [← hpre, ← hn0] at M8
    rw [← hn0]
    have HP := hid hpre
    clear hpre hn0
    have M9 := M8.sub (List.Sublist.cons_cons _ (List.nil_sublist _))
    clear M8
    go_loopw [3, 22] (fun s n wr => ∃ (i : Nat) (A : Option Addr) (cap : Nat), i ≤ ks.length ∧ n = .int .i64 i ∧ s = .slice A (n0 + i * 32) cap ∧ Mem w [] wr [.vec A (n0 + i * 32) cap 5 1 (nums .u8 (pre ++ (ks.take i).flatten))]) (fun _ n _ => ks.length - (intOf n).toNat)
    case atStart => exact ⟨0, A2, cap2, by omega, rfl, rfl, by simpa using M9⟩
    case round =>
      obtain ⟨i, A3, cap3, hi, rfl, rfl, Mi⟩ := hrel
      clear M9
      by_cases hlt : i < ks.length
      · have hltI : (i : Int) < (ks.length : Int) := by omega
        obtain ⟨k, hke⟩ : ∃ k, ks[i]? = some k := ⟨ks[i], List.getElem?_eq_getElem hlt⟩
        obtain ⟨bk, off, rfl, hcells⟩ := keys_at HK.out (HR.out.mem Mi) hke
        have hkk := (HK.out k (List.mem_of_getElem? hke)).1
        have hn2 : n0 + i * 32 + 32 ≤ 40000 := by omega
        have hft := hid (flat_takeI ks i k hke)
        clear hke
        go_wp2_with (first | (refine wpList_ldagg 25 rfl Try.underlying26 rfl rfl rfl rfl hcells (by rw [nums_length, hkk]; exact s26) ?_; (conv => arg 5; simp only [Act.put, List.setIfInBounds_toArray, List.set_cons_succ, List.set_cons_zero])) | (refine wpList_appNm 28 rfl Try.underlying37 i5' rfl rfl rfl rfl M' (fun A' cap' => Swap.tail Swap.head) List.mem_cons_self hkk (by omega) (by omega) (fun A4 cap4 w8 M8 => ?_); (conv => arg 5; simp only [Act.put, List.setIfInBounds_toArray, List.set_cons_succ, List.set_cons_zero])) | (first | (apply wpList_ldN Try.underlying3; (· rfl); (· rfl); (· rfl); (· rfl); (· assumption); (· (repeat (first | exact List.mem_cons_self | refine List.mem_cons_of_mem _ ?_))); (· (first | with_reducible assumption | omega | (simp only [nums_length, List.length_set, List.length_replicate]; first | with_reducible assumption | omega) | rfl | (simp [*]; done) | (simp [*]; omega))); (conv => arg 5; simp only [Act.put, List.setIfInBounds_toArray, List.set_cons_succ, List.set_cons_zero])) | (apply wpList_app1 Try.underlying37 i5; (· rfl); (· rfl); (· rfl); (· rfl); (· assumption); (· intro A' cap'; (repeat (first | exact Swap.head | apply Swap.tail))); (· omega); (· omega); intro A' cap' w' M'; (conv => arg 5; simp only [Act.put, List.setIfInBounds_toArray, List.set_cons_succ, List.set_cons_zero])) | (apply wpList_app4 Try.underlying37 i5; (· rfl); (· rfl); (· rfl); (· rfl); (· assumption); (· intro A' cap'; (repeat (first | exact Swap.head | apply Swap.tail))); (· omega); (· omega); intro A' cap' w' M'; (conv => arg 5; simp only [Act.put, List.setIfInBounds_toArray, List.set_cons_succ, List.set_cons_zero])) | (apply wpList_ldrowN Try.underlying26 s26; (· rfl); (· rfl); (· rfl); (· rfl); (· assumption); (· (repeat (first | exact List.mem_cons_self | refine List.mem_cons_of_mem _ ?_))); (· (first | with_reducible assumption | omega | (simp only [nums_length, List.length_set, List.length_replicate]; first | with_reducible assumption | omega) | rfl | (simp [*]; done) | (simp [*]; omega))); (conv => arg 5; simp only [Act.put, List.setIfInBounds_toArray, List.set_cons_succ, List.set_cons_zero])) | (apply wpList_alN z26 5; (· rfl); (· rfl); (· rfl); (· assumption); intro b5 w' M'; (conv => arg 5; simp only [Act.put, List.setIfInBounds_toArray, List.set_cons_succ, List.set_cons_zero])) | (apply wpList_strowN s26; (· rfl); (· rfl); (· rfl); (· rfl); (· assumption); (· (repeat (first | exact Swap.head | apply Swap.tail))); (· (first | with_reducible assumption | omega | (simp only [nums_length, List.length_set, List.length_replicate]; first | with_reducible assumption | omega) | rfl | (simp [*]; done) | (simp [*]; omega))); (· (first | with_reducible assumption | omega | (simp only [nums_length, List.length_set, List.length_replicate]; first | with_reducible assumption | omega) | rfl | (simp [*]; done) | (simp [*]; omega))); intro w' M'; (conv => arg 5; simp only [Act.put, List.setIfInBounds_toArray, List.set_cons_succ, List.set_cons_zero])) | (apply wpList_slW Try.underlying26 s5 (by decide); (· rfl); (· rfl); (· rfl); (conv => arg 5; simp only [Act.put, List.setIfInBounds_toArray, List.set_cons_succ, List.set_cons_zero, IntWalk.toNatUp, Nat.add_sub_cancel_left, Nat.add_sub_cancel, Nat.zero_add, Nat.add_zero, Nat.sub_zero])) | (apply wpList_cvV Try.underlying37 Try.underlying5 Try.underlying9; (· rfl); (· rfl); (· rfl); (· assumption); (· (repeat (first | exact List.mem_cons_self | refine List.mem_cons_of_mem _ ?_))); (conv => arg 5; simp only [Act.put, List.setIfInBounds_toArray, List.set_cons_succ, List.set_cons_zero])) | (apply wpList_cvS Try.underlying37 Try.underlying5 Try.underlying9; (· rfl); (· rfl); (· rfl); (· assumption); (· (repeat (first | exact List.mem_cons_self | refine List.mem_cons_of_mem _ ?_))); (· (first | with_reducible assumption | omega | (simp only [nums_length, List.length_set, List.length_replicate]; first | with_reducible assumption | omega) | rfl | (simp [*]; done) | (simp [*]; omega))); (conv => arg 5; simp only [Act.put, List.setIfInBounds_toArray, List.set_cons_succ, List.set_cons_zero]))))
        go_round
        case rel =>
          refine ⟨i + 1, A4, cap4, by omega, by go_num, by rw [show n0 + (i + 1) * 32 = n0 + i * 32 + 32 from by omega], ?_⟩
          rw [hft.out, ← List.append_assoc, show n0 + (i + 1) * 32 = n0 + i * 32 + 32 from by omega]
          exact M8.sub (List.sublist_cons_self _ _)
        case measure => simp [intOf]; omega
      · obtain rfl : i = ks.length := by omega
        rw [List.take_of_length_le (Nat.le_refl _)] at Mi
        go_wp2_with (first | (apply wpList_ldN Try.underlying3; (· rfl); (· rfl); (· rfl); (· rfl); (· assumption); (· (repeat (first | exact List.mem_cons_self | refine List.mem_cons_of_mem _ ?_))); (· (first | with_reducible assumption | omega | (simp only [nums_length, List.length_set, List.length_replicate]; first | with_reducible assumption | omega) | rfl | (simp [*]; done) | (simp [*]; omega))); (conv => arg 5; simp only [Act.put, List.setIfInBounds_toArray, List.set_cons_succ, List.set_cons_zero])) | (apply wpList_app1 Try.underlying37 i5; (· rfl); (· rfl); (· rfl); (· rfl); (· assumption); (· intro A' cap'; (repeat (first | exact Swap.head | apply Swap.tail))); (· omega); (· omega); intro A' cap' w' M'; (conv => arg 5; simp only [Act.put, List.setIfInBounds_toArray, List.set_cons_succ, List.set_cons_zero])) | (apply wpList_app4 Try.underlying37 i5; (· rfl); (· rfl); (· rfl); (· rfl); (· assumption); (· intro A' cap'; (repeat (first | exact Swap.head | apply Swap.tail))); (· omega); (· omega); intro A' cap' w' M'; (conv => arg 5; simp only [Act.put, List.setIfInBounds_toArray, List.set_cons_succ, List.set_cons_zero])) | (apply wpList_ldrowN Try.underlying26 s26; (· rfl); (· rfl); (· rfl); (· rfl); (· assumption); (· (repeat (first | exact List.mem_cons_self | refine List.mem_cons_of_mem _ ?_))); (· (first | with_reducible assumption | omega | (simp only [nums_length, List.length_set, List.length_replicate]; first | with_reducible assumption | omega) | rfl | (simp [*]; done) | (simp [*]; omega))); (conv => arg 5; simp only [Act.put, List.setIfInBounds_toArray, List.set_cons_succ, List.set_cons_zero])) | (apply wpList_alN z26 5; (· rfl); (· rfl); (· rfl); (· assumption); intro b5 w' M'; (conv => arg 5; simp only [Act.put, List.setIfInBounds_toArray, List.set_cons_succ, List.set_cons_zero])) | (apply wpList_strowN s26; (· rfl); (· rfl); (· rfl); (· rfl); (· assumption); (· (repeat (first | exact Swap.head | apply Swap.tail))); (· (first | with_reducible assumption | omega | (simp only [nums_length, List.length_set, List.length_replicate]; first | with_reducible assumption | omega) | rfl | (simp [*]; done) | (simp [*]; omega))); (· (first | with_reducible assumption | omega | (simp only [nums_length, List.length_set, List.length_replicate]; first | with_reducible assumption | omega) | rfl | (simp [*]; done) | (simp [*]; omega))); intro w' M'; (conv => arg 5; simp only [Act.put, List.setIfInBounds_toArray, List.set_cons_succ, List.set_cons_zero])) | (apply wpList_slW Try.underlying26 s5 (by decide); (· rfl); (· rfl); (· rfl); (conv => arg 5; simp only [Act.put, List.setIfInBounds_toArray, List.set_cons_succ, List.set_cons_zero, IntWalk.toNatUp, Nat.add_sub_cancel_left, Nat.add_sub_cancel, Nat.zero_add, Nat.add_zero, Nat.sub_zero])) | (apply wpList_cvV Try.underlying37 Try.underlying5 Try.underlying9; (· rfl); (· rfl); (· rfl); (· assumption); (· (repeat (first | exact List.mem_cons_self | refine List.mem_cons_of_mem _ ?_))); (conv => arg 5; simp only [Act.put, List.setIfInBounds_toArray, List.set_cons_succ, List.set_cons_zero])) | (apply wpList_cvS Try.underlying37 Try.underlying5 Try.underlying9; (· rfl); (· rfl); (· rfl); (· assumption); (· (repeat (first | exact List.mem_cons_self | refine List.mem_cons_of_mem _ ?_))); (· (first | with_reducible assumption | omega | (simp only [nums_length, List.length_set, List.length_replicate]; first | with_reducible assumption | omega) | rfl | (simp [*]; done) | (simp [*]; omega))); (conv => arg 5; simp only [Act.put, List.setIfInBounds_toArray, List.set_cons_succ, List.set_cons_zero])))
        go_ret
        refine ⟨?_, Mi.sub (List.nil_sublist _)⟩
        show Ending.returned (.string (strOfNums (pre ++ ks.flatten))) = _
        rw [HP.out]
        rfl
  ·
    go_wp2_with (go_at_call 79; refine (four79' (text.size : Int) _ (by omega) (by omega)).mono ?_; rintro e w3 ⟨b13, rfl, M4⟩)
    have M3 := M2.join M4
    clear M4 M2
    refine PlanTQ.mk (M3.sub (by simp)) (wpT_op rfl ?_)
    go_wp2_with (refine wpList_bsB1 9 rfl rfl rfl rfl M3 (fun b9 w2 M5 => ?_); (conv => arg 5; simp only [Act.put, List.setIfInBounds_toArray, List.set_cons_succ, List.set_cons_zero]))
    clear M3
    refine PlanTQ.mk (M5.sub (by simp)) (wpT_op rfl ?_)
    (refine wpList_appNm 14 rfl Try.underlying37 i5' rfl rfl rfl rfl M5 (fun A' cap' => Swap.head) (List.mem_cons_of_mem _ List.mem_cons_self) rfl (by decide) (by decide) (fun A' cap' w4 M6 => ?_); (conv => arg 5; simp only [Act.put, List.setIfInBounds_toArray, List.set_cons_succ, List.set_cons_zero]))
    go_wp2_with fail
    have MS : Mem w [] w4 [.blk b (cellsO 95 [.int .i64 kind, .string text, .slice A ks.length c])] := M6.sub (by simp)
    have M7 : Mem w [] w4 [.vec A' 5 cap' 5 1 (nums .u8 ([kind] ++ fourL text.size)), .blk b (cellsO 95 [.int .i64 kind, .string text, .slice A ks.length c])] := M6.sub (List.Sublist.cons_cons _ (List.sublist_cons_self _ _))
    clear M5
    refine PlanTQ.mk MS ?_
    (refine wpT_free rfl rfl (.inl ⟨rfl, fun w _ => by go_simp; rfl⟩) (by assumption) ?_; (conv => arg 6; simp only [Act.put, List.setIfInBounds_toArray, List.set_cons_succ, List.set_cons_zero]))
    refine wpT_done ?_
    clear MS
    clear M6
    have c1 := M7.cell (i := 1) (v := .string text) (List.mem_cons_of_mem _ List.mem_cons_self) rfl
    go_wp2_with (refine wpList_appStr 18 rfl Try.underlying37 Try.underlying9 i5' rfl rfl rfl rfl M7 (fun A' cap' => Swap.head) (by omega) (fun A2 cap2 w5 M8 => ?_); have c2 := M8.cell (i := 2) (v := .slice A ks.length c) (List.mem_cons_of_mem _ List.mem_cons_self) rfl; clear c1 M7; (conv => arg 5; simp only [Act.put, List.setIfInBounds_toArray, List.set_cons_succ, List.set_cons_zero]))
    clear c2
    obtain ⟨pre, hpre⟩ : ∃ x, x = [kind] ++ fourL text.size ++ bytesOf text := ⟨_, rfl⟩
    obtain ⟨n0, hn0⟩ : ∃ x, x = 5 + text.size := ⟨_, rfl⟩
    have hn1 : n0 ≤ 1005 := by omega
    rw [← hpre, ← hn0] at M8
    rw [← hn0]
    have HP := hid hpre
    clear hpre hn0
    have M9 := M8.sub (List.Sublist.cons_cons _ (List.nil_sublist _))
    clear M8
    go_loopw [3, 22] (fun s n wr => ∃ (i : Nat) (A : Option Addr) (cap : Nat), i ≤ ks.length ∧ n = .int .i64 i ∧ s = .slice A (n0 + i * 32) cap ∧ Mem w [] wr [.vec A (n0 + i * 32) cap 5 1 (nums .u8 (pre ++ (ks.take i).flatten))]) (fun _ n _ => ks.length - (intOf n).toNat)
    case atStart => exact ⟨0, A2, cap2, by omega, rfl, rfl, by simpa using M9⟩
    case round =>
      obtain ⟨i, A3, cap3, hi, rfl, rfl, Mi⟩ := hrel
      clear M9
      by_cases hlt : i < ks.length
      · have hltI : (i : Int) < (ks.length : Int) := by omega
        obtain ⟨k, hke⟩ : ∃ k, ks[i]? = some k := ⟨ks[i], List.getElem?_eq_getElem hlt⟩
        obtain ⟨bk, off, rfl, hcells⟩ := keys_at HK.out (HR.out.mem Mi) hke
        have hkk := (HK.out k (List.mem_of_getElem? hke)).1
        have hn2 : n0 + i * 32 + 32 ≤ 40000 := by omega
        have hft := hid (flat_takeI ks i k hke)
        clear hke
        go_wp2_with (first | (refine wpList_ldagg 25 rfl Try.underlying26 rfl rfl rfl rfl hcells (by rw [nums_length, hkk]; exact s26) ?_; (conv => arg 5; simp only [Act.put, List.setIfInBounds_toArray, List.set_cons_succ, List.set_cons_zero])) | (refine wpList_appNm 28 rfl Try.underlying37 i5' rfl rfl rfl rfl M' (fun A' cap' => Swap.tail Swap.head) List.mem_cons_self hkk (by omega) (by omega) (fun A4 cap4 w8 M8 => ?_); (conv => arg 5; simp only [Act.put, List.setIfInBounds_toArray, List.set_cons_succ, List.set_cons_zero])) | (first | (apply wpList_ldN Try.underlying3; (· rfl); (· rfl); (· rfl); (· rfl); (· assumption); (· (repeat (first | exact List.mem_cons_self | refine List.mem_cons_of_mem _ ?_))); (· (first | with_reducible assumption | omega | (simp only [nums_length, List.length_set, List.length_replicate]; first | with_reducible assumption | omega) | rfl | (simp [*]; done) | (simp [*]; omega))); (conv => arg 5; simp only [Act.put, List.setIfInBounds_toArray, List.set_cons_succ, List.set_cons_zero])) | (apply wpList_app1 Try.underlying37 i5; (· rfl); (· rfl); (· rfl); (· rfl); (· assumption); (· intro A' cap'; (repeat (first | exact Swap.head | apply Swap.tail))); (· omega); (· omega); intro A' cap' w' M'; (conv => arg 5; simp only [Act.put, List.setIfInBounds_toArray, List.set_cons_succ, List.set_cons_zero])) | (apply wpList_app4 Try.underlying37 i5; (· rfl); (· rfl); (· rfl); (· rfl); (· assumption); (· intro A' cap'; (repeat (first | exact Swap.head | apply Swap.tail))); (· omega); (· omega); intro A' cap' w' M'; (conv => arg 5; simp only [Act.put, List.setIfInBounds_toArray, List.set_cons_succ, List.set_cons_zero])) | (apply wpList_ldrowN Try.underlying26 s26; (· rfl); (· rfl); (· rfl); (· rfl); (· assumption); (· (repeat (first | exact List.mem_cons_self | refine List.mem_cons_of_mem _ ?_))); (· (first | with_reducible assumption | omega | (simp only [nums_length, List.length_set, List.length_replicate]; first | with_reducible assumption | omega) | rfl | (simp [*]; done) | (simp [*]; omega))); (conv => arg 5; simp only [Act.put, List.setIfInBounds_toArray, List.set_cons_succ, List.set_cons_zero])) | (apply wpList_alN z26 5; (· rfl); (· rfl); (· rfl); (· assumption); intro b5 w' M'; (conv => arg 5; simp only [Act.put, List.setIfInBounds_toArray, List.set_cons_succ, List.set_cons_zero])) | (apply wpList_strowN s26; (· rfl); (· rfl); (· rfl); (· rfl); (· assumption); (· (repeat (first | exact Swap.head | apply Swap.tail))); (· (first | with_reducible assumption | omega | (simp only [nums_length, List.length_set, List.length_replicate]; first | with_reducible assumption | omega) | rfl | (simp [*]; done) | (simp [*]; omega))); (· (first | with_reducible assumption | omega | (simp only [nums_length, List.length_set, List.length_replicate]; first | with_reducible assumption | omega) | rfl | (simp [*]; done) | (simp [*]; omega))); intro w' M'; (conv => arg 5; simp only [Act.put, List.setIfInBounds_toArray, List.set_cons_succ, List.set_cons_zero])) | (apply wpList_slW Try.underlying26 s5 (by decide); (· rfl); (· rfl); (· rfl); (conv => arg 5; simp only [Act.put, List.setIfInBounds_toArray, List.set_cons_succ, List.set_cons_zero, IntWalk.toNatUp, Nat.add_sub_cancel_left, Nat.add_sub_cancel, Nat.zero_add, Nat.add_zero, Nat.sub_zero])) | (apply wpList_cvV Try.underlying37 Try.underlying5 Try.underlying9; (· rfl); (· rfl); (· rfl); (· assumption); (· (repeat (first | exact List.mem_cons_self | refine List.mem_cons_of_mem _ ?_))); (conv => arg 5; simp only [Act.put, List.setIfInBounds_toArray, List.set_cons_succ, List.set_cons_zero])) | (apply wpList_cvS Try.underlying37 Try.underlying5 Try.underlying9; (· rfl); (· rfl); (· rfl); (· assumption); (· (repeat (first | exact List.mem_cons_self | refine List.mem_cons_of_mem _ ?_))); (· (first | with_reducible assumption | omega | (simp only [nums_length, List.length_set, List.length_replicate]; first | with_reducible assumption | omega) | rfl | (simp [*]; done) | (simp [*]; omega))); (conv => arg 5; simp only [Act.put, List.setIfInBounds_toArray, List.set_cons_succ, List.set_cons_zero]))))
        go_round
        case rel =>
          refine ⟨i + 1, A4, cap4, by omega, by go_num, by rw [show n0 + (i + 1) * 32 = n0 + i * 32 + 32 from by omega], ?_⟩
          rw [hft.out, ← List.append_assoc, show n0 + (i + 1) * 32 = n0 + i * 32 + 32 from by omega]
          exact M8.sub (List.sublist_cons_self _ _)
        case measure => simp [intOf]; omega
      · obtain rfl : i = ks.length := by omega
        rw [List.take_of_length_le (Nat.le_refl _)] at Mi
        go_wp2_with (first | (apply wpList_ldN Try.underlying3; (· rfl); (· rfl); (· rfl); (· rfl); (· assumption); (· (repeat (first | exact List.mem_cons_self | refine List.mem_cons_of_mem _ ?_))); (· (first | with_reducible assumption | omega | (simp only [nums_length, List.length_set, List.length_replicate]; first | with_reducible assumption | omega) | rfl | (simp [*]; done) | (simp [*]; omega))); (conv => arg 5; simp only [Act.put, List.setIfInBounds_toArray, List.set_cons_succ, List.set_cons_zero])) | (apply wpList_app1 Try.underlying37 i5; (· rfl); (· rfl); (· rfl); (· rfl); (· assumption); (· intro A' cap'; (repeat (first | exact Swap.head | apply Swap.tail))); (· omega); (· omega); intro A' cap' w' M'; (conv => arg 5; simp only [Act.put, List.setIfInBounds_toArray, List.set_cons_succ, List.set_cons_zero])) | (apply wpList_app4 Try.underlying37 i5; (· rfl); (· rfl); (· rfl); (· rfl); (· assumption); (· intro A' cap'; (repeat (first | exact Swap.head | apply Swap.tail))); (· omega); (· omega); intro A' cap' w' M'; (conv => arg 5; simp only [Act.put, List.setIfInBounds_toArray, List.set_cons_succ, List.set_cons_zero])) | (apply wpList_ldrowN Try.underlying26 s26; (· rfl); (· rfl); (· rfl); (· rfl); (· assumption); (· (repeat (first | exact List.mem_cons_self | refine List.mem_cons_of_mem _ ?_))); (· (first | with_reducible assumption | omega | (simp only [nums_length, List.length_set, List.length_replicate]; first | with_reducible assumption | omega) | rfl | (simp [*]; done) | (simp [*]; omega))); (conv => arg 5; simp only [Act.put, List.setIfInBounds_toArray, List.set_cons_succ, List.set_cons_zero])) | (apply wpList_alN z26 5; (· rfl); (· rfl); (· rfl); (· assumption); intro b5 w' M'; (conv => arg 5; simp only [Act.put, List.setIfInBounds_toArray, List.set_cons_succ, List.set_cons_zero])) | (apply wpList_strowN s26; (· rfl); (· rfl); (· rfl); (· rfl); (· assumption); (· (repeat (first | exact Swap.head | apply Swap.tail))); (· (first | with_reducible assumption | omega | (simp only [nums_length, List.length_set, List.length_replicate]; first | with_reducible assumption | omega) | rfl | (simp [*]; done) | (simp [*]; omega))); (· (first | with_reducible assumption | omega | (simp only [nums_length, List.length_set, List.length_replicate]; first | with_reducible assumption | omega) | rfl | (simp [*]; done) | (simp [*]; omega))); intro w' M'; (conv => arg 5; simp only [Act.put, List.setIfInBounds_toArray, List.set_cons_succ, List.set_cons_zero])) | (apply wpList_slW Try.underlying26 s5 (by decide); (· rfl); (· rfl); (· rfl); (conv => arg 5; simp only [Act.put, List.setIfInBounds_toArray, List.set_cons_succ, List.set_cons_zero, IntWalk.toNatUp, Nat.add_sub_cancel_left, Nat.add_sub_cancel, Nat.zero_add, Nat.add_zero, Nat.sub_zero])) | (apply wpList_cvV Try.underlying37 Try.underlying5 Try.underlying9; (· rfl); (· rfl); (· rfl); (· assumption); (· (repeat (first | exact List.mem_cons_self | refine List.mem_cons_of_mem _ ?_))); (conv => arg 5; simp only [Act.put, List.setIfInBounds_toArray, List.set_cons_succ, List.set_cons_zero])) | (apply wpList_cvS Try.underlying37 Try.underlying5 Try.underlying9; (· rfl); (· rfl); (· rfl); (· assumption); (· (repeat (first | exact List.mem_cons_self | refine List.mem_cons_of_mem _ ?_))); (· (first | with_reducible assumption | omega | (simp only [nums_length, List.length_set, List.length_replicate]; first | with_reducible assumption | omega) | rfl | (simp [*]; done) | (simp [*]; omega))); (conv => arg 5; simp only [Act.put, List.setIfInBounds_toArray, List.set_cons_succ, List.set_cons_zero])))
        go_ret
        refine ⟨?_, Mi.sub (List.nil_sublist _)⟩
        show Ending.returned (.string (strOfNums (pre ++ ks.flatten))) = _
        rw [HP.out]
        rfl
end Go.Proofs.Ytcapfnbmmdbcoaa
