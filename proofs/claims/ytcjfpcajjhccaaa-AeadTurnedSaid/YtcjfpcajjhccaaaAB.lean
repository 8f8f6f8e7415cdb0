/- copy(d, s), s a string. -/
import Derived.Test.YtcjfpcajjhccaaaP7
import Derived.Test.YtcjfpcajjhccaaaAA
import Derived.Laws.Strings
set_option linter.unusedVariables false
set_option linter.unusedSimpArgs false
namespace Go.Proofs.Ytcjfpcajjhccaaa
open Go.RowKit
section
variable {P : Program} {ops : Array Oper} {rest : List Oper} {o : Oper} {a : Act} {w w0 : World} {Q : Exit → Act → World → Prop} {E : List Nat} {L L' : List Item}
theorem extract_nums (s : ByteArray) (n : Nat) : nums .u8 ((bytesOf s).take n) = (s.data.toList.map fun x => Value.int .u8 (x.toNat : Int)).take n := by
  simp [nums, bytesOf, List.map_take]
  rfl
theorem wpList_cpS (n : Nat) (pre us post : List Value) {dT sT e : TypeId} (hu : P.underlying dT = some (.slice e)) (hsz : (P.info? e).map (·.size) = some 1) (hgd : o.guard = none) {d x : Operand}
    (ho : o.op = .call { callee := .builtin .copy, args := #[d, x], argTypes := #[dT, sT] }) {g off dLen dCap : Nat} (hd : a.eval d = .slice (some ⟨g, off, none⟩) dLen dCap) {s : ByteArray} (hx : a.eval x = .string s)
    (M : Mem w0 E w L) {t : TypeId} (hn : n = Nat.min s.size dLen) (hsw : Swap (.blk g (cellsO t (pre ++ us ++ post))) (.blk g (cellsO t (pre ++ nums .u8 ((bytesOf s).take n) ++ post))) L L')
    (hoff : off = pre.length) (hl : us.length = n)
    (h : ∀ w', Mem w0 E w' L' → wpList P ops Q rest (a.put o.dst (goInt n)) w') : wpList P ops Q (o :: rest) a w :=
  wpList_plain hgd fun K hK => by
    have hvl : (nums .u8 ((bytesOf s).take n)).length = n := by
      have : n ≤ s.size := by rw [hn]; exact Nat.min_le_left _ _
      rw [nums_length, List.length_take, bytesOf_length]
      omega
    have hc : ∀ j, j < n → w.cell? ⟨g, off + j, none⟩ = some (us.getD j undef) := fun j hj => by
      have e : us[j]? = some (us.getD j undef) := by rw [List.getD_eq_getElem?_getD, List.getElem?_eq_getElem (by omega)]; rfl
      exact M.range hsw.mem hoff j _ e
    have hst := run_storeCells_cells (P := P) g off (nums .u8 ((bytesOf s).take n)) 0 w (by rw [hvl]; intro j hj; rw [Nat.add_zero, hc j hj]; rfl) (by rw [hvl]; intro j hj; rw [Nat.add_zero]; exact M.free hsw.mem _) (by
      intro v hv
      obtain ⟨z, _, rfl⟩ := List.mem_map.1 hv
      rfl)
    have hr : (Builtin.copy_ #[dT, sT] o.type #[.slice (some ⟨g, off, none⟩) dLen dCap, .string s]).run P w = .ok (goInt n) (w.setCells g off (nums .u8 ((bytesOf s).take n))) := by
      cases hq : P.info? e with
      | none => simp [hq] at hsz
      | some i =>
        have hi : i.size = 1 := by simpa [hq] using hsz
        have he := extract_nums s n
        rw [he] at hst ⊢
        rw [Nat.add_zero] at hst
        simp [Builtin.copy_, run_underlying hu, Builtin.lenOf, Builtin.firstCells, sizeOf, typeInfo, hq, hi, ← hn, hst]
    unfold Oper.wp execOp
    simp only [ho, resolve, invoke, builtin, Sem.run_bind, Sem.run_pure, Result.andThen_ok, List.map_toArray, List.map_cons, List.map_nil, hd, hx, hr]
    exact hK _ _ (h _ (M.setCells hsw hoff (by rw [hl, hvl])))
end
end Go.Proofs.Ytcjfpcajjhccaaa
namespace Go.Proofs.Ytcjfpcajjhccaaa
open Go.RowKit
def sumLen (ps : List ByteArray) : Nat := (bytesAll ps).length
theorem sumLen_take (ps : List ByteArray) (i : Nat) (s : ByteArray) (h : ps[i]? = some s) : sumLen (ps.take (i + 1)) = sumLen (ps.take i) + s.size := by
  rw [sumLen, sumLen, bytesAll_take ps i s h, List.length_append, bytesOf_length]
/-- A slice of five strings is made. -/
theorem wpList_bsS5 {ops : Array Oper} {rest : List Oper} {o : Oper} {a : Act} {w w0 : World} {Q : Exit → Act → World → Prop} {E : List Nat} {L : List Item} (m : Nat) (hm : o.dst = some m) (hgd : o.guard = none) {x0 x1 x2 x3 x4 : Operand} (ho : o.op = .buildSlice 41 5 #[(0, x0), (1, x1), (2, x2), (3, x3), (4, x4)]) {s0 s1 s2 s3 s4 : ByteArray} (h0 : a.eval x0 = .string s0) (h1 : a.eval x1 = .string s1) (h2 : a.eval x2 = .string s2) (h3 : a.eval x3 = .string s3) (h4 : a.eval x4 = .string s4) (M : Mem w0 E w L)
    (h : ∀ b w', Mem w0 E w' (.blk b (strsO 9 [s0, s1, s2, s3, s4]) :: L) → wpList Try.prog ops Q rest (a.put (some m) (.slice (some ⟨b, 0, none⟩) 5 5)) w') : wpList Try.prog ops Q (o :: rest) a w :=
  wpList_bsN Try.underlying41 zi9 m hm hgd ho (by decide) (cs := [.string s0, .string s1, .string s2, .string s3, .string s4]) (by rw [show (#[(0, x0), (1, x1), (2, x2), (3, x3), (4, x4)] : Array (Nat × Operand)).toList.map (fun (i, x) => (i, a.eval x)) = [(0, .string s0), (1, .string s1), (2, .string s2), (3, .string s3), (4, .string s4)] from by simp [h0, h1, h2, h3, h4]]; kernel_rfl) M h
set_option maxRecDepth 100000 in
set_option maxHeartbeats 2000000 in
theorem Tag51 (key : List Int) (s text : ByteArray) (A : Option Addr) (cap : Nat) (ps : List ByteArray) (w : World) (hk : key.length = 32) (hkb : digOk 256 key) (hs : s.size = 12) (ht : text.size ≤ 2000) (hA : RowS w A ps) (hn : ps.length ≤ 20) (hp : ∀ p ∈ ps, p.size ≤ 1000) :
    Calls Try.prog 51 #[.agg (nums .u8 key).toArray, .string s, .string text, .slice A ps.length cap] w fun e w' => e = .returned (.string (strOfNums (tagK (tagKey key (bytesOf s)) (macL (bytesAll ps) (bytesOf text))))) ∧ Below w.heap.size w w' := by
  have M0 := Mem.start w
  have H19 := hid (fun w' => Block19 key s 0 w' hk hkb hs)
  obtain ⟨k2, hk2⟩ : ∃ x, x = tagKey key (bytesOf s) := ⟨_, rfl⟩
  have lk2 : k2.length = 32 := by rw [hk2]; exact tagKey_length _ _
  have ok2 : digOk 256 k2 := by rw [hk2]; exact tagKey_ok _ _
  obtain ⟨bk, hbk⟩ : ∃ x, x = strOfNums (blockB key (bytesOf s) 0) := ⟨_, rfl⟩
  have zbk : bk.size = 64 := by rw [hbk, strOfNums_size, blockB_length]
  have bbk : k2 = (bytesOf bk).take 32 := by rw [hk2, tagKey, hbk, bytesOf_str _ (blockB_bytes _ _ _)]
  rw [← hbk] at H19
  rw [← hk2]
  have HB := hid bbk
  have HZ := hid zbk
  have Ok2 := hid ok2
  clear hk2 hbk zbk bbk hkb hs ok2
  go_enter Try.func51, Try.ntmps51
  go_wp2_with (first | (go_at_call 19; refine (H19.out _).mono ?_; rintro e w' ⟨rfl, hb⟩; replace M' := M'.call hb) | (refine wpList_cpS 32 [] (nums .u8 (List.replicate 32 0)) [] Try.underlying47 s5 rfl rfl rfl rfl M' (by rw [HZ.out]; decide) Swap.head rfl rfl (fun w' M2 => ?_); (conv => arg 5; simp only [Act.put, List.setIfInBounds_toArray, List.set_cons_succ, List.set_cons_zero]); replace M2 : Mem w [] w' [.blk b11 (rowO .u8 23 k2), .blk b4 (rowO .u8 23 key)] := (by rw [HB.out]; simpa using M2); clear M') | (apply wpList_bxN 4; (· rfl); (· rfl); (· rfl); (· rfl); (· assumption); intro b4 w' M'; (conv => arg 5; simp only [Act.put, List.setIfInBounds_toArray, List.set_cons_succ, List.set_cons_zero])) | (apply wpList_ldrowN Try.underlying23 s23; (· rfl); (· rfl); (· rfl); (· rfl); (· assumption); (· (repeat (first | exact List.mem_cons_self | refine List.mem_cons_of_mem _ ?_))); (· (first | with_reducible assumption | omega | (simp only [nums_length, List.length_set, List.length_replicate]; first | with_reducible assumption | omega) | rfl | (simp [*]; done) | (simp [*]; omega))); (conv => arg 5; simp only [Act.put, List.setIfInBounds_toArray, List.set_cons_succ, List.set_cons_zero])) | (apply wpList_alN z23 11; (· rfl); (· rfl); (· rfl); (· assumption); intro b11 w' M'; (conv => arg 5; simp only [Act.put, List.setIfInBounds_toArray, List.set_cons_succ, List.set_cons_zero])) | (apply wpList_slW Try.underlying23 s5 (by decide); (· rfl); (· rfl); (· rfl); (conv => arg 5; simp only [Act.put, List.setIfInBounds_toArray, List.set_cons_succ, List.set_cons_zero, IntWalk.toNatUp, Nat.add_sub_cancel_left, Nat.add_sub_cancel, Nat.zero_add, Nat.add_zero, Nat.sub_zero])))
  clear M'
  refine (NewP k2 _ lk2 Ok2.out M2).mono ?_; rintro e w2 ⟨g, rfl, M3⟩
  clear M2
  go_wp2_with fail
  have hg : w.heap.size ≤ g := (M3.fresh _ List.mem_cons_self g rfl).resolve_left (by simp)
  have hst : Strs w2 g (.slice A ps.length cap) ps := (hA.strs g hg).kept fun ad u hu _ => M3.cell0 hu
  refine (WriteP k2 lk2 g [] (fun x hx => by simp at hx) _ ps _ hst (by omega) (fun p h => Nat.le_trans (hp p h) (by decide)) M3 Swap.head).mono ?_; rintro e w3 ⟨rfl, M4⟩
  rw [List.nil_append] at M4
  clear M3 hst hg
  go_wp2_with fail
  have hbd : ∀ i, sumLen (ps.take i) ≤ 20000 := fun i => by
    have h1 := joinAll_size (ps.take i) 1000 (fun q hq => hp q (List.mem_of_mem_take hq))
    have h2 : (ps.take i).length ≤ 20 := by simp; omega
    have h3 := Nat.mul_le_mul_right 1000 h2
    rw [sumLen, ← joinAll_all, bytesOf_length]
    omega
  have HBD := hid hbd
  clear hbd
  go_loop [13, 32] (fun n v => ∃ i : Nat, v = .int .i64 i ∧ n = .int .i64 (sumLen (ps.take i) : Nat) ∧ i ≤ ps.length) (fun _ v => ps.length - (intOf v).toNat)
  case atStart => exact ⟨0, rfl, rfl, by omega⟩
  case round =>
    obtain ⟨i, rfl, rfl, hi⟩ := hrel
    have hb1 := HBD.out i
    by_cases hlt : i < ps.length
    · have hltI : (i : Int) < (ps.length : Int) := by omega
      obtain ⟨p, hpe⟩ : ∃ p, ps[i]? = some p := ⟨ps[i], List.getElem?_eq_getElem hlt⟩
      have hps := hp p (List.mem_of_getElem? hpe)
      have hsn := sumLen_take ps i p hpe
      obtain ⟨b, off, rfl, hc⟩ := hA i p hpe
      have hc1 := M4.cell0 hc
      have HSN := hid hsn
      obtain ⟨m, hm⟩ : ∃ m, m = sumLen (ps.take i) := ⟨_, rfl⟩
      rw [← hm] at hb1 HSN ⊢
      clear hsn hpe hc hm
      go_wp2_with fail
      go_round
      case rel => exact ⟨i + 1, by go_num, by rw [HSN.out]; go_num, by omega⟩
      case measure => simp [intOf]; omega
    · obtain rfl : i = ps.length := by omega
      rw [List.take_of_length_le (Nat.le_refl _)] at hb1 ⊢
      have h61a := hid (fun w' => fill61 (sumLen ps) w' (by omega))
      have h61t := hid (fun w' => fill61 text.size w' (by omega))
      have h62a := hid (fun w' => length62 (sumLen ps) w' (by omega))
      have h62t := hid (fun w' => length62 text.size w' (by omega))
      obtain ⟨fa, hfa⟩ : ∃ x, x = strOfNums (List.replicate (fillN (sumLen ps)) 0) := ⟨_, rfl⟩
      obtain ⟨ft, hft⟩ : ∃ x, x = strOfNums (List.replicate (fillN text.size) 0) := ⟨_, rfl⟩
      obtain ⟨la, hla⟩ : ∃ x, x = strOfNums (digs 256 8 (sumLen ps)) := ⟨_, rfl⟩
      obtain ⟨lt, hlt⟩ : ∃ x, x = strOfNums (digs 256 8 text.size) := ⟨_, rfl⟩
      have zb : ∀ n, ∀ x ∈ List.replicate n (0 : Int), isByte x := fun n x hx => by
        have := List.eq_of_mem_replicate hx
        subst this
        exact ⟨by omega, by omega⟩
      have hq : bytesAll ps ++ bytesAll [fa, text, ft, la, lt] = macL (bytesAll ps) (bytesOf text) := by
        simp only [bytesAll, List.flatMap_cons, List.flatMap_nil, List.append_nil]
        rw [hfa, hft, hla, hlt, bytesOf_str _ (zb _), bytesOf_str _ (zb _), bytesOf_str _ (digs_ok (by decide) _ _), bytesOf_str _ (digs_ok (by decide) _ _), macL, bytesOf_length, sumLen, bytesAll]
        simp only [List.append_assoc]
      have f1 : fillN (sumLen ps) < 16 := Nat.mod_lt _ (by decide)
      have f2 : fillN text.size < 16 := Nat.mod_lt _ (by decide)
      have z1 : fa.size ≤ 16 := by rw [hfa, strOfNums_size, List.length_replicate]; omega
      have z2 : ft.size ≤ 16 := by rw [hft, strOfNums_size, List.length_replicate]; omega
      have z3 : la.size ≤ 8 := by rw [hla, strOfNums_size, digs_length]; omega
      have z4 : lt.size ≤ 8 := by rw [hlt, strOfNums_size, digs_length]; omega
      rw [← hfa] at h61a
      rw [← hft] at h61t
      rw [← hla] at h62a
      rw [← hlt] at h62t
      have HQ := hid hq
      clear hfa hft hla hlt zb hq f1 f2
      go_wp2_with fail
      refine (h61a.out _).mono ?_; rintro e w4 ⟨rfl, hb⟩; replace M4 := M4.call hb
      go_wp2_with fail
      refine (h61t.out _).mono ?_; rintro e w5 ⟨rfl, hb⟩; replace M4 := M4.call hb
      go_wp2_with fail
      refine (h62a.out _).mono ?_; rintro e w6 ⟨rfl, hb⟩; replace M4 := M4.call hb
      go_wp2_with fail
      refine (h62t.out _).mono ?_; rintro e w7 ⟨rfl, hb⟩; replace M4 := M4.call hb
      go_wp2_with (first | (apply wpList_bsS5 53; (· rfl); (· rfl); (· rfl); (· rfl); (· rfl); (· rfl); (· rfl); (· rfl); (· exact M4); intro b53 w' M5; (conv => arg 5; simp only [Act.put, List.setIfInBounds_toArray, List.set_cons_succ, List.set_cons_zero])))
      have hne : b53 ≠ g := fun e => by
        have h := (List.pairwise_cons.1 M5.apart).1 (PB g k2 (bytesAll ps)) List.mem_cons_self b53 rfl
        rw [PB_block, e] at h
        exact h rfl
      have hv : Strs w' g (.slice (some ⟨b53, 0, none⟩) 5 5) [fa, text, ft, la, lt] := RowS.strs' (M5.rowStr List.mem_cons_self) hne
      refine (WriteP k2 lk2 g (bytesAll ps) (bytesAll_ok ps) _ [fa, text, ft, la, lt] _ hv (by simp) (fun q hq => by simp only [List.mem_cons, List.not_mem_nil, or_false] at hq; rcases hq with rfl | rfl | rfl | rfl | rfl <;> omega) M5 (Swap.tail Swap.head)).mono ?_; rintro e w8 ⟨rfl, M6⟩
      rw [HQ.out] at M6
      go_wp2_with fail
      refine (TagPB k2 lk2 g _ (by rw [← HQ.out]; exact digOk_append (bytesAll_ok _) (bytesAll_ok _)) _ M6 (List.mem_cons_of_mem _ List.mem_cons_self)).mono ?_; rintro e w9 ⟨rfl, M7⟩
      go_wp2_with fail
      go_ret
      exact ⟨rfl, M7.below⟩
end Go.Proofs.Ytcjfpcajjhccaaa
namespace Go.Proofs.Ytcjfpcajjhccaaa
open Go.RowKit
def maskS (key nl tl : List Int) : ByteArray := strOfNums (maskB key nl 1 tl)
def tagS (key nl a c : List Int) : ByteArray := strOfNums (tagK (tagKey key nl) (macL a c))
/-- A sealed text. -/
def sealS (key nl a tl : List Int) : ByteArray := maskS key nl tl ++ tagS key nl a (bytesOf (maskS key nl tl))
theorem maskS_size (key nl tl : List Int) : (maskS key nl tl).size = tl.length := by rw [maskS, strOfNums_size, maskB_length]
set_option maxRecDepth 100000 in
set_option maxHeartbeats 1000000 in
theorem Seal38 (key : List Int) (s text : ByteArray) (A : Option Addr) (cap : Nat) (ps : List ByteArray) (w : World) (hk : key.length = 32) (hkb : digOk 256 key) (hs : s.size = 12) (ht : text.size ≤ 2000) (hA : RowS w A ps) (hn : ps.length ≤ 20) (hp : ∀ p ∈ ps, p.size ≤ 1000) :
    Calls Try.prog 38 #[.agg (nums .u8 key).toArray, .string s, .string text, .slice A ps.length cap] w fun e w' => e = .returned (.tuple #[.string (sealS key (bytesOf s) (bytesAll ps) (bytesOf text)), .int .i64 0]) ∧ Below w.heap.size w w' := by
  have M0 := Mem.start w
  have H22 := hid (fun w' => Mask22 key s 1 text w' hk hkb (by omega) (by omega) hs (by omega))
  obtain ⟨q, hq⟩ : ∃ x, x = maskS key (bytesOf s) (bytesOf text) := ⟨_, rfl⟩
  have zq : q.size ≤ 2000 := by rw [hq, maskS_size, bytesOf_length]; exact ht
  have H51 := hid (fun w' (h : RowS w' A ps) => Tag51 key s q A cap ps w' hk hkb hs zq h hn hp)
  rw [show strOfNums (maskB key (bytesOf s) 1 (bytesOf text)) = q from hq.symm] at H22
  have hse : sealS key (bytesOf s) (bytesAll ps) (bytesOf text) = q ++ tagS key (bytesOf s) (bytesAll ps) (bytesOf q) := by rw [sealS, ← hq]
  rw [hse]
  obtain ⟨tg, htg⟩ : ∃ x, x = tagS key (bytesOf s) (bytesAll ps) (bytesOf q) := ⟨_, rfl⟩
  have ztg : tg.size ≤ 16 := by rw [htg, tagS, strOfNums_size, tag_eq _ _ (tagKey_length _ _) (tagKey_ok _ _) (by rw [macL]; exact digOk_append (digOk_append (digOk_append (digOk_append (bytesAll_ok _) (digOk_zeros (by decide) _)) (digOk_append (fun x hx => bytesOf_all q x hx) (digOk_zeros (by decide) _))) (digs_ok (by decide) _ _)) (digs_ok (by decide) _ _)), tagV, digs_length]; omega
  rw [show strOfNums (tagK (tagKey key (bytesOf s)) (macL (bytesAll ps) (bytesOf q))) = tg from htg.symm] at H51
  rw [← htg]
  clear hse htg hq hkb hs
  go_enter Try.func38, Try.ntmps38
  go_wp2_with (first | (go_at_call 22; refine (H22.out _).mono ?_; rintro e w' ⟨rfl, hb⟩; replace M' := M'.call hb) | (go_at_call 51; refine (H51.out _ (hA.kept (M'.sub (List.nil_sublist _)))).mono ?_; rintro e w' ⟨rfl, hb⟩; replace M' := M'.call hb) | (apply wpList_bxN 4; (· rfl); (· rfl); (· rfl); (· rfl); (· assumption); intro b4 w' M'; (conv => arg 5; simp only [Act.put, List.setIfInBounds_toArray, List.set_cons_succ, List.set_cons_zero])) | (apply wpList_ldrowN Try.underlying23 s23; (· rfl); (· rfl); (· rfl); (· rfl); (· assumption); (· (repeat (first | exact List.mem_cons_self | refine List.mem_cons_of_mem _ ?_))); (· (first | with_reducible assumption | omega | (simp only [nums_length, List.length_set, List.length_replicate]; first | with_reducible assumption | omega) | rfl | (simp [*]; done) | (simp [*]; omega))); (conv => arg 5; simp only [Act.put, List.setIfInBounds_toArray, List.set_cons_succ, List.set_cons_zero])))
  go_ret2
  exact ⟨rfl, M'.below⟩
set_option maxRecDepth 100000 in
theorem Seal38_no (key : List Int) (s text : ByteArray) (v : Value) (w : World) (hk : key.length = 32) (hs : s.size ≠ 12) (ht : text.size ≤ 2000) :
    Calls Try.prog 38 #[.agg (nums .u8 key).toArray, .string s, .string text, v] w fun e w' => e = .returned (.tuple #[.string ⟨#[]⟩, .int .i64 1]) ∧ Below w.heap.size w w' := by
  have M0 := Mem.start w
  have H22 := hid (fun w' => Mask22_no key s 1 text w' (by omega) (by omega) (.inl hs))
  clear hs
  go_enter Try.func38, Try.ntmps38
  go_wp2_with (first | (go_at_call 22; refine (H22.out _).mono ?_; rintro e w' ⟨rfl, hb⟩; replace M' := M'.call hb) | (apply wpList_bxN 4; (· rfl); (· rfl); (· rfl); (· rfl); (· assumption); intro b4 w' M'; (conv => arg 5; simp only [Act.put, List.setIfInBounds_toArray, List.set_cons_succ, List.set_cons_zero])) | (apply wpList_ldrowN Try.underlying23 s23; (· rfl); (· rfl); (· rfl); (· rfl); (· assumption); (· (repeat (first | exact List.mem_cons_self | refine List.mem_cons_of_mem _ ?_))); (· (first | with_reducible assumption | omega | (simp only [nums_length, List.length_set, List.length_replicate]; first | with_reducible assumption | omega) | rfl | (simp [*]; done) | (simp [*]; omega))); (conv => arg 5; simp only [Act.put, List.setIfInBounds_toArray, List.set_cons_succ, List.set_cons_zero])))
  go_ret2
  exact ⟨rfl, M'.below⟩
set_option maxRecDepth 100000 in
set_option maxHeartbeats 1000000 in
theorem Seal39 (key : List Int) (s text adds : ByteArray) (w : World) (hk : key.length = 32) (hkb : digOk 256 key) (hs : s.size = 12) (ht : text.size ≤ 2000) (ha : adds.size ≤ 7000) :
    Calls Try.prog 39 #[.agg (nums .u8 key).toArray, .string s, .string text, .string adds] w fun e w' => e = .returned (.string (sealS key (bytesOf s) (bytesOf adds) (bytesOf text))) ∧ Below w.heap.size w w' := by
  have M0 := Mem.start w
  have H24 := hid (fun w' => Mask24 key s 1 text w' hk hkb (by omega) (by omega) hs (by omega))
  obtain ⟨q, hq⟩ : ∃ x, x = maskS key (bytesOf s) (bytesOf text) := ⟨_, rfl⟩
  have zq : q.size ≤ 2000 := by rw [hq, maskS_size, bytesOf_length]; exact ht
  have H52 := hid (fun w' => Tag52 key s q adds w' hk hkb hs zq ha)
  rw [show strOfNums (maskB key (bytesOf s) 1 (bytesOf text)) = q from hq.symm] at H24
  have hse : sealS key (bytesOf s) (bytesOf adds) (bytesOf text) = q ++ tagS key (bytesOf s) (bytesOf adds) (bytesOf q) := by rw [sealS, ← hq]
  rw [hse]
  obtain ⟨tg, htg⟩ : ∃ x, x = tagS key (bytesOf s) (bytesOf adds) (bytesOf q) := ⟨_, rfl⟩
  have ztg : tg.size ≤ 16 := by rw [htg, tagS, strOfNums_size, tag_eq _ _ (tagKey_length _ _) (tagKey_ok _ _) (by rw [macL]; exact digOk_append (digOk_append (digOk_append (digOk_append (fun x hx => bytesOf_all adds x hx) (digOk_zeros (by decide) _)) (digOk_append (fun x hx => bytesOf_all q x hx) (digOk_zeros (by decide) _))) (digs_ok (by decide) _ _)) (digs_ok (by decide) _ _)), tagV, digs_length]; omega
  rw [show strOfNums (tagK (tagKey key (bytesOf s)) (macL (bytesOf adds) (bytesOf q))) = tg from htg.symm] at H52
  rw [← htg]
  clear hse htg hq hkb hs
  go_enter Try.func39, Try.ntmps39
  go_wp2_with (first | (go_at_call 24; refine (H24.out _).mono ?_; rintro e w' ⟨rfl, hb⟩; replace M' := M'.call hb) | (go_at_call 52; refine (H52.out _).mono ?_; rintro e w' ⟨rfl, hb⟩; replace M' := M'.call hb) | (apply wpList_bxN 4; (· rfl); (· rfl); (· rfl); (· rfl); (· assumption); intro b4 w' M'; (conv => arg 5; simp only [Act.put, List.setIfInBounds_toArray, List.set_cons_succ, List.set_cons_zero])) | (apply wpList_ldrowN Try.underlying23 s23; (· rfl); (· rfl); (· rfl); (· rfl); (· assumption); (· (repeat (first | exact List.mem_cons_self | refine List.mem_cons_of_mem _ ?_))); (· (first | with_reducible assumption | omega | (simp only [nums_length, List.length_set, List.length_replicate]; first | with_reducible assumption | omega) | rfl | (simp [*]; done) | (simp [*]; omega))); (conv => arg 5; simp only [Act.put, List.setIfInBounds_toArray, List.set_cons_succ, List.set_cons_zero])))
  go_ret
  exact ⟨rfl, M'.below⟩
end Go.Proofs.Ytcjfpcajjhccaaa
namespace Go.Proofs.Ytcjfpcajjhccaaa
open Go.RowKit
set_option maxRecDepth 100000 in
theorem Open40_no (key : List Int) (s text : ByteArray) (v : Value) (w : World) (hk : key.length = 32) (hs : s.size ≠ 12) (ht : text.size ≤ 3000) :
    Calls Try.prog 40 #[.agg (nums .u8 key).toArray, .string s, .string text, v] w fun e w' => e = .returned (.tuple #[.string ⟨#[]⟩, .int .i64 1]) ∧ Below w.heap.size w w' := by
  have M0 := Mem.start w
  have h1 : ((s.size : Int) != 12) = true := by rw [bne_iff_ne]; omega
  clear hs
  go_enter Try.func40, Try.ntmps40
  go_wp2_with (first | (apply wpList_bxN 4; (· rfl); (· rfl); (· rfl); (· rfl); (· assumption); intro b4 w' M'; (conv => arg 5; simp only [Act.put, List.setIfInBounds_toArray, List.set_cons_succ, List.set_cons_zero])) | (apply wpList_wantSl; (· rfl)) | (apply wpList_wantLd; (· rfl)) | (apply wpList_ldrowN Try.underlying23 s23; (· rfl); (· rfl); (· rfl); (· rfl); (· assumption); (· (repeat (first | exact List.mem_cons_self | refine List.mem_cons_of_mem _ ?_))); (· (first | with_reducible assumption | omega | (simp only [nums_length, List.length_set, List.length_replicate]; first | with_reducible assumption | omega) | rfl | (simp [*]; done) | (simp [*]; omega))); (conv => arg 5; simp only [Act.put, List.setIfInBounds_toArray, List.set_cons_succ, List.set_cons_zero])))
  go_ret2
  exact ⟨rfl, M'.below⟩
set_option maxRecDepth 100000 in
set_option maxHeartbeats 1000000 in
theorem Open40_short (key : List Int) (s text : ByteArray) (v : Value) (w : World) (hk : key.length = 32) (hs : s.size = 12) (ht : text.size < 16) :
    Calls Try.prog 40 #[.agg (nums .u8 key).toArray, .string s, .string text, v] w fun e w' => e = .returned (.tuple #[.string ⟨#[]⟩, .int .i64 2]) ∧ Below w.heap.size w w' := by
  have M0 := Mem.start w
  have h1 : ((s.size : Int) != 12) = false := by rw [bne_eq_false_iff_eq]; omega
  have h2 : (text.size : Int) - 16 < 0 := by omega
  clear hs
  go_enter Try.func40, Try.ntmps40
  go_wp2_with (first | (apply wpList_bxN 4; (· rfl); (· rfl); (· rfl); (· rfl); (· assumption); intro b4 w' M'; (conv => arg 5; simp only [Act.put, List.setIfInBounds_toArray, List.set_cons_succ, List.set_cons_zero])) | (apply wpList_wantSl; (· rfl)) | (apply wpList_wantLd; (· rfl)) | (apply wpList_ldrowN Try.underlying23 s23; (· rfl); (· rfl); (· rfl); (· rfl); (· assumption); (· (repeat (first | exact List.mem_cons_self | refine List.mem_cons_of_mem _ ?_))); (· (first | with_reducible assumption | omega | (simp only [nums_length, List.length_set, List.length_replicate]; first | with_reducible assumption | omega) | rfl | (simp [*]; done) | (simp [*]; omega))); (conv => arg 5; simp only [Act.put, List.setIfInBounds_toArray, List.set_cons_succ, List.set_cons_zero])))
  refine wp_region_planT (.free 0 (.free 1 (.free 2 (.free 3 (.free 4 (.free 5 (.free 6 (.free 7 (.free 8 (.free 9 (.free 10 (.free 11 (.free 12 (.free 13 (.free 14 (.free 15 (.free 16 (.done)))))))))))))))))) (by kernel_rfl) (by kernel_rfl) (fun _ _ _ _ _ h => h) M' (fun w1 M1 => ?_)
  clear M'
  (refine wpT_free rfl rfl (.inl ⟨rfl, fun w _ => by go_simp; rfl⟩) (by assumption) ?_; (conv => arg 6; simp only [Act.put, List.setIfInBounds_toArray, List.set_cons_succ, List.set_cons_zero]))
  (refine wpT_free rfl rfl (.inl ⟨rfl, fun w _ => by go_simp; rfl⟩) (by assumption) ?_; (conv => arg 6; simp only [Act.put, List.setIfInBounds_toArray, List.set_cons_succ, List.set_cons_zero]))
  (refine wpT_free rfl rfl (.inl ⟨rfl, fun w _ => by go_simp; rfl⟩) (by assumption) ?_; (conv => arg 6; simp only [Act.put, List.setIfInBounds_toArray, List.set_cons_succ, List.set_cons_zero]))
  iterate 12 (refine wpT_free rfl rfl (.inr ⟨rfl, rfl⟩) (by assumption) ?_; (conv => arg 6; simp only [Act.put, List.setIfInBounds_toArray, List.set_cons_succ, List.set_cons_zero]))
  (refine wpT_free rfl rfl (.inl ⟨rfl, fun w _ => by go_simp; rfl⟩) (by assumption) ?_; (conv => arg 6; simp only [Act.put, List.setIfInBounds_toArray, List.set_cons_succ, List.set_cons_zero]))
  (refine wpT_free rfl rfl (.inl ⟨rfl, fun w _ => by go_simp; rfl⟩) (by assumption) ?_; (conv => arg 6; simp only [Act.put, List.setIfInBounds_toArray, List.set_cons_succ, List.set_cons_zero]))
  refine wpT_done ?_
  go_wp2_with fail
  go_ret2
  exact ⟨rfl, M1.below⟩
set_option maxRecDepth 100000 in
set_option maxHeartbeats 2000000 in
theorem Open40 (key : List Int) (s text : ByteArray) (A : Option Addr) (cap : Nat) (ps : List ByteArray) (w : World) (hk : key.length = 32) (hkb : digOk 256 key) (hs : s.size = 12) (n : Nat) (hn16 : text.size = n + 16) (ht : n ≤ 2000) (hA : RowS w A ps) (hn : ps.length ≤ 20) (hp : ∀ p ∈ ps, p.size ≤ 1000) :
    Calls Try.prog 40 #[.agg (nums .u8 key).toArray, .string s, .string text, .slice A ps.length cap] w fun e w' => e = .returned (if text.extract n text.size = tagS key (bytesOf s) (bytesAll ps) (bytesOf (text.extract 0 n)) then .tuple #[.string (maskS key (bytesOf s) (bytesOf (text.extract 0 n))), .int .i64 0] else .tuple #[.string ⟨#[]⟩, .int .i64 2]) ∧ Below w.heap.size w w' := by
  have M0 := Mem.start w
  have h1 : ((s.size : Int) != 12) = false := by rw [bne_eq_false_iff_eq]; omega
  have zc : (text.extract 0 n).size = n := by simp; omega
  have ze : (text.extract n text.size).size = 16 := by simp; omega
  have H22 := hid (fun w' => Mask22 key s 1 (text.extract 0 n) w' hk hkb (by omega) (by omega) hs (by omega))
  have H51 := hid (fun w' (h : RowS w' A ps) => Tag51 key s (text.extract 0 n) A cap ps w' hk hkb hs (by omega) h hn hp)
  obtain ⟨tg, htg⟩ : ∃ x, x = tagS key (bytesOf s) (bytesAll ps) (bytesOf (text.extract 0 n)) := ⟨_, rfl⟩
  obtain ⟨mk, hmk⟩ : ∃ x, x = maskS key (bytesOf s) (bytesOf (text.extract 0 n)) := ⟨_, rfl⟩
  have h22 := hid (show strOfNums (maskB key (bytesOf s) 1 (bytesOf (text.extract 0 n))) = mk from hmk.symm)
  have h51 := hid (show strOfNums (tagK (tagKey key (bytesOf s)) (macL (bytesAll ps) (bytesOf (text.extract 0 n)))) = tg from htg.symm)
  rw [h22.out] at H22
  rw [h51.out] at H51
  rw [← htg, ← hmk]
  have ztg : tg.size ≤ 16 := by rw [htg, tagS, strOfNums_size, tag_eq _ _ (tagKey_length _ _) (tagKey_ok _ _) (by rw [macL]; exact digOk_append (digOk_append (digOk_append (digOk_append (bytesAll_ok _) (digOk_zeros (by decide) _)) (digOk_append (fun x hx => bytesOf_all _ x hx) (digOk_zeros (by decide) _))) (digs_ok (by decide) _ _)) (digs_ok (by decide) _ _)), tagV, digs_length]; omega
  have H53 := hid (fun w' => Equal53 (text.extract n text.size) tg w' (by omega) (by omega))
  have m0 : (text.size : Int) - 16 = (n : Int) := by omega
  have m1 : ¬ (n : Int) < 0 := by omega
  have m2 : (n : Int) ≤ (text.size : Int) := by omega
  have m3 : n ≤ text.size := by omega
  have HN := hid hn16
  clear hmk htg h22 h51 zc ze ztg hkb hs hn16
  by_cases he : text.extract n text.size = tg
  · rw [if_pos he]
    rw [decide_eq_true he] at H53
    clear he
    go_enter Try.func40, Try.ntmps40
    go_wp2_with (first | (apply wpList_bxN 4; (· rfl); (· rfl); (· rfl); (· rfl); (· assumption); intro b4 w' M'; (conv => arg 5; simp only [Act.put, List.setIfInBounds_toArray, List.set_cons_succ, List.set_cons_zero])) | (apply wpList_wantSl; (· rfl)) | (apply wpList_wantLd; (· rfl)) | (apply wpList_ldrowN Try.underlying23 s23; (· rfl); (· rfl); (· rfl); (· rfl); (· assumption); (· (repeat (first | exact List.mem_cons_self | refine List.mem_cons_of_mem _ ?_))); (· (first | with_reducible assumption | omega | (simp only [nums_length, List.length_set, List.length_replicate]; first | with_reducible assumption | omega) | rfl | (simp [*]; done) | (simp [*]; omega))); (conv => arg 5; simp only [Act.put, List.setIfInBounds_toArray, List.set_cons_succ, List.set_cons_zero])))
    refine wp_region_planT (.free 0 (.free 1 (.free 2 (.free 3 (.free 4 (.free 5 (.free 6 (.free 7 (.free 8 (.free 9 (.free 10 (.free 11 (.one 12 (.one 13 (.free 14 (.free 15 (.free 16 (.done)))))))))))))))))) (by kernel_rfl) (by kernel_rfl) (fun _ _ _ _ _ h => h) M' (fun w1 M1 => ?_)
    clear M'
    (refine wpT_free rfl rfl (.inl ⟨rfl, fun w _ => by go_simp; rfl⟩) (by assumption) ?_; (conv => arg 6; simp only [Act.put, List.setIfInBounds_toArray, List.set_cons_succ, List.set_cons_zero]))
    (refine wpT_free rfl rfl (.inl ⟨rfl, fun w _ => by go_simp; rfl⟩) (by assumption) ?_; (conv => arg 6; simp only [Act.put, List.setIfInBounds_toArray, List.set_cons_succ, List.set_cons_zero]))
    (refine wpT_free rfl rfl (.inl ⟨rfl, fun w _ => by go_simp; rfl⟩) (by assumption) ?_; (conv => arg 6; simp only [Act.put, List.setIfInBounds_toArray, List.set_cons_succ, List.set_cons_zero]))
    (refine wpT_free rfl rfl (.inl ⟨rfl, fun w _ => by go_simp; rfl⟩) (by assumption) ?_; (conv => arg 6; simp only [Act.put, List.setIfInBounds_toArray, List.set_cons_succ, List.set_cons_zero]))
    (refine wpT_free rfl rfl (.inl ⟨rfl, fun w _ => by go_simp; rfl⟩) (by assumption) ?_; (conv => arg 6; simp only [Act.put, List.setIfInBounds_toArray, List.set_cons_succ, List.set_cons_zero]))
    (refine wpT_free rfl rfl (.inl ⟨rfl, fun w _ => by go_simp; rfl⟩) (by assumption) ?_; (conv => arg 6; simp only [Act.put, List.setIfInBounds_toArray, List.set_cons_succ, List.set_cons_zero]))
    refine wpT_free rfl rfl (.inl ⟨rfl, fun w hw => run_ldrowN Try.underlying23 s23 rfl rfl rfl hw List.mem_cons_self hk⟩) (by assumption) ?_; (conv => arg 6; simp only [Act.put, List.setIfInBounds_toArray, List.set_cons_succ, List.set_cons_zero])
    (refine wpT_free rfl rfl (.inl ⟨rfl, fun w _ => by go_simp; rfl⟩) (by assumption) ?_; (conv => arg 6; simp only [Act.put, List.setIfInBounds_toArray, List.set_cons_succ, List.set_cons_zero]))
    (refine wpT_free rfl rfl (.inl ⟨rfl, fun w _ => by go_simp; rfl⟩) (by assumption) ?_; (conv => arg 6; simp only [Act.put, List.setIfInBounds_toArray, List.set_cons_succ, List.set_cons_zero]))
    (refine wpT_free rfl rfl (.inl ⟨rfl, fun w _ => by go_simp; rfl⟩) (by assumption) ?_; (conv => arg 6; simp only [Act.put, List.setIfInBounds_toArray, List.set_cons_succ, List.set_cons_zero]))
    (refine wpT_free rfl rfl (.inl ⟨rfl, fun w _ => by go_simp; rfl⟩) (by assumption) ?_; (conv => arg 6; simp only [Act.put, List.setIfInBounds_toArray, List.set_cons_succ, List.set_cons_zero]))
    (refine wpT_free rfl rfl (.inl ⟨rfl, fun w _ => by go_simp; rfl⟩) (by assumption) ?_; (conv => arg 6; simp only [Act.put, List.setIfInBounds_toArray, List.set_cons_succ, List.set_cons_zero]))
    refine wpT_op rfl ?_
    go_wp2_with (go_at_call 51; refine (H51.out _ (hA.kept (M1.sub (List.nil_sublist _)))).mono ?_; rintro e w' ⟨rfl, hb⟩; replace M1 := M1.call hb)
    refine PlanTQ.mk M1 (wpT_op rfl ?_)
    go_wp2_with (go_at_call 53; refine (H53.out _).mono ?_; rintro e w' ⟨rfl, hb⟩; replace M1 := M1.call hb)
    refine PlanTQ.mk M1 ?_
    (refine wpT_free rfl rfl (.inl ⟨rfl, fun w _ => by go_simp; rfl⟩) (by assumption) ?_; (conv => arg 6; simp only [Act.put, List.setIfInBounds_toArray, List.set_cons_succ, List.set_cons_zero]))
    (refine wpT_free rfl rfl (.inl ⟨rfl, fun w _ => by go_simp; rfl⟩) (by assumption) ?_; (conv => arg 6; simp only [Act.put, List.setIfInBounds_toArray, List.set_cons_succ, List.set_cons_zero]))
    (refine wpT_free rfl rfl (.inl ⟨rfl, fun w _ => by go_simp; rfl⟩) (by assumption) ?_; (conv => arg 6; simp only [Act.put, List.setIfInBounds_toArray, List.set_cons_succ, List.set_cons_zero]))
    refine wpT_done ?_
    go_wp2_with fail
    refine wp_region_planT (.free 0 (.free 1 (.free 2 (.free 3 (.free 4 (.one 5 (.free 6 (.free 7 (.free 8 (.free 9 (.done))))))))))) (by kernel_rfl) (by kernel_rfl) (fun _ _ _ _ _ h => h) M1 (fun w2 M2 => ?_)
    clear M1
    refine wpT_free rfl rfl (.inl ⟨rfl, fun w hw => run_ldrowN Try.underlying23 s23 rfl rfl rfl hw List.mem_cons_self hk⟩) (by assumption) ?_; (conv => arg 6; simp only [Act.put, List.setIfInBounds_toArray, List.set_cons_succ, List.set_cons_zero])
    (refine wpT_free rfl rfl (.inl ⟨rfl, fun w _ => by go_simp; rfl⟩) (by assumption) ?_; (conv => arg 6; simp only [Act.put, List.setIfInBounds_toArray, List.set_cons_succ, List.set_cons_zero]))
    (refine wpT_free rfl rfl (.inl ⟨rfl, fun w _ => by go_simp; rfl⟩) (by assumption) ?_; (conv => arg 6; simp only [Act.put, List.setIfInBounds_toArray, List.set_cons_succ, List.set_cons_zero]))
    (refine wpT_free rfl rfl (.inl ⟨rfl, fun w _ => by go_simp; rfl⟩) (by assumption) ?_; (conv => arg 6; simp only [Act.put, List.setIfInBounds_toArray, List.set_cons_succ, List.set_cons_zero]))
    (refine wpT_free rfl rfl (.inl ⟨rfl, fun w _ => by go_simp; rfl⟩) (by assumption) ?_; (conv => arg 6; simp only [Act.put, List.setIfInBounds_toArray, List.set_cons_succ, List.set_cons_zero]))
    refine wpT_op rfl ?_
    go_wp2_with (go_at_call 22; refine (H22.out _).mono ?_; rintro e w' ⟨rfl, hb⟩; replace M2 := M2.call hb)
    refine PlanTQ.mk M2 ?_
    (refine wpT_free rfl rfl (.inl ⟨rfl, fun w _ => by go_simp; rfl⟩) (by assumption) ?_; (conv => arg 6; simp only [Act.put, List.setIfInBounds_toArray, List.set_cons_succ, List.set_cons_zero]))
    (refine wpT_free rfl rfl (.inl ⟨rfl, fun w _ => by go_simp; rfl⟩) (by assumption) ?_; (conv => arg 6; simp only [Act.put, List.setIfInBounds_toArray, List.set_cons_succ, List.set_cons_zero]))
    (refine wpT_free rfl rfl (.inl ⟨rfl, fun w _ => by go_simp; rfl⟩) (by assumption) ?_; (conv => arg 6; simp only [Act.put, List.setIfInBounds_toArray, List.set_cons_succ, List.set_cons_zero]))
    (refine wpT_free rfl rfl (.inl ⟨rfl, fun w _ => by go_simp; rfl⟩) (by assumption) ?_; (conv => arg 6; simp only [Act.put, List.setIfInBounds_toArray, List.set_cons_succ, List.set_cons_zero]))
    refine wpT_done ?_
    go_wp2_with fail
    go_ret2
    exact ⟨rfl, M2.below⟩
  · rw [if_neg he]
    rw [decide_eq_false he] at H53
    clear he
    go_enter Try.func40, Try.ntmps40
    go_wp2_with (first | (apply wpList_bxN 4; (· rfl); (· rfl); (· rfl); (· rfl); (· assumption); intro b4 w' M'; (conv => arg 5; simp only [Act.put, List.setIfInBounds_toArray, List.set_cons_succ, List.set_cons_zero])) | (apply wpList_wantSl; (· rfl)) | (apply wpList_wantLd; (· rfl)) | (apply wpList_ldrowN Try.underlying23 s23; (· rfl); (· rfl); (· rfl); (· rfl); (· assumption); (· (repeat (first | exact List.mem_cons_self | refine List.mem_cons_of_mem _ ?_))); (· (first | with_reducible assumption | omega | (simp only [nums_length, List.length_set, List.length_replicate]; first | with_reducible assumption | omega) | rfl | (simp [*]; done) | (simp [*]; omega))); (conv => arg 5; simp only [Act.put, List.setIfInBounds_toArray, List.set_cons_succ, List.set_cons_zero])))
    refine wp_region_planT (.free 0 (.free 1 (.free 2 (.free 3 (.free 4 (.free 5 (.free 6 (.free 7 (.free 8 (.free 9 (.free 10 (.free 11 (.one 12 (.one 13 (.free 14 (.free 15 (.free 16 (.done)))))))))))))))))) (by kernel_rfl) (by kernel_rfl) (fun _ _ _ _ _ h => h) M' (fun w1 M1 => ?_)
    clear M'
    (refine wpT_free rfl rfl (.inl ⟨rfl, fun w _ => by go_simp; rfl⟩) (by assumption) ?_; (conv => arg 6; simp only [Act.put, List.setIfInBounds_toArray, List.set_cons_succ, List.set_cons_zero]))
    (refine wpT_free rfl rfl (.inl ⟨rfl, fun w _ => by go_simp; rfl⟩) (by assumption) ?_; (conv => arg 6; simp only [Act.put, List.setIfInBounds_toArray, List.set_cons_succ, List.set_cons_zero]))
    (refine wpT_free rfl rfl (.inl ⟨rfl, fun w _ => by go_simp; rfl⟩) (by assumption) ?_; (conv => arg 6; simp only [Act.put, List.setIfInBounds_toArray, List.set_cons_succ, List.set_cons_zero]))
    (refine wpT_free rfl rfl (.inl ⟨rfl, fun w _ => by go_simp; rfl⟩) (by assumption) ?_; (conv => arg 6; simp only [Act.put, List.setIfInBounds_toArray, List.set_cons_succ, List.set_cons_zero]))
    (refine wpT_free rfl rfl (.inl ⟨rfl, fun w _ => by go_simp; rfl⟩) (by assumption) ?_; (conv => arg 6; simp only [Act.put, List.setIfInBounds_toArray, List.set_cons_succ, List.set_cons_zero]))
    (refine wpT_free rfl rfl (.inl ⟨rfl, fun w _ => by go_simp; rfl⟩) (by assumption) ?_; (conv => arg 6; simp only [Act.put, List.setIfInBounds_toArray, List.set_cons_succ, List.set_cons_zero]))
    refine wpT_free rfl rfl (.inl ⟨rfl, fun w hw => run_ldrowN Try.underlying23 s23 rfl rfl rfl hw List.mem_cons_self hk⟩) (by assumption) ?_; (conv => arg 6; simp only [Act.put, List.setIfInBounds_toArray, List.set_cons_succ, List.set_cons_zero])
    (refine wpT_free rfl rfl (.inl ⟨rfl, fun w _ => by go_simp; rfl⟩) (by assumption) ?_; (conv => arg 6; simp only [Act.put, List.setIfInBounds_toArray, List.set_cons_succ, List.set_cons_zero]))
    (refine wpT_free rfl rfl (.inl ⟨rfl, fun w _ => by go_simp; rfl⟩) (by assumption) ?_; (conv => arg 6; simp only [Act.put, List.setIfInBounds_toArray, List.set_cons_succ, List.set_cons_zero]))
    (refine wpT_free rfl rfl (.inl ⟨rfl, fun w _ => by go_simp; rfl⟩) (by assumption) ?_; (conv => arg 6; simp only [Act.put, List.setIfInBounds_toArray, List.set_cons_succ, List.set_cons_zero]))
    (refine wpT_free rfl rfl (.inl ⟨rfl, fun w _ => by go_simp; rfl⟩) (by assumption) ?_; (conv => arg 6; simp only [Act.put, List.setIfInBounds_toArray, List.set_cons_succ, List.set_cons_zero]))
    (refine wpT_free rfl rfl (.inl ⟨rfl, fun w _ => by go_simp; rfl⟩) (by assumption) ?_; (conv => arg 6; simp only [Act.put, List.setIfInBounds_toArray, List.set_cons_succ, List.set_cons_zero]))
    refine wpT_op rfl ?_
    go_wp2_with (go_at_call 51; refine (H51.out _ (hA.kept (M1.sub (List.nil_sublist _)))).mono ?_; rintro e w' ⟨rfl, hb⟩; replace M1 := M1.call hb)
    refine PlanTQ.mk M1 (wpT_op rfl ?_)
    go_wp2_with (go_at_call 53; refine (H53.out _).mono ?_; rintro e w' ⟨rfl, hb⟩; replace M1 := M1.call hb)
    refine PlanTQ.mk M1 ?_
    (refine wpT_free rfl rfl (.inl ⟨rfl, fun w _ => by go_simp; rfl⟩) (by assumption) ?_; (conv => arg 6; simp only [Act.put, List.setIfInBounds_toArray, List.set_cons_succ, List.set_cons_zero]))
    (refine wpT_free rfl rfl (.inl ⟨rfl, fun w _ => by go_simp; rfl⟩) (by assumption) ?_; (conv => arg 6; simp only [Act.put, List.setIfInBounds_toArray, List.set_cons_succ, List.set_cons_zero]))
    (refine wpT_free rfl rfl (.inl ⟨rfl, fun w _ => by go_simp; rfl⟩) (by assumption) ?_; (conv => arg 6; simp only [Act.put, List.setIfInBounds_toArray, List.set_cons_succ, List.set_cons_zero]))
    refine wpT_done ?_
    go_wp2_with fail
    go_ret2
    exact ⟨rfl, M1.below⟩
end Go.Proofs.Ytcjfpcajjhccaaa
namespace Go.Proofs.Ytcjfpcajjhccaaa
open Go.RowKit
theorem str_ne {s t : ByteArray} (h : s ≠ t) : (s.toList == t.toList) = false := by
  rw [beq_eq_false_iff_ne, ByteArray.toList_eq, ByteArray.toList_eq]
  exact fun e => h (ByteArray.ext (Array.toList_inj.1 e))
set_option maxRecDepth 100000 in
theorem Open41_short (key : List Int) (s text adds : ByteArray) (w : World) (hk : key.length = 32) (ht : text.size < 16) :
    Calls Try.prog 41 #[.agg (nums .u8 key).toArray, .string s, .string text, .string adds] w fun e w' => e = .returned (.tuple #[.string ⟨#[]⟩, .bool false]) ∧ Below w.heap.size w w' := by
  have M0 := Mem.start w
  have h2 : (text.size : Int) < 16 := by omega
  go_enter Try.func41, Try.ntmps41
  go_wp2_with (first | (apply wpList_bxN 4; (· rfl); (· rfl); (· rfl); (· rfl); (· assumption); intro b4 w' M'; (conv => arg 5; simp only [Act.put, List.setIfInBounds_toArray, List.set_cons_succ, List.set_cons_zero])) | (apply wpList_ldrowN Try.underlying23 s23; (· rfl); (· rfl); (· rfl); (· rfl); (· assumption); (· (repeat (first | exact List.mem_cons_self | refine List.mem_cons_of_mem _ ?_))); (· (first | with_reducible assumption | omega | (simp only [nums_length, List.length_set, List.length_replicate]; first | with_reducible assumption | omega) | rfl | (simp [*]; done) | (simp [*]; omega))); (conv => arg 5; simp only [Act.put, List.setIfInBounds_toArray, List.set_cons_succ, List.set_cons_zero])))
  go_ret2
  exact ⟨rfl, M'.below⟩
set_option maxRecDepth 100000 in
set_option maxHeartbeats 2000000 in
theorem Open41 (key : List Int) (s text adds : ByteArray) (w : World) (hk : key.length = 32) (hkb : digOk 256 key) (hs : s.size = 12) (n : Nat) (hn16 : text.size = n + 16) (ht : n ≤ 2000) (ha : adds.size ≤ 7000) :
    Calls Try.prog 41 #[.agg (nums .u8 key).toArray, .string s, .string text, .string adds] w fun e w' => e = .returned (if text.extract n text.size = tagS key (bytesOf s) (bytesOf adds) (bytesOf (text.extract 0 n)) then .tuple #[.string (maskS key (bytesOf s) (bytesOf (text.extract 0 n))), .bool true] else .tuple #[.string ⟨#[]⟩, .bool false]) ∧ Below w.heap.size w w' := by
  have M0 := Mem.start w
  have zc : (text.extract 0 n).size = n := by simp; omega
  have H24 := hid (fun w' => Mask24 key s 1 (text.extract 0 n) w' hk hkb (by omega) (by omega) hs (by omega))
  have H52 := hid (fun w' => Tag52 key s (text.extract 0 n) adds w' hk hkb hs (by omega) ha)
  obtain ⟨tg, htg⟩ : ∃ x, x = tagS key (bytesOf s) (bytesOf adds) (bytesOf (text.extract 0 n)) := ⟨_, rfl⟩
  obtain ⟨mk, hmk⟩ : ∃ x, x = maskS key (bytesOf s) (bytesOf (text.extract 0 n)) := ⟨_, rfl⟩
  have h24 := hid (show strOfNums (maskB key (bytesOf s) 1 (bytesOf (text.extract 0 n))) = mk from hmk.symm)
  have h52 := hid (show strOfNums (tagK (tagKey key (bytesOf s)) (macL (bytesOf adds) (bytesOf (text.extract 0 n)))) = tg from htg.symm)
  rw [h24.out] at H24
  rw [h52.out] at H52
  rw [← htg, ← hmk]
  have m0 : (text.size : Int) - 16 = (n : Int) := by omega
  have m1 : ¬ (text.size : Int) < 16 := by omega
  have m2 : (n : Int) ≤ (text.size : Int) := by omega
  have m3 : n ≤ text.size := by omega
  have m4 : IntKind.i64.wrap (n : Int) = (n : Int) := IntWalk.i64_in _ (by omega)
  have HN := hid hn16
  obtain ⟨ex, hex⟩ : ∃ x, x = text.extract n text.size := ⟨_, rfl⟩
  rw [← hex]
  have HEX := hid hex.symm
  clear hmk htg h24 h52 zc hkb hs hn16 hex
  by_cases he : ex = tg
  · rw [if_pos he]
    subst he
    go_enter Try.func41, Try.ntmps41
    go_wp2_with (first | (apply wpList_bxN 4; (· rfl); (· rfl); (· rfl); (· rfl); (· assumption); intro b4 w' M'; (conv => arg 5; simp only [Act.put, List.setIfInBounds_toArray, List.set_cons_succ, List.set_cons_zero])) | (apply wpList_ldrowN Try.underlying23 s23; (· rfl); (· rfl); (· rfl); (· rfl); (· assumption); (· (repeat (first | exact List.mem_cons_self | refine List.mem_cons_of_mem _ ?_))); (· (first | with_reducible assumption | omega | (simp only [nums_length, List.length_set, List.length_replicate]; first | with_reducible assumption | omega) | rfl | (simp [*]; done) | (simp [*]; omega))); (conv => arg 5; simp only [Act.put, List.setIfInBounds_toArray, List.set_cons_succ, List.set_cons_zero])))
    refine wp_region_planT (.free 0 (.free 1 (.free 2 (.free 3 (.free 5 (.free 6 (.free 7 (.free 8 (.free 9 (.one 4 (.free 10 (.done)))))))))))) (by kernel_rfl) (by kernel_rfl) (fun _ _ _ _ _ h => h) M' (fun w1 M1 => ?_)
    clear M'
    refine wpT_free rfl rfl (.inl ⟨rfl, fun w hw => run_ldrowN Try.underlying23 s23 rfl rfl rfl hw List.mem_cons_self hk⟩) (by assumption) ?_; (conv => arg 6; simp only [Act.put, List.setIfInBounds_toArray, List.set_cons_succ, List.set_cons_zero])
    (refine wpT_free rfl rfl (.inl ⟨rfl, fun w _ => by go_simp; rfl⟩) (by assumption) ?_; (conv => arg 6; simp only [Act.put, List.setIfInBounds_toArray, List.set_cons_succ, List.set_cons_zero]))
    (refine wpT_free rfl rfl (.inl ⟨rfl, fun w _ => by go_simp; rfl⟩) (by assumption) ?_; (conv => arg 6; simp only [Act.put, List.setIfInBounds_toArray, List.set_cons_succ, List.set_cons_zero]))
    (refine wpT_free rfl rfl (.inl ⟨rfl, fun w _ => by go_simp; rfl⟩) (by assumption) ?_; (conv => arg 6; simp only [Act.put, List.setIfInBounds_toArray, List.set_cons_succ, List.set_cons_zero]))
    (refine wpT_free rfl rfl (.inl ⟨rfl, fun w _ => by go_simp; rfl⟩) (by assumption) ?_; (conv => arg 6; simp only [Act.put, List.setIfInBounds_toArray, List.set_cons_succ, List.set_cons_zero]))
    (refine wpT_free rfl rfl (.inl ⟨rfl, fun w _ => by go_simp; rfl⟩) (by assumption) ?_; (conv => arg 6; simp only [Act.put, List.setIfInBounds_toArray, List.set_cons_succ, List.set_cons_zero]))
    (refine wpT_free rfl rfl (.inl ⟨rfl, fun w _ => by go_simp; rfl⟩) (by assumption) ?_; (conv => arg 6; simp only [Act.put, List.setIfInBounds_toArray, List.set_cons_succ, List.set_cons_zero]))
    (refine wpT_free rfl rfl (.inl ⟨rfl, fun w _ => by go_simp; rfl⟩) (by assumption) ?_; (conv => arg 6; simp only [Act.put, List.setIfInBounds_toArray, List.set_cons_succ, List.set_cons_zero]))
    (refine wpT_free rfl rfl (.inl ⟨rfl, fun w _ => by go_simp; rfl⟩) (by assumption) ?_; (conv => arg 6; simp only [Act.put, List.setIfInBounds_toArray, List.set_cons_succ, List.set_cons_zero]))
    rw [HEX.out]
    refine wpT_op rfl ?_
    go_wp2_with (go_at_call 52; refine (H52.out _).mono ?_; rintro e w' ⟨rfl, hb⟩; replace M1 := M1.call hb)
    refine PlanTQ.mk M1 ?_
    (refine wpT_free rfl rfl (.inl ⟨rfl, fun w _ => by go_simp; rfl⟩) (by assumption) ?_; (conv => arg 6; simp only [Act.put, List.setIfInBounds_toArray, List.set_cons_succ, List.set_cons_zero]))
    refine wpT_done ?_
    go_wp2_with (first | (go_at_call 24; refine (H24.out _).mono ?_; rintro e w' ⟨rfl, hb⟩; replace M1 := M1.call hb) | (apply wpList_bxN 4; (· rfl); (· rfl); (· rfl); (· rfl); (· assumption); intro b4 w' M'; (conv => arg 5; simp only [Act.put, List.setIfInBounds_toArray, List.set_cons_succ, List.set_cons_zero])) | (apply wpList_ldrowN Try.underlying23 s23; (· rfl); (· rfl); (· rfl); (· rfl); (· assumption); (· (repeat (first | exact List.mem_cons_self | refine List.mem_cons_of_mem _ ?_))); (· (first | with_reducible assumption | omega | (simp only [nums_length, List.length_set, List.length_replicate]; first | with_reducible assumption | omega) | rfl | (simp [*]; done) | (simp [*]; omega))); (conv => arg 5; simp only [Act.put, List.setIfInBounds_toArray, List.set_cons_succ, List.set_cons_zero])))
    go_ret2
    exact ⟨rfl, M1.below⟩
  · rw [if_neg he]
    have hne : (tg.toList == ex.toList) = false := str_ne fun h => he h.symm
    go_enter Try.func41, Try.ntmps41
    go_wp2_with (first | (apply wpList_bxN 4; (· rfl); (· rfl); (· rfl); (· rfl); (· assumption); intro b4 w' M'; (conv => arg 5; simp only [Act.put, List.setIfInBounds_toArray, List.set_cons_succ, List.set_cons_zero])) | (apply wpList_ldrowN Try.underlying23 s23; (· rfl); (· rfl); (· rfl); (· rfl); (· assumption); (· (repeat (first | exact List.mem_cons_self | refine List.mem_cons_of_mem _ ?_))); (· (first | with_reducible assumption | omega | (simp only [nums_length, List.length_set, List.length_replicate]; first | with_reducible assumption | omega) | rfl | (simp [*]; done) | (simp [*]; omega))); (conv => arg 5; simp only [Act.put, List.setIfInBounds_toArray, List.set_cons_succ, List.set_cons_zero])))
    refine wp_region_planT (.free 0 (.free 1 (.free 2 (.free 3 (.free 5 (.free 6 (.free 7 (.free 8 (.free 9 (.one 4 (.free 10 (.done)))))))))))) (by kernel_rfl) (by kernel_rfl) (fun _ _ _ _ _ h => h) M' (fun w1 M1 => ?_)
    clear M'
    refine wpT_free rfl rfl (.inl ⟨rfl, fun w hw => run_ldrowN Try.underlying23 s23 rfl rfl rfl hw List.mem_cons_self hk⟩) (by assumption) ?_; (conv => arg 6; simp only [Act.put, List.setIfInBounds_toArray, List.set_cons_succ, List.set_cons_zero])
    (refine wpT_free rfl rfl (.inl ⟨rfl, fun w _ => by go_simp; rfl⟩) (by assumption) ?_; (conv => arg 6; simp only [Act.put, List.setIfInBounds_toArray, List.set_cons_succ, List.set_cons_zero]))
    (refine wpT_free rfl rfl (.inl ⟨rfl, fun w _ => by go_simp; rfl⟩) (by assumption) ?_; (conv => arg 6; simp only [Act.put, List.setIfInBounds_toArray, List.set_cons_succ, List.set_cons_zero]))
    (refine wpT_free rfl rfl (.inl ⟨rfl, fun w _ => by go_simp; rfl⟩) (by assumption) ?_; (conv => arg 6; simp only [Act.put, List.setIfInBounds_toArray, List.set_cons_succ, List.set_cons_zero]))
    (refine wpT_free rfl rfl (.inl ⟨rfl, fun w _ => by go_simp; rfl⟩) (by assumption) ?_; (conv => arg 6; simp only [Act.put, List.setIfInBounds_toArray, List.set_cons_succ, List.set_cons_zero]))
    (refine wpT_free rfl rfl (.inl ⟨rfl, fun w _ => by go_simp; rfl⟩) (by assumption) ?_; (conv => arg 6; simp only [Act.put, List.setIfInBounds_toArray, List.set_cons_succ, List.set_cons_zero]))
    (refine wpT_free rfl rfl (.inl ⟨rfl, fun w _ => by go_simp; rfl⟩) (by assumption) ?_; (conv => arg 6; simp only [Act.put, List.setIfInBounds_toArray, List.set_cons_succ, List.set_cons_zero]))
    (refine wpT_free rfl rfl (.inl ⟨rfl, fun w _ => by go_simp; rfl⟩) (by assumption) ?_; (conv => arg 6; simp only [Act.put, List.setIfInBounds_toArray, List.set_cons_succ, List.set_cons_zero]))
    (refine wpT_free rfl rfl (.inl ⟨rfl, fun w _ => by go_simp; rfl⟩) (by assumption) ?_; (conv => arg 6; simp only [Act.put, List.setIfInBounds_toArray, List.set_cons_succ, List.set_cons_zero]))
    rw [HEX.out]
    refine wpT_op rfl ?_
    go_wp2_with (go_at_call 52; refine (H52.out _).mono ?_; rintro e w' ⟨rfl, hb⟩; replace M1 := M1.call hb)
    refine PlanTQ.mk M1 ?_
    (refine wpT_free rfl rfl (.inl ⟨rfl, fun w _ => by go_simp; rfl⟩) (by assumption) ?_; (conv => arg 6; simp only [Act.put, List.setIfInBounds_toArray, List.set_cons_succ, List.set_cons_zero]))
    refine wpT_done ?_
    go_wp2_with fail
    go_ret2
    exact ⟨rfl, M1.below⟩
end Go.Proofs.Ytcjfpcajjhccaaa
