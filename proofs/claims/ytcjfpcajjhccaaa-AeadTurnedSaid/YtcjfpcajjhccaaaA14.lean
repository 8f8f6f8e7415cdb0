/- Walks of the aead layer's laws: AeadTurned. -/
import Derived.Test.YtcjfpcajjhccaaaAC
set_option linter.unusedVariables false
set_option linter.unusedSimpArgs false
namespace Go.Proofs.Ytcjfpcajjhccaaa
open Go.RowKit
/-- A text with one byte turned. -/
def turnS (b : ByteArray) (k : Nat) (v : Int) : ByteArray := strOfNums ((bytesOf b).set k v)
theorem turn_bytes (b : ByteArray) (k : Nat) (v : Int) (hv : isByte v) : bytesOf (turnS b k v) = (bytesOf b).set k v := by
  rw [turnS, bytesOf_str]
  intro x hx
  rcases List.mem_or_eq_of_mem_set hx with h | rfl
  · exact bytesOf_all b x h
  · exact hv
theorem turn_size (b : ByteArray) (k : Nat) (v : Int) : (turnS b k v).size = b.size := by rw [turnS, strOfNums_size, List.length_set, bytesOf_length]
theorem turn_head (b : ByteArray) (n k : Nat) (v : Int) (hv : isByte v) (hk : n ≤ k) : (turnS b k v).extract 0 n = b.extract 0 n := by
  apply bytes_inj
  rw [extract_bt, extract_bt, turn_bytes _ _ _ hv, List.drop_zero, List.drop_zero, Nat.sub_zero, List.take_set_of_le hk]
theorem turn_same (b : ByteArray) (k : Nat) (h : k < b.size) : turnS b k (rd (bytesOf b) k) = b := by
  rw [turnS]
  have e : (bytesOf b).set k (rd (bytesOf b) k) = bytesOf b := by
    apply List.ext_getElem (by simp)
    intro i h1 h2
    rw [List.getElem_set]
    split
    · rename_i hki
      subst hki
      simp [rd, List.getD_eq_getElem?_getD, List.getElem?_eq_getElem h2]
    · rfl
  rw [e, str_bytesOf]
theorem turn_tail (b : ByteArray) (n k : Nat) (v : Int) (hv : isByte v) (hk : n ≤ k) (hkb : k < b.size) (hne : v ≠ rd (bytesOf b) k) : (turnS b k v).extract n b.size ≠ b.extract n b.size := by
  intro h
  have h1 := congrArg bytesOf h
  rw [extract_bt, extract_bt, turn_bytes _ _ _ hv] at h1
  have hl : ((bytesOf b).set k v).length = b.size := by rw [List.length_set, bytesOf_length]
  rw [List.take_of_length_le (by rw [List.length_drop, hl]; omega), List.take_of_length_le (by rw [List.length_drop, bytesOf_length]; omega)] at h1
  have h2 : rd (((bytesOf b).set k v).drop n) (k - n) = rd ((bytesOf b).drop n) (k - n) := by rw [h1]
  have h3 : ∀ xs : List Int, rd (xs.drop n) (k - n) = rd xs k := fun xs => by
    simp only [rd, List.getD_eq_getElem?_getD, List.getElem?_drop]
    rw [show n + (k - n) = k from by omega]
  rw [h3, h3, rd_set_same _ _ _ (by rw [bytesOf_length]; exact hkb)] at h2
  exact hne h2
theorem xor_zero_u8 (x : Int) (hx : 0 ≤ x ∧ x < 256) : bits .xor .u8 x 0 = x := by
  obtain ⟨n, rfl⟩ := Int.eq_ofNat_of_zero_le hx.1
  have := xor_u8 n 0 (by omega) (by omega)
  simpa using this
theorem xor_ne_u8 (x y : Int) (hx : 0 ≤ x ∧ x < 256) (hy : 0 ≤ y ∧ y < 256) (h : y ≠ 0) : bits .xor .u8 x y ≠ x := by
  intro e
  have h1 := xor_back (x := y) (y := x) hy hx
  obtain ⟨n, rfl⟩ := Int.eq_ofNat_of_zero_le hx.1
  obtain ⟨m, rfl⟩ := Int.eq_ofNat_of_zero_le hy.1
  rw [xor_u8 n m (by omega) (by omega)] at e
  have e2 : n ^^^ m = n := by omega
  have e3 : m = 0 := by
    have := congrArg (n ^^^ ·) e2
    simpa [← Nat.xor_assoc] using this
  omega
section
variable {P : Program} {ops : Array Oper} {rest : List Oper} {o : Oper} {a : Act} {w w0 : World} {Q : Exit → Act → World → Prop} {E : List Nat} {L L' : List Item}
/-- A cell of the row of a conversion. -/
theorem wpList_ldK2 {ty : TypeId} {d : TypeDesc} (hu : P.underlying ty = some d) (hgd : o.guard = none) {x : Operand} (ho : o.op = .load ty x) (hd : d.isRow = false) {g i : Nat}
    (hx : a.eval x = .pointer (some ⟨g, i, none⟩)) (M : Mem w0 E w L) {k : IntKind} {t : TypeId} {xs ys : List Int} (hin : .blk g (markO t (nums k (xs ++ ys))) ∈ L) (hi : i < xs.length)
    (h : wpList P ops Q rest (a.put o.dst (.int k (rd xs i))) w) : wpList P ops Q (o :: rest) a w := by
  rw [← rd_append_left xs ys i hi] at h
  exact wpList_ld hgd ho hu hd hx (M.cellKN hin (by rw [List.length_append]; omega)) h
end
set_option maxRecDepth 100000 in
set_option maxHeartbeats 1000000 in
theorem AeadTurned17 (key : List Int) (s text by' : ByteArray) (at' to : Int) (w : World) (hk : key.length = 32) (hkb : digOk 256 key) (hs1 : s.size ≤ maxLen) (hs2 : text.size ≤ maxLen) (hs3 : by'.size ≤ maxLen) (hat : 0 ≤ at' ∧ at' < 256) (hto : 0 ≤ to ∧ to < 256) :
    Calls Try.prog 17 #[.agg (nums .u8 key).toArray, .string s, .string text, .string by', .int .u8 at', .int .u8 to] w fun e w' => e = .returned (.bool true) ∧ Below w.heap.size w w' := by
  have M0 := Mem.start w
  unfold maxLen at hs1 hs2 hs3
  obtain ⟨a0, a1⟩ := hat
  by_cases ht : text.size ≤ 1000
  · have ht0 : ¬ (1000 : Int) < (text.size : Int) := by omega
    by_cases hb : by'.size ≤ 1000
    · have hb0 : ¬ (1000 : Int) < (by'.size : Int) := by omega
      clear hs2 hs3
      by_cases h12 : s.size = 12
      · have h1 : ((s.size : Int) != 12) = false := by rw [bne_eq_false_iff_eq]; omega
        have H38 := hid (fun w' A cap (h : RowS w' A [by']) => Seal38 key s text A cap [by'] w' hk hkb h12 (by omega) h (by simp) (fun p hp => by simp only [List.mem_singleton] at hp; subst hp; omega))
        obtain ⟨bx, hbx⟩ : ∃ x, x = sealS key (bytesOf s) (bytesAll [by']) (bytesOf text) := ⟨_, rfl⟩
        rw [← hbx] at H38
        have zbx : bx.size = text.size + 16 := by rw [hbx, sealS_size _ _ _ _ (bytesAll_ok _), bytesOf_length]
        obtain ⟨k, hkk⟩ : ∃ k : Nat, k = text.size + (at' % 16).toNat := ⟨_, rfl⟩
        have hk1 : text.size ≤ k := by omega
        have hk2 : k < bx.size := by omega
        have hkI : (text.size : Int) + at' % 16 = (k : Int) := by omega
        obtain ⟨v, hv⟩ : ∃ v, v = bits .xor .u8 (rd (bytesOf bx) k) to := ⟨_, rfl⟩
        have vb : isByte v := by rw [hv]; exact (xor_u8_zero _ _ (byte_range bx k) hto).1
        have zt : (turnS bx k v).size = text.size + 16 := by rw [turn_size, zbx]
        have hhead := turn_head bx text.size k v vb hk1
        have hx1 : bx.extract 0 text.size = maskS key (bytesOf s) (bytesOf text) := by rw [hbx, ← bytesOf_length text, sealS_head]
        have hx2 : bx.extract text.size bx.size = tagS key (bytesOf s) (bytesAll [by']) (bytesOf (bx.extract 0 text.size)) := by
          rw [hx1, hbx]
          have := sealS_tail key (bytesOf s) (bytesAll [by']) (bytesOf text)
          rw [bytesOf_length] at this
          exact this
        have H40 := fun w' A cap (h : RowS w' A [by']) => Open40 key s (turnS bx k v) A cap [by'] w' hk hkb h12 text.size zt (by omega) h (by simp) (fun p hp => by simp only [List.mem_singleton] at hp; subst hp; omega)
        rw [hhead, ← hx2, turn_size] at H40
        rw [hx1, maskS_twice] at H40
        have hlen : (bytesOf bx).length = bx.size := bytesOf_length bx
        have hw : ∀ ys : List Int, strOfNums ((((bytesOf bx ++ ys).set k v).drop 0).take bx.size) = turnS bx k v := fun ys => by
          have e : ((bytesOf bx).set k v).length = bx.size := by rw [List.length_set, hlen]
          rw [List.drop_zero, List.set_append_left _ _ (by omega), ← e, List.take_left, turnS]
        have m0 : (bx.size : Int) - 16 = (text.size : Int) := by omega
        have m1 : (k : Int) < (bx.size : Int) := by omega
        have m2 : bits .xor .u8 (rd (bytesOf bx) k) to = v := hv.symm
        have m3 : ∀ ys : List Int, k < (bytesOf bx ++ ys).length := fun ys => by rw [List.length_append]; omega
        have m4 : ∀ ys : List Int, 0 + bx.size ≤ ((bytesOf bx ++ ys).set k v).length := fun ys => by rw [List.length_set, List.length_append]; omega
        have z16 : ¬ (bx.size : Int) < 16 := by omega
        have hk3 : k < (bytesOf bx).length := by omega
        have HW := hid hw
        have H3 := hid m3
        have H4 := hid m4
        by_cases hz : to = 0
        · subst hz
          have hvv : v = rd (bytesOf bx) k := by rw [hv, xor_zero_u8 _ (byte_range bx k)]
          have hts : turnS bx k v = bx := by rw [hvv, turn_same bx k hk2]
          rw [hts] at H40
          simp only [if_true] at H40
          rw [← hts] at H40
          have H40' := hid H40
          clear H40 hx1 hx2 hhead hbx zbx hkk hv zt hlen hw h12 hkb hvv hts m3 m4
          go_enter Try.func17, Try.ntmps17
          go_wp2_with (first | (apply wpList_bsS1 40; (· rfl); (· rfl); (· rfl); (· rfl); (· exact M'); intro b40 w' M'; (conv => arg 5; simp only [Act.put, List.setIfInBounds_toArray, List.set_cons_succ, List.set_cons_zero])) | (apply wpList_bsS1 75; (· rfl); (· rfl); (· rfl); (· rfl); (· exact M'); intro b75 w' M'; (conv => arg 5; simp only [Act.put, List.setIfInBounds_toArray, List.set_cons_succ, List.set_cons_zero])) | (go_at_call 38; refine (H38.out _ _ _ (M'.rowStr (t := 9) List.mem_cons_self)).mono ?_; rintro e w' ⟨rfl, hb⟩; replace M' := M'.call hb) | (go_at_call 40; refine (H40'.out _ _ _ (M'.rowStr (t := 9) List.mem_cons_self)).mono ?_; rintro e w' ⟨rfl, hb⟩; replace M' := M'.call hb) | (go_at_call 36; refine (alive36 _).mono ?_; rintro e w' ⟨rfl, hb⟩; replace M' := M'.call hb) | (apply wpList_cvB Try.underlying9 Try.underlying47 Try.underlying5; (· rfl); (· rfl); (· rfl); (· exact M'); intro bk cap ys w' M'; (conv => arg 5; simp only [Act.put, List.setIfInBounds_toArray, List.set_cons_succ, List.set_cons_zero]); replace M' : Mem w [] w' (.blk bk (markO 5 (nums .u8 (bytesOf bx ++ ys))) :: _) := M') | (apply wpList_ldK2 Try.underlying5; (· rfl); (· rfl); (· rfl); (· rfl); (· exact M'); (· exact List.mem_cons_self); (· exact hk3); (conv => arg 5; simp only [Act.put, List.setIfInBounds_toArray, List.set_cons_succ, List.set_cons_zero])) | (refine wpList_stKN s5 rfl rfl rfl rfl M' Swap.head (H3.out _) (fun w' M' => ?_); (conv => arg 5; simp only [Act.put, List.setIfInBounds_toArray, List.set_cons_succ, List.set_cons_zero])) | (refine wpList_cvK Try.underlying47 Try.underlying5 Try.underlying9 rfl rfl rfl M' List.mem_cons_self (H4.out _) ?_; rw [HW.out]; (conv => arg 5; simp only [Act.put, List.setIfInBounds_toArray, List.set_cons_succ, List.set_cons_zero])) | (apply wpList_bxN 6; (· rfl); (· rfl); (· rfl); (· rfl); (· assumption); intro b6 w' M'; (conv => arg 5; simp only [Act.put, List.setIfInBounds_toArray, List.set_cons_succ, List.set_cons_zero])) | (apply wpList_ldrowN Try.underlying23 s23; (· rfl); (· rfl); (· rfl); (· rfl); (· assumption); (· (repeat (first | exact List.mem_cons_self | refine List.mem_cons_of_mem _ ?_))); (· (first | with_reducible assumption | omega | (simp only [nums_length, List.length_set, List.length_replicate]; first | with_reducible assumption | omega) | rfl | (simp [*]; done) | (simp [*]; omega))); (conv => arg 5; simp only [Act.put, List.setIfInBounds_toArray, List.set_cons_succ, List.set_cons_zero])) | (apply wpList_cvB Try.underlying9 Try.underlying47 Try.underlying5; (· rfl); (· rfl); (· rfl); (· assumption); intro bk cap ys w' M'; (conv => arg 5; simp only [Act.put, List.setIfInBounds_toArray, List.set_cons_succ, List.set_cons_zero])) | (apply wpList_ldN Try.underlying5; (· rfl); (· rfl); (· rfl); (· rfl); (· assumption); (· (repeat (first | exact List.mem_cons_self | refine List.mem_cons_of_mem _ ?_))); (· (first | with_reducible assumption | omega | (simp only [nums_length, List.length_set, List.length_replicate]; first | with_reducible assumption | omega) | rfl | (simp [*]; done) | (simp [*]; omega))); (conv => arg 5; simp only [Act.put, List.setIfInBounds_toArray, List.set_cons_succ, List.set_cons_zero])) | (apply wpList_stN s5; (· rfl); (· rfl); (· rfl); (· rfl); (· assumption); (· (repeat (first | exact Swap.head | apply Swap.tail))); (· (first | with_reducible assumption | omega | (simp only [nums_length, List.length_set, List.length_replicate]; first | with_reducible assumption | omega) | rfl | (simp [*]; done) | (simp [*]; omega))); intro w' M'; (conv => arg 5; simp only [Act.put, List.setIfInBounds_toArray, List.set_cons_succ, List.set_cons_zero])) | (apply wpList_stKN s5; (· rfl); (· rfl); (· rfl); (· rfl); (· assumption); (· (repeat (first | exact Swap.head | apply Swap.tail))); (· (first | with_reducible assumption | omega | (simp only [nums_length, List.length_set, List.length_replicate]; first | with_reducible assumption | omega) | rfl | (simp [*]; done) | (simp [*]; omega))); intro w' M'; (conv => arg 5; simp only [Act.put, List.setIfInBounds_toArray, List.set_cons_succ, List.set_cons_zero])) | (apply wpList_cvK Try.underlying47 Try.underlying5 Try.underlying9; (· rfl); (· rfl); (· rfl); (· assumption); (· (repeat (first | exact List.mem_cons_self | refine List.mem_cons_of_mem _ ?_))); (· (first | with_reducible assumption | omega | (simp only [nums_length, List.length_set, List.length_replicate]; first | with_reducible assumption | omega) | rfl | (simp [*]; done) | (simp [*]; omega))); (conv => arg 5; simp only [Act.put, List.setIfInBounds_toArray, List.set_cons_succ, List.set_cons_zero])) | (apply wpList_cvS Try.underlying47 Try.underlying5 Try.underlying9; (· rfl); (· rfl); (· rfl); (· assumption); (· (repeat (first | exact List.mem_cons_self | refine List.mem_cons_of_mem _ ?_))); (· (first | with_reducible assumption | omega | (simp only [nums_length, List.length_set, List.length_replicate]; first | with_reducible assumption | omega) | rfl | (simp [*]; done) | (simp [*]; omega))); (conv => arg 5; simp only [Act.put, List.setIfInBounds_toArray, List.set_cons_succ, List.set_cons_zero])))
          go_ret
          exact ⟨rfl, M'.below⟩
        · have hto0 : (to == 0) = false := by rw [beq_eq_false_iff_ne]; exact hz
          have hne : v ≠ rd (bytesOf bx) k := by rw [hv]; exact xor_ne_u8 _ _ (byte_range bx k) hto hz
          have htl := turn_tail bx text.size k v vb hk1 hk2 hne
          simp only [if_neg htl] at H40
          have H40' := hid H40
          clear H40 hx1 hx2 hhead hbx zbx hkk hv zt hlen hw h12 hkb hne htl m3 m4 hz
          go_enter Try.func17, Try.ntmps17
          go_wp2_with (first | (apply wpList_bsS1 40; (· rfl); (· rfl); (· rfl); (· rfl); (· exact M'); intro b40 w' M'; (conv => arg 5; simp only [Act.put, List.setIfInBounds_toArray, List.set_cons_succ, List.set_cons_zero])) | (apply wpList_bsS1 75; (· rfl); (· rfl); (· rfl); (· rfl); (· exact M'); intro b75 w' M'; (conv => arg 5; simp only [Act.put, List.setIfInBounds_toArray, List.set_cons_succ, List.set_cons_zero])) | (go_at_call 38; refine (H38.out _ _ _ (M'.rowStr (t := 9) List.mem_cons_self)).mono ?_; rintro e w' ⟨rfl, hb⟩; replace M' := M'.call hb) | (go_at_call 40; refine (H40'.out _ _ _ (M'.rowStr (t := 9) List.mem_cons_self)).mono ?_; rintro e w' ⟨rfl, hb⟩; replace M' := M'.call hb) | (go_at_call 36; refine (alive36 _).mono ?_; rintro e w' ⟨rfl, hb⟩; replace M' := M'.call hb) | (apply wpList_cvB Try.underlying9 Try.underlying47 Try.underlying5; (· rfl); (· rfl); (· rfl); (· exact M'); intro bk cap ys w' M'; (conv => arg 5; simp only [Act.put, List.setIfInBounds_toArray, List.set_cons_succ, List.set_cons_zero]); replace M' : Mem w [] w' (.blk bk (markO 5 (nums .u8 (bytesOf bx ++ ys))) :: _) := M') | (apply wpList_ldK2 Try.underlying5; (· rfl); (· rfl); (· rfl); (· rfl); (· exact M'); (· exact List.mem_cons_self); (· exact hk3); (conv => arg 5; simp only [Act.put, List.setIfInBounds_toArray, List.set_cons_succ, List.set_cons_zero])) | (refine wpList_stKN s5 rfl rfl rfl rfl M' Swap.head (H3.out _) (fun w' M' => ?_); (conv => arg 5; simp only [Act.put, List.setIfInBounds_toArray, List.set_cons_succ, List.set_cons_zero])) | (refine wpList_cvK Try.underlying47 Try.underlying5 Try.underlying9 rfl rfl rfl M' List.mem_cons_self (H4.out _) ?_; rw [HW.out]; (conv => arg 5; simp only [Act.put, List.setIfInBounds_toArray, List.set_cons_succ, List.set_cons_zero])) | (apply wpList_bxN 6; (· rfl); (· rfl); (· rfl); (· rfl); (· assumption); intro b6 w' M'; (conv => arg 5; simp only [Act.put, List.setIfInBounds_toArray, List.set_cons_succ, List.set_cons_zero])) | (apply wpList_ldrowN Try.underlying23 s23; (· rfl); (· rfl); (· rfl); (· rfl); (· assumption); (· (repeat (first | exact List.mem_cons_self | refine List.mem_cons_of_mem _ ?_))); (· (first | with_reducible assumption | omega | (simp only [nums_length, List.length_set, List.length_replicate]; first | with_reducible assumption | omega) | rfl | (simp [*]; done) | (simp [*]; omega))); (conv => arg 5; simp only [Act.put, List.setIfInBounds_toArray, List.set_cons_succ, List.set_cons_zero])) | (apply wpList_cvB Try.underlying9 Try.underlying47 Try.underlying5; (· rfl); (· rfl); (· rfl); (· assumption); intro bk cap ys w' M'; (conv => arg 5; simp only [Act.put, List.setIfInBounds_toArray, List.set_cons_succ, List.set_cons_zero])) | (apply wpList_ldN Try.underlying5; (· rfl); (· rfl); (· rfl); (· rfl); (· assumption); (· (repeat (first | exact List.mem_cons_self | refine List.mem_cons_of_mem _ ?_))); (· (first | with_reducible assumption | omega | (simp only [nums_length, List.length_set, List.length_replicate]; first | with_reducible assumption | omega) | rfl | (simp [*]; done) | (simp [*]; omega))); (conv => arg 5; simp only [Act.put, List.setIfInBounds_toArray, List.set_cons_succ, List.set_cons_zero])) | (apply wpList_stN s5; (· rfl); (· rfl); (· rfl); (· rfl); (· assumption); (· (repeat (first | exact Swap.head | apply Swap.tail))); (· (first | with_reducible assumption | omega | (simp only [nums_length, List.length_set, List.length_replicate]; first | with_reducible assumption | omega) | rfl | (simp [*]; done) | (simp [*]; omega))); intro w' M'; (conv => arg 5; simp only [Act.put, List.setIfInBounds_toArray, List.set_cons_succ, List.set_cons_zero])) | (apply wpList_stKN s5; (· rfl); (· rfl); (· rfl); (· rfl); (· assumption); (· (repeat (first | exact Swap.head | apply Swap.tail))); (· (first | with_reducible assumption | omega | (simp only [nums_length, List.length_set, List.length_replicate]; first | with_reducible assumption | omega) | rfl | (simp [*]; done) | (simp [*]; omega))); intro w' M'; (conv => arg 5; simp only [Act.put, List.setIfInBounds_toArray, List.set_cons_succ, List.set_cons_zero])) | (apply wpList_cvK Try.underlying47 Try.underlying5 Try.underlying9; (· rfl); (· rfl); (· rfl); (· assumption); (· (repeat (first | exact List.mem_cons_self | refine List.mem_cons_of_mem _ ?_))); (· (first | with_reducible assumption | omega | (simp only [nums_length, List.length_set, List.length_replicate]; first | with_reducible assumption | omega) | rfl | (simp [*]; done) | (simp [*]; omega))); (conv => arg 5; simp only [Act.put, List.setIfInBounds_toArray, List.set_cons_succ, List.set_cons_zero])) | (apply wpList_cvS Try.underlying47 Try.underlying5 Try.underlying9; (· rfl); (· rfl); (· rfl); (· assumption); (· (repeat (first | exact List.mem_cons_self | refine List.mem_cons_of_mem _ ?_))); (· (first | with_reducible assumption | omega | (simp only [nums_length, List.length_set, List.length_replicate]; first | with_reducible assumption | omega) | rfl | (simp [*]; done) | (simp [*]; omega))); (conv => arg 5; simp only [Act.put, List.setIfInBounds_toArray, List.set_cons_succ, List.set_cons_zero])))
          go_ret
          exact ⟨rfl, M'.below⟩
      · have h1 : ((s.size : Int) != 12) = true := by rw [bne_iff_ne]; omega
        go_enter Try.func17, Try.ntmps17
        go_wp2_with (first | (go_at_call 36; refine (alive36 _).mono ?_; rintro e w' ⟨rfl, hb⟩; replace M' := M'.call hb) | (apply wpList_bxN 6; (· rfl); (· rfl); (· rfl); (· rfl); (· assumption); intro b6 w' M'; (conv => arg 5; simp only [Act.put, List.setIfInBounds_toArray, List.set_cons_succ, List.set_cons_zero])) | (apply wpList_ldrowN Try.underlying23 s23; (· rfl); (· rfl); (· rfl); (· rfl); (· assumption); (· (repeat (first | exact List.mem_cons_self | refine List.mem_cons_of_mem _ ?_))); (· (first | with_reducible assumption | omega | (simp only [nums_length, List.length_set, List.length_replicate]; first | with_reducible assumption | omega) | rfl | (simp [*]; done) | (simp [*]; omega))); (conv => arg 5; simp only [Act.put, List.setIfInBounds_toArray, List.set_cons_succ, List.set_cons_zero])) | (apply wpList_cvB Try.underlying9 Try.underlying47 Try.underlying5; (· rfl); (· rfl); (· rfl); (· assumption); intro bk cap ys w' M'; (conv => arg 5; simp only [Act.put, List.setIfInBounds_toArray, List.set_cons_succ, List.set_cons_zero])) | (apply wpList_ldN Try.underlying5; (· rfl); (· rfl); (· rfl); (· rfl); (· assumption); (· (repeat (first | exact List.mem_cons_self | refine List.mem_cons_of_mem _ ?_))); (· (first | with_reducible assumption | omega | (simp only [nums_length, List.length_set, List.length_replicate]; first | with_reducible assumption | omega) | rfl | (simp [*]; done) | (simp [*]; omega))); (conv => arg 5; simp only [Act.put, List.setIfInBounds_toArray, List.set_cons_succ, List.set_cons_zero])) | (apply wpList_stN s5; (· rfl); (· rfl); (· rfl); (· rfl); (· assumption); (· (repeat (first | exact Swap.head | apply Swap.tail))); (· (first | with_reducible assumption | omega | (simp only [nums_length, List.length_set, List.length_replicate]; first | with_reducible assumption | omega) | rfl | (simp [*]; done) | (simp [*]; omega))); intro w' M'; (conv => arg 5; simp only [Act.put, List.setIfInBounds_toArray, List.set_cons_succ, List.set_cons_zero])) | (apply wpList_stKN s5; (· rfl); (· rfl); (· rfl); (· rfl); (· assumption); (· (repeat (first | exact Swap.head | apply Swap.tail))); (· (first | with_reducible assumption | omega | (simp only [nums_length, List.length_set, List.length_replicate]; first | with_reducible assumption | omega) | rfl | (simp [*]; done) | (simp [*]; omega))); intro w' M'; (conv => arg 5; simp only [Act.put, List.setIfInBounds_toArray, List.set_cons_succ, List.set_cons_zero])) | (apply wpList_cvK Try.underlying47 Try.underlying5 Try.underlying9; (· rfl); (· rfl); (· rfl); (· assumption); (· (repeat (first | exact List.mem_cons_self | refine List.mem_cons_of_mem _ ?_))); (· (first | with_reducible assumption | omega | (simp only [nums_length, List.length_set, List.length_replicate]; first | with_reducible assumption | omega) | rfl | (simp [*]; done) | (simp [*]; omega))); (conv => arg 5; simp only [Act.put, List.setIfInBounds_toArray, List.set_cons_succ, List.set_cons_zero])) | (apply wpList_cvS Try.underlying47 Try.underlying5 Try.underlying9; (· rfl); (· rfl); (· rfl); (· assumption); (· (repeat (first | exact List.mem_cons_self | refine List.mem_cons_of_mem _ ?_))); (· (first | with_reducible assumption | omega | (simp only [nums_length, List.length_set, List.length_replicate]; first | with_reducible assumption | omega) | rfl | (simp [*]; done) | (simp [*]; omega))); (conv => arg 5; simp only [Act.put, List.setIfInBounds_toArray, List.set_cons_succ, List.set_cons_zero])))
        go_ret
        exact ⟨rfl, M'.below⟩
    · have hb0 : (1000 : Int) < (by'.size : Int) := by omega
      go_enter Try.func17, Try.ntmps17
      go_wp2_with (first | (go_at_call 36; refine (alive36 _).mono ?_; rintro e w' ⟨rfl, hb⟩; replace M' := M'.call hb) | (apply wpList_bxN 6; (· rfl); (· rfl); (· rfl); (· rfl); (· assumption); intro b6 w' M'; (conv => arg 5; simp only [Act.put, List.setIfInBounds_toArray, List.set_cons_succ, List.set_cons_zero])) | (apply wpList_ldrowN Try.underlying23 s23; (· rfl); (· rfl); (· rfl); (· rfl); (· assumption); (· (repeat (first | exact List.mem_cons_self | refine List.mem_cons_of_mem _ ?_))); (· (first | with_reducible assumption | omega | (simp only [nums_length, List.length_set, List.length_replicate]; first | with_reducible assumption | omega) | rfl | (simp [*]; done) | (simp [*]; omega))); (conv => arg 5; simp only [Act.put, List.setIfInBounds_toArray, List.set_cons_succ, List.set_cons_zero])) | (apply wpList_cvB Try.underlying9 Try.underlying47 Try.underlying5; (· rfl); (· rfl); (· rfl); (· assumption); intro bk cap ys w' M'; (conv => arg 5; simp only [Act.put, List.setIfInBounds_toArray, List.set_cons_succ, List.set_cons_zero])) | (apply wpList_ldN Try.underlying5; (· rfl); (· rfl); (· rfl); (· rfl); (· assumption); (· (repeat (first | exact List.mem_cons_self | refine List.mem_cons_of_mem _ ?_))); (· (first | with_reducible assumption | omega | (simp only [nums_length, List.length_set, List.length_replicate]; first | with_reducible assumption | omega) | rfl | (simp [*]; done) | (simp [*]; omega))); (conv => arg 5; simp only [Act.put, List.setIfInBounds_toArray, List.set_cons_succ, List.set_cons_zero])) | (apply wpList_stN s5; (· rfl); (· rfl); (· rfl); (· rfl); (· assumption); (· (repeat (first | exact Swap.head | apply Swap.tail))); (· (first | with_reducible assumption | omega | (simp only [nums_length, List.length_set, List.length_replicate]; first | with_reducible assumption | omega) | rfl | (simp [*]; done) | (simp [*]; omega))); intro w' M'; (conv => arg 5; simp only [Act.put, List.setIfInBounds_toArray, List.set_cons_succ, List.set_cons_zero])) | (apply wpList_stKN s5; (· rfl); (· rfl); (· rfl); (· rfl); (· assumption); (· (repeat (first | exact Swap.head | apply Swap.tail))); (· (first | with_reducible assumption | omega | (simp only [nums_length, List.length_set, List.length_replicate]; first | with_reducible assumption | omega) | rfl | (simp [*]; done) | (simp [*]; omega))); intro w' M'; (conv => arg 5; simp only [Act.put, List.setIfInBounds_toArray, List.set_cons_succ, List.set_cons_zero])) | (apply wpList_cvK Try.underlying47 Try.underlying5 Try.underlying9; (· rfl); (· rfl); (· rfl); (· assumption); (· (repeat (first | exact List.mem_cons_self | refine List.mem_cons_of_mem _ ?_))); (· (first | with_reducible assumption | omega | (simp only [nums_length, List.length_set, List.length_replicate]; first | with_reducible assumption | omega) | rfl | (simp [*]; done) | (simp [*]; omega))); (conv => arg 5; simp only [Act.put, List.setIfInBounds_toArray, List.set_cons_succ, List.set_cons_zero])) | (apply wpList_cvS Try.underlying47 Try.underlying5 Try.underlying9; (· rfl); (· rfl); (· rfl); (· assumption); (· (repeat (first | exact List.mem_cons_self | refine List.mem_cons_of_mem _ ?_))); (· (first | with_reducible assumption | omega | (simp only [nums_length, List.length_set, List.length_replicate]; first | with_reducible assumption | omega) | rfl | (simp [*]; done) | (simp [*]; omega))); (conv => arg 5; simp only [Act.put, List.setIfInBounds_toArray, List.set_cons_succ, List.set_cons_zero])))
      go_ret
      exact ⟨rfl, M'.below⟩
  · have ht0 : (1000 : Int) < (text.size : Int) := by omega
    go_enter Try.func17, Try.ntmps17
    go_wp2_with (first | (go_at_call 36; refine (alive36 _).mono ?_; rintro e w' ⟨rfl, hb⟩; replace M' := M'.call hb) | (apply wpList_bxN 6; (· rfl); (· rfl); (· rfl); (· rfl); (· assumption); intro b6 w' M'; (conv => arg 5; simp only [Act.put, List.setIfInBounds_toArray, List.set_cons_succ, List.set_cons_zero])) | (apply wpList_ldrowN Try.underlying23 s23; (· rfl); (· rfl); (· rfl); (· rfl); (· assumption); (· (repeat (first | exact List.mem_cons_self | refine List.mem_cons_of_mem _ ?_))); (· (first | with_reducible assumption | omega | (simp only [nums_length, List.length_set, List.length_replicate]; first | with_reducible assumption | omega) | rfl | (simp [*]; done) | (simp [*]; omega))); (conv => arg 5; simp only [Act.put, List.setIfInBounds_toArray, List.set_cons_succ, List.set_cons_zero])) | (apply wpList_cvB Try.underlying9 Try.underlying47 Try.underlying5; (· rfl); (· rfl); (· rfl); (· assumption); intro bk cap ys w' M'; (conv => arg 5; simp only [Act.put, List.setIfInBounds_toArray, List.set_cons_succ, List.set_cons_zero])) | (apply wpList_ldN Try.underlying5; (· rfl); (· rfl); (· rfl); (· rfl); (· assumption); (· (repeat (first | exact List.mem_cons_self | refine List.mem_cons_of_mem _ ?_))); (· (first | with_reducible assumption | omega | (simp only [nums_length, List.length_set, List.length_replicate]; first | with_reducible assumption | omega) | rfl | (simp [*]; done) | (simp [*]; omega))); (conv => arg 5; simp only [Act.put, List.setIfInBounds_toArray, List.set_cons_succ, List.set_cons_zero])) | (apply wpList_stN s5; (· rfl); (· rfl); (· rfl); (· rfl); (· assumption); (· (repeat (first | exact Swap.head | apply Swap.tail))); (· (first | with_reducible assumption | omega | (simp only [nums_length, List.length_set, List.length_replicate]; first | with_reducible assumption | omega) | rfl | (simp [*]; done) | (simp [*]; omega))); intro w' M'; (conv => arg 5; simp only [Act.put, List.setIfInBounds_toArray, List.set_cons_succ, List.set_cons_zero])) | (apply wpList_stKN s5; (· rfl); (· rfl); (· rfl); (· rfl); (· assumption); (· (repeat (first | exact Swap.head | apply Swap.tail))); (· (first | with_reducible assumption | omega | (simp only [nums_length, List.length_set, List.length_replicate]; first | with_reducible assumption | omega) | rfl | (simp [*]; done) | (simp [*]; omega))); intro w' M'; (conv => arg 5; simp only [Act.put, List.setIfInBounds_toArray, List.set_cons_succ, List.set_cons_zero])) | (apply wpList_cvK Try.underlying47 Try.underlying5 Try.underlying9; (· rfl); (· rfl); (· rfl); (· assumption); (· (repeat (first | exact List.mem_cons_self | refine List.mem_cons_of_mem _ ?_))); (· (first | with_reducible assumption | omega | (simp only [nums_length, List.length_set, List.length_replicate]; first | with_reducible assumption | omega) | rfl | (simp [*]; done) | (simp [*]; omega))); (conv => arg 5; simp only [Act.put, List.setIfInBounds_toArray, List.set_cons_succ, List.set_cons_zero])) | (apply wpList_cvS Try.underlying47 Try.underlying5 Try.underlying9; (· rfl); (· rfl); (· rfl); (· assumption); (· (repeat (first | exact List.mem_cons_self | refine List.mem_cons_of_mem _ ?_))); (· (first | with_reducible assumption | omega | (simp only [nums_length, List.length_set, List.length_replicate]; first | with_reducible assumption | omega) | rfl | (simp [*]; done) | (simp [*]; omega))); (conv => arg 5; simp only [Act.put, List.setIfInBounds_toArray, List.set_cons_succ, List.set_cons_zero])))
    go_ret
    exact ⟨rfl, M'.below⟩
end Go.Proofs.Ytcjfpcajjhccaaa
