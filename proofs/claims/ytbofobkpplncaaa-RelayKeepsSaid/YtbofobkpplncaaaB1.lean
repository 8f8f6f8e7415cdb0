/- Walks of the relay layer: the library's Grow, Concat, Clone of texts. -/
import Derived.Test.YtbofobkpplncaaaM11
import Derived.Test.YtbofobkpplncaaaFacts
set_option linter.unusedVariables false
set_option linter.unusedSimpArgs false
namespace Go.Proofs.Ytbofobkpplncaaa
open Go.RowKit
def strs (ps : List ByteArray) : List Value := ps.map Value.string
theorem strs_length (ps : List ByteArray) : (strs ps).length = ps.length := by simp [strs]
theorem strs_append (ps qs : List ByteArray) : strs (ps ++ qs) = strs ps ++ strs qs := by simp [strs]
theorem strs_one (ps : List ByteArray) : ∀ v ∈ strs ps, v.oneCell' = true := by
  intro v hv
  simp only [strs, List.mem_map] at hv
  obtain ⟨x, _, rfl⟩ := hv
  rfl
theorem strs_take (ps : List ByteArray) (k : Nat) : strs (ps.take k) = (strs ps).take k := by simp [strs, List.map_take]
theorem strs_drop (ps : List ByteArray) (k : Nat) : strs (ps.drop k) = (strs ps).drop k := by simp [strs, List.map_drop]
theorem strs_get {ps : List ByteArray} {i : Nat} {s : ByteArray} (h : ps[i]? = some s) : (strs ps)[i]? = some (.string s) := by simp [strs, h]
section
variable {P : Program} {ops : Array Oper} {rest : List Oper} {o : Oper} {a : Act} {w w0 : World} {Q : Exit → Act → World → Prop} {E : List Nat} {L L' : List Item}
theorem Mem.toVec (M : Mem w0 E w L) {b : Nat} {e : TypeId} {cs : List Value} {size : Nat} {n : Nat} (hl : cs.length = n * size) (hn : n ≤ maxLen) (hsw : Swap (.blk b (cellsO e cs)) (.vec (some ⟨b, 0, none⟩) n n e size cs) L L') : Mem w0 E w L' := by
  have h : w.heap[b]? = some (cellsO e cs) := M.holds _ hsw.mem
  refine M.swap hsw (grownBy_refl w none) (.inl rfl) ?_ (fun b hb => .inl hb)
  exact ⟨hl, .inr ⟨b, n, cs.toArray, rfl, Nat.zero_le _, h, Nat.le_refl _, hn, by simpa using hl, by simp [← hl]⟩⟩
/-- T{} : an empty slice, not nil. -/
theorem wpList_bs0 {t e : TypeId} {z : Value} (ht : P.underlying t = some (.slice e)) (hi : (P.info? e).map (fun i => (i.zero, i.size)) = some (some z, 1)) (m : Nat) (hm : o.dst = some m) (hgd : o.guard = none) (ho : o.op = .buildSlice t 0 #[]) (M : Mem w0 E w L)
    (h : ∀ b w', Mem w0 E w' (.vec (some ⟨b, 0, none⟩) 0 0 e 1 [] :: L) → wpList P ops Q rest (a.put (some m) (.slice (some ⟨b, 0, none⟩) 0 0)) w') : wpList P ops Q (o :: rest) a w :=
  wpList_bsN ht hi m hm hgd ho (by decide) (cs := []) (by simp [Instr.fill]) M fun b w' M' => h b w' (M'.toVec (n := 0) rfl (by decide) Swap.head)
end
theorem iz9 : (Try.prog.info? 9).map (fun i => (i.zero, i.size)) = some (some (.string ByteArray.empty), 1) := by kernel_rfl
def GrowR (w : World) (e : Ending) (w' : World) : Prop := ∃ A cap, e = .returned (.slice A 0 cap) ∧ Mem w [] w' [.vec A 0 cap 9 1 []]
theorem Grow24 (n : Nat) (w : World) (hn : n ≤ 1000000) : Calls Try.prog 24 #[.slice none 0 0, .int .i64 n] w (GrowR w) := by
  have M0 := Mem.start w
  by_cases h0 : n = 0
  · subst h0
    go_enter Try.func24, Try.ntmps24
    go_wp2_with fail
    go_ret
    exact ⟨none, 0, rfl, M0.nil 9 1⟩
  · have hp : 0 < n := by omega
    have hpI : 0 < (n : Int) := by omega
    clear h0
    go_enter Try.func24, Try.ntmps24
    go_wp2_with (first | (refine wpList_appZ Try.underlying25 Try.underlying3 i9 rfl (by decide) rfl rfl rfl rfl hp (by omega) (by omega) M0 (fun A cap w' M' => ?_); (conv => arg 5; simp only [Act.put, List.setIfInBounds_toArray, List.set_cons_succ, List.set_cons_zero])))
    go_ret
    exact ⟨A, cap, rfl, M'.vec0 Swap.head⟩
/-- A slice that reads as some texts comes back, in a block of its own or nil. -/
def CatR (w : World) (ps : List ByteArray) (e : Ending) (w' : World) : Prop :=
  ∃ A c, e = .returned (.slice A ps.length c) ∧ ps.length ≤ c ∧ (A = none → c = 0) ∧ RowT w' 9 A (strs ps) ∧ Below w.heap.size w w' ∧ ∀ ad, A = some ad → w.heap.size ≤ ad.block
theorem Mem.vec_nil {w w0 : World} {E : List Nat} {L : List Item} {A : Option Addr} {n cap size : Nat} {t : TypeId} {cs : List Value} (M : Mem w0 E w L) (hin : .vec A n cap t size cs ∈ L) : A = none → cap = 0 := fun hA => by
  have h : w.ownsRow 0 t size (.slice A n cap) n cs := M.holds _ hin
  rcases h.2 with ⟨h', hn⟩ | ⟨g, cap', cur, h', _⟩
  · injection h' with _ _ h2
  · injection h' with h1 _ _
    rw [hA] at h1
    cases h1
theorem Mem.catR {w w' : World} {L : List Item} {A : Option Addr} {cap : Nat} {ps : List ByteArray} (M : Mem w [] w' L) (hin : .vec A ps.length cap 9 1 (strs ps) ∈ L) : CatR w ps (.returned (.slice A ps.length cap)) w' :=
  ⟨A, cap, rfl, M.vec_cap hin, M.vec_nil hin, M.vecT hin, M.below, M.vec_fresh hin⟩
theorem flat_take (qs : List (List ByteArray)) (i : Nat) (q : List ByteArray) (h : qs[i]? = some q) : (qs.take (i + 1)).flatten = (qs.take i).flatten ++ q := by
  obtain ⟨hl, rfl⟩ := List.getElem?_eq_some_iff.1 h
  rw [List.take_succ_eq_append_getElem hl, List.flatten_append]
  simp
theorem flat_take_le (qs : List (List ByteArray)) (i : Nat) : (qs.take i).flatten.length ≤ qs.flatten.length := by
  have h : qs.flatten = (qs.take i).flatten ++ (qs.drop i).flatten := by rw [← List.flatten_append, List.take_append_drop]
  rw [h, List.length_append]
  omega
set_option maxRecDepth 100000 in
set_option maxHeartbeats 1000000 in
theorem Concat23 (g : Nat) (vs : List Value) (qs : List (List ByteArray)) (w : World) (hg : w.heap[g]? = some (cellsO 25 vs)) (hl : vs.length = qs.length) (hq : qs.length ≤ 1000) (hz : qs.flatten.length ≤ 100000)
    (hr : ∀ (i : Nat) (q : List ByteArray), qs[i]? = some q → ∃ A c, vs[i]? = some (Value.slice A q.length c) ∧ RowT w 9 A (strs q)) :
    Calls Try.prog 23 #[.slice (some ⟨g, 0, none⟩) qs.length qs.length] w (CatR w qs.flatten) := by
  have M0 := Mem.start w
  have hz' := fun i => Nat.le_trans (flat_take_le qs i) hz
  have HR := hid hr
  have HG := hid hg
  have HZ := hid hz'
  clear hr hg hl hz'
  go_enter Try.func23, Try.ntmps23
  go_wp2_with fail
  go_loop [3, 11] (fun s n => ∃ i : Nat, i ≤ qs.length ∧ n = .int .i64 i ∧ s = .int .i64 ((qs.take i).flatten.length : Nat)) (fun _ n => qs.length - (intOf n).toNat)
  case atStart => exact ⟨0, by omega, rfl, rfl⟩
  case round =>
    obtain ⟨i, hi, rfl, rfl⟩ := hrel
    by_cases hlt : i < qs.length
    · have hltI : (i : Int) < (qs.length : Int) := by omega
      obtain ⟨q, hqe⟩ : ∃ q, qs[i]? = some q := ⟨qs[i], List.getElem?_eq_getElem hlt⟩
      obtain ⟨A, c, hv, _⟩ := HR.out i q hqe
      have hc : w.cell? ⟨g, i, none⟩ = some (.slice A q.length c) := by
        rw [cell_of_row w g i vs.toArray 25 (0, 0) HG.out]
        simpa using hv
      have hsn := flat_take qs i q hqe
      have hsl : (qs.take (i + 1)).flatten.length = (qs.take i).flatten.length + q.length := by rw [hsn, List.length_append]
      have hb1 := HZ.out i
      have hb2 := HZ.out (i + 1)
      obtain ⟨m, hm⟩ : ∃ m, m = (qs.take i).flatten.length := ⟨_, rfl⟩
      obtain ⟨m2, hm2⟩ : ∃ m, m = (qs.take (i + 1)).flatten.length := ⟨_, rfl⟩
      rw [← hm] at hb1 hsl ⊢
      rw [← hm2] at hb2 hsl
      have hsz : m + q.length ≤ 100000 := by omega
      have HSL := hid hsl
      have HM2 := hid hm2
      clear hsl hm2 hqe hv hsn hm hb2
      go_wp2_with fail
      go_round
      case rel => exact ⟨i + 1, by omega, by go_num, by rw [← HM2.out, HSL.out]; go_num⟩
      case measure => simp [intOf]; omega
    · obtain rfl : i = qs.length := by omega
      rw [List.take_of_length_le (Nat.le_refl _)]
      obtain ⟨m, hm⟩ : ∃ m, m = qs.flatten.length := ⟨_, rfl⟩
      rw [← hm] at hz ⊢
      have HM := hid hm
      clear hm hlt
      go_wp2_with fail
      refine (Grow24 m _ (by omega)).mono ?_; rintro e w1 ⟨A0, cap0, rfl, M1⟩
      clear M0
      go_wp2_with fail
      go_loopw [6, 27] (fun s n wr => ∃ (i : Nat) (A : Option Addr) (cap : Nat), i ≤ qs.length ∧ n = .int .i64 i ∧ s = .slice A ((qs.take i).flatten.length) cap ∧ Mem w [] wr [.vec A ((qs.take i).flatten.length) cap 9 1 (strs (qs.take i).flatten)]) (fun _ n _ => qs.length - (intOf n).toNat)
      case atStart => exact ⟨0, A0, cap0, by omega, rfl, rfl, M1⟩
      case round =>
        obtain ⟨i, A, cap, hi, rfl, rfl, Mi⟩ := hrel
        clear M1
        by_cases hlt : i < qs.length
        · have hltI : (i : Int) < (qs.length : Int) := by omega
          obtain ⟨q, hqe⟩ : ∃ q, qs[i]? = some q := ⟨qs[i], List.getElem?_eq_getElem hlt⟩
          obtain ⟨A2, c, hv, hrow⟩ := HR.out i q hqe
          have hc0 : w.cell? ⟨g, i, none⟩ = some (.slice A2 q.length c) := by
            rw [cell_of_row w g i vs.toArray 25 (0, 0) HG.out]
            simpa using hv
          have hc := Mi.cell0 hc0
          have hrow1 := hrow.mem Mi
          have hsn := flat_take qs i q hqe
          have hsl : (qs.take (i + 1)).flatten.length = (qs.take i).flatten.length + q.length := by rw [hsn, List.length_append]
          have hb1 := HZ.out i
          have hb2 := HZ.out (i + 1)
          obtain ⟨ps, hps⟩ : ∃ m, m = (qs.take i).flatten := ⟨_, rfl⟩
          obtain ⟨ps2, hps2⟩ : ∃ m, m = (qs.take (i + 1)).flatten := ⟨_, rfl⟩
          rw [← hps] at hb1 hsl hsn Mi ⊢
          rw [← hps2] at hb2 hsl hsn
          have hsz : ps.length + q.length ≤ 100000 := by omega
          have HSN := hid hsn
          have HSL := hid hsl
          have HP2 := hid hps2
          have HROW := hid hrow1
          clear hsl hps2 hqe hv hsn hps hb2 hc0 hrow hrow1
          go_wp2_with (first | (refine wpList_appS Try.underlying25 i9 rfl (by decide) rfl rfl rfl rfl Mi (fun A' cap' => Swap.head) HROW.out (by rw [strs_length, Nat.mul_one]) (strs_one q) (by omega) (by omega) (fun A' cap' w' M' => ?_); (conv => arg 5; simp only [Act.put, List.setIfInBounds_toArray, List.set_cons_succ, List.set_cons_zero])))
          go_roundw
          case rel => exact ⟨i + 1, A', cap', by omega, by go_num, by rw [← HP2.out, HSL.out], by rw [← HP2.out, HSL.out, HSN.out, strs_append]; exact M'⟩
          case measure => simp [intOf]; omega
        · obtain rfl : i = qs.length := by omega
          rw [List.take_of_length_le (Nat.le_refl _)] at Mi ⊢
          clear hlt
          go_wp2_with fail
          go_ret
          exact Mi.catR List.mem_cons_self
end Go.Proofs.Ytbofobkpplncaaa
