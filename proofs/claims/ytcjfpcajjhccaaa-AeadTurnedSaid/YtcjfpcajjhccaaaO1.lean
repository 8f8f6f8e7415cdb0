/- Walks of the onetime layer's laws: alive, great. -/
import Derived.Test.YtcjfpcajjhccaaaQ4
import Derived.Test.YtcjfpcajjhccaaaM6
import Derived.SliceStrings
import Derived.ChangeSlices
set_option linter.unusedVariables false
set_option linter.unusedSimpArgs false
namespace Go.Proofs.Ytcjfpcajjhccaaa
open Go.RowKit
/-- A slice that reads as some strings serves as an argument, whatever block is new. -/
theorem RowS.strs {w : World} {A : Option Addr} {cap : Nat} {ps : List ByteArray} (h : RowS w A ps) (b : Nat) (hb : w.heap.size ≤ b) : Strs w b (.slice A ps.length cap) ps := by
  cases ps with
  | nil => exact .none A cap
  | cons p ps =>
    obtain ⟨g, off, rfl, hc⟩ := h 0 p rfl
    have hlt := World.block_lt_of_cell? w _ hc
    refine .some g off cap (p :: ps) (by simp only at hlt; omega) fun i s hi => ?_
    obtain ⟨g', off', hA, hc'⟩ := h i s hi
    simp only [Option.some.injEq, Addr.mk.injEq, and_true] at hA
    obtain ⟨rfl, rfl⟩ := hA
    exact hc'
theorem RowS.kept {w0 w : World} {L : List Item} {A : Option Addr} {ps : List ByteArray} (h : RowS w0 A ps) (M : Mem w0 [] w L) : RowS w A ps := fun i x hx => by
  obtain ⟨b, off, hA, hc⟩ := h i x hx
  exact ⟨b, off, hA, M.cell0 hc⟩
def strsO (t : TypeId) (ps : List ByteArray) : Obj := .cells (ps.map Value.string).toArray t
theorem Mem.rowStr {w0 w : World} {E : List Nat} {L : List Item} (M : Mem w0 E w L) {g : Nat} {t : TypeId} {ps : List ByteArray} (hin : .blk g (strsO t ps) ∈ L) : RowS w (some ⟨g, 0, none⟩) ps := fun i x hx => by
  refine ⟨g, 0, rfl, ?_⟩
  rw [Nat.zero_add]
  exact M.cell hin (by rw [List.getElem?_map, hx]; rfl)
theorem zi9 : (Try.prog.info? 9).map (fun i => (i.zero, i.size)) = some (some (.string ⟨#[]⟩), 1) := by kernel_rfl
section
variable {ops : Array Oper} {rest : List Oper} {o : Oper} {a : Act} {w w0 : World} {Q : Exit → Act → World → Prop} {E : List Nat} {L L' : List Item}
/-- A slice of one string is made. -/
theorem wpList_bsS1 (m : Nat) (hm : o.dst = some m) (hgd : o.guard = none) {x : Operand} (ho : o.op = .buildSlice 41 1 #[(0, x)]) {s : ByteArray} (hx : a.eval x = .string s) (M : Mem w0 E w L)
    (h : ∀ b w', Mem w0 E w' (.blk b (strsO 9 [s]) :: L) → wpList Try.prog ops Q rest (a.put (some m) (.slice (some ⟨b, 0, none⟩) 1 1)) w') : wpList Try.prog ops Q (o :: rest) a w :=
  wpList_bsN Try.underlying41 zi9 m hm hgd ho (by decide) (cs := [.string s]) (by rw [show (#[(0, x)] : Array (Nat × Operand)).toList.map (fun (i, x) => (i, a.eval x)) = [(0, .string s)] from by simp [hx]]; kernel_rfl) M h
theorem wpList_bsS2 (m : Nat) (hm : o.dst = some m) (hgd : o.guard = none) {x y : Operand} (ho : o.op = .buildSlice 41 2 #[(0, x), (1, y)]) {s u : ByteArray} (hx : a.eval x = .string s) (hy : a.eval y = .string u) (M : Mem w0 E w L)
    (h : ∀ b w', Mem w0 E w' (.blk b (strsO 9 [s, u]) :: L) → wpList Try.prog ops Q rest (a.put (some m) (.slice (some ⟨b, 0, none⟩) 2 2)) w') : wpList Try.prog ops Q (o :: rest) a w :=
  wpList_bsN Try.underlying41 zi9 m hm hgd ho (by decide) (cs := [.string s, .string u]) (by rw [show (#[(0, x), (1, y)] : Array (Nat × Operand)).toList.map (fun (i, x) => (i, a.eval x)) = [(0, .string s), (1, .string u)] from by simp [hx, hy]]; kernel_rfl) M h
end
def aliveKey : List Int := [133, 214, 190, 120, 87, 85, 109, 51, 127, 68, 82, 254, 66, 213, 6, 168, 1, 3, 128, 138, 251, 13, 178, 253, 74, 191, 246, 175, 65, 73, 245, 27]
def aliveP1 : ByteArray := ⟨#[67, 114, 121, 112, 116, 111, 103, 114, 97, 112, 104, 105, 99, 32, 70, 111, 114, 117, 109, 32]⟩
def aliveP2 : ByteArray := ⟨#[82, 101, 115, 101, 97, 114, 99, 104, 32, 71, 114, 111, 117, 112]⟩
theorem aliveKey_ok : digOk 256 aliveKey := fun x hx => by
  have : ∀ x ∈ aliveKey, 0 ≤ x ∧ x < 256 := by decide
  exact this x hx
theorem alive_tag : strOfNums (tagK aliveKey (bytesAll [aliveP1, aliveP2])) = ⟨#[168, 6, 29, 193, 48, 81, 54, 198, 194, 43, 139, 175, 12, 1, 39, 169]⟩ := by
  rw [tag_eq _ _ rfl aliveKey_ok (bytesAll_ok _)]
  decide +kernel
theorem aliveBld : ∀ w : World, (Instr.build 23 #[(0, .int .u8 133), (1, .int .u8 214), (2, .int .u8 190), (3, .int .u8 120), (4, .int .u8 87), (5, .int .u8 85), (6, .int .u8 109), (7, .int .u8 51), (8, .int .u8 127), (9, .int .u8 68), (10, .int .u8 82), (11, .int .u8 254), (12, .int .u8 66), (13, .int .u8 213), (14, .int .u8 6), (15, .int .u8 168), (16, .int .u8 1), (17, .int .u8 3), (18, .int .u8 128), (19, .int .u8 138), (20, .int .u8 251), (21, .int .u8 13), (22, .int .u8 178), (23, .int .u8 253), (24, .int .u8 74), (25, .int .u8 191), (26, .int .u8 246), (27, .int .u8 175), (28, .int .u8 65), (29, .int .u8 73), (30, .int .u8 245), (31, .int .u8 27)]).run Try.prog w = .ok (.agg (nums .u8 aliveKey).toArray) w := fun w => by kernel_rfl
set_option maxRecDepth 100000 in
theorem alive25 (w : World) : Calls Try.prog 25 #[] w fun e w' => e = .returned (.bool true) ∧ Below w.heap.size w w' := by
  have M0 := Mem.start w
  have HT := hid alive_tag
  have HTag := hid (fun w v hv => Tag27 aliveKey v [aliveP1, aliveP2] w rfl aliveKey_ok hv (by decide) (by decide))
  have hal : aliveKey.length = 32 := rfl
  go_enter Try.func25, Try.ntmps25
  go_wp2_with (first | (apply wpList_bld aliveBld; (· rfl); (· rfl); (· rfl); (conv => arg 5; simp only [Act.put, List.setIfInBounds_toArray, List.set_cons_succ, List.set_cons_zero])) | (apply wpList_bsS2 4; (· rfl); (· rfl); (· rfl); (· rfl); (· rfl); (· assumption); intro b4 w' M'; (conv => arg 5; simp only [Act.put, List.setIfInBounds_toArray, List.set_cons_succ, List.set_cons_zero])) | (apply wpList_alN z23 1; (· rfl); (· rfl); (· rfl); (· assumption); intro b1 w' M'; (conv => arg 5; simp only [Act.put, List.setIfInBounds_toArray, List.set_cons_succ, List.set_cons_zero])) | (apply wpList_strowN s23; (· rfl); (· rfl); (· rfl); (· rfl); (· assumption); (· (repeat (first | exact Swap.head | apply Swap.tail))); (· (first | with_reducible assumption | omega | (simp only [nums_length, List.length_set, List.length_replicate]; first | with_reducible assumption | omega) | rfl | (simp [*]; done) | (simp [*]; omega))); (· (first | with_reducible assumption | omega | (simp only [nums_length, List.length_set, List.length_replicate]; first | with_reducible assumption | omega) | rfl | (simp [*]; done) | (simp [*]; omega))); intro w' M'; (conv => arg 5; simp only [Act.put, List.setIfInBounds_toArray, List.set_cons_succ, List.set_cons_zero])) | (apply wpList_ldrowN Try.underlying23 s23; (· rfl); (· rfl); (· rfl); (· rfl); (· assumption); (· (repeat (first | exact List.mem_cons_self | refine List.mem_cons_of_mem _ ?_))); (· (first | with_reducible assumption | omega | (simp only [nums_length, List.length_set, List.length_replicate]; first | with_reducible assumption | omega) | rfl | (simp [*]; done) | (simp [*]; omega))); (conv => arg 5; simp only [Act.put, List.setIfInBounds_toArray, List.set_cons_succ, List.set_cons_zero])))
  refine (HTag.out _ _ (fun b hb => (M'.rowStr (g := b4) (t := 9) (ps := [aliveP1, aliveP2]) List.mem_cons_self).strs b hb)).mono ?_; rintro e w' ⟨rfl, hb⟩
  rw [HT.out]
  go_wp2_with fail
  go_ret
  exact ⟨rfl, (M'.call hb).below⟩
def GreatR (w : World) (ps : List ByteArray) (e : Ending) (w' : World) : Prop := ∃ b, e = .returned (.bool b) ∧ w' = w ∧ (b = false → ps.length ≤ 30 ∧ ∀ p ∈ ps, p.size ≤ 500)
set_option maxRecDepth 100000 in
/-- The texts are many or long, or they are neither. -/
theorem great26 (A : Option Addr) (cap : Nat) (ps : List ByteArray) (w : World) (hA : RowS w A ps) (hn : ps.length ≤ maxLen) (hs : ∀ p ∈ ps, p.size ≤ maxLen) :
    Calls Try.prog 26 #[.slice A ps.length cap] w (GreatR w ps) := by
  have hmax : maxLen < 9223372036854775808 := by decide
  by_cases h30 : ps.length ≤ 30
  · have h0 : ¬ (30 : Int) < (ps.length : Int) := by omega
    go_enter Try.func26, Try.ntmps26
    go_wp2_with fail
    go_loop [3] (fun n => ∃ i : Nat, i ≤ ps.length ∧ n = .int .i64 i ∧ Hid (∀ p ∈ ps.take i, p.size ≤ 500)) (fun n => ps.length - (intOf n).toNat)
    case atStart => exact ⟨0, by omega, rfl, hid (fun p hp => by simp at hp)⟩
    case round =>
      obtain ⟨i, hi, rfl, HP⟩ := hrel
      by_cases hlt : i < ps.length
      · have hltI : (i : Int) < (ps.length : Int) := by omega
        obtain ⟨p, hp⟩ : ∃ p, ps[i]? = some p := ⟨ps[i], List.getElem?_eq_getElem hlt⟩
        obtain ⟨b, off, rfl, hc⟩ := hA i p hp
        have hps := hs p (List.mem_of_getElem? hp)
        have ht : ps.take (i + 1) = ps.take i ++ [p] := by
          rw [List.take_succ_eq_append_getElem hlt]
          rw [List.getElem?_eq_getElem hlt] at hp
          simp at hp
          rw [hp]
        have HT := hid ht
        clear hp ht
        by_cases h5 : p.size ≤ 500
        · have h5I : ¬ (500 : Int) < (p.size : Int) := by omega
          go_wp2_with fail
          go_round
          case rel => exact ⟨i + 1, by omega, by go_num, hid (fun q hq => by rw [HT.out] at hq; exact (List.mem_append.1 hq).elim (HP.out q) (fun h => by simp at h; subst h; exact h5))⟩
          case measure => simp [intOf]; omega
        · have h5I : (500 : Int) < (p.size : Int) := by omega
          go_wp2_with fail
          go_ret
          exact ⟨true, rfl, rfl, fun h => by cases h⟩
      · obtain rfl : i = ps.length := by omega
        have HP' := HP.out
        rw [List.take_of_length_le (Nat.le_refl _)] at HP'
        have HH := hid HP'
        clear HP' HP
        go_wp2_with fail
        go_ret
        exact ⟨false, rfl, rfl, fun _ => ⟨h30, HH.out⟩⟩
  · have h0 : (30 : Int) < (ps.length : Int) := by omega
    go_enter Try.func26, Try.ntmps26
    go_wp2_with fail
    go_ret
    exact ⟨true, rfl, rfl, fun h => by cases h⟩
theorem c9 : Try.prog.cellsOf 9 = 1 := by kernel_rfl
/-- A slice of strings among the arguments. -/
theorem opened_strings {H : Type} {enc : TypeId × Value → H} {W : World} {base : Nat} {v : Value} {d : DataW H} {p : List MemPlace} (hv : Value.okWide Try.prog W Reach.any base 41 v) (h : DataW.Trod enc Try.prog W 0 (fun _ => true) true 41 v d p) :
    ∃ (A : Option Addr) (cap : Nat) (ps : List ByteArray), v = .slice A ps.length cap ∧ RowS W A ps ∧ ps.length ≤ maxLen ∧ ∀ p ∈ ps, p.size ≤ maxLen := by
  obtain ⟨a0, len0, cap0, rfl⟩ := Go.WideShapes.okWide_slice Try.underlying41 hv
  obtain ⟨fuel, hf⟩ := h
  rcases Go.ChangeShapes.open_strings Try.underlying41 Try.underlying9 c9 hf with ⟨hcs, hx⟩ | ⟨a, len, cap, ss, hcs, _, hl, hm, hz, hx, hcell, hsz⟩
  · have hcs' : Value.slice a0 len0 cap0 = .slice none 0 0 := by simpa [Value.cells] using hcs
    injection hcs' with h1 h2 h3
    subst h1 h2 h3
    exact ⟨none, 0, [], rfl, fun i s h => by simp at h, by decide, fun p hp => by simp at hp⟩
  · have hcs' : Value.slice a0 len0 cap0 = .slice (some a) len cap := by simpa [Value.cells] using hcs
    injection hcs' with h1 h2 h3
    subst h1 h2 h3
    rw [if_pos rfl] at hz
    have hlen : (ss.take len0).length = len0 := by rw [List.length_take]; omega
    refine ⟨some a, cap0, ss.take len0, by rw [hlen], ?_, by rw [hlen]; omega, fun p hp => hsz p (List.mem_of_mem_take hp)⟩
    intro i s hi
    have hi' : i < len0 := by
      have := (List.getElem?_eq_some_iff.1 hi).1
      omega
    have h0 := hcell 0 (by omega)
    obtain ⟨b, off, spot⟩ := a
    have hspot : spot = none := by simpa [Addr.add] using World.cell?_spot h0
    subst hspot
    refine ⟨b, off, rfl, ?_⟩
    have hc := hcell i (by omega)
    rw [Addr.add_lit] at hc
    rw [hc]
    rw [List.getElem?_take_of_lt hi'] at hi
    simp [List.getD_eq_getElem?_getD, hi]
end Go.Proofs.Ytcjfpcajjhccaaa
