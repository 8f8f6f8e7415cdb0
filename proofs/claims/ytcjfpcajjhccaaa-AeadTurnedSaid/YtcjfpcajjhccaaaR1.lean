/- Reading slices that a caller has; what a callee made joins what was known. -/
import Derived.Test.YtcjfpcajjhccaaaP1
import Derived.Test.YtcjfpcajjhccaaaFacts
import Derived.Test.YtcjfpcajjhccaaaM5
set_option linter.unusedVariables false
set_option linter.unusedSimpArgs false
namespace Go.Proofs.Ytcjfpcajjhccaaa
open Go.RowKit
theorem pairwise_join {α : Type} {R : α → α → Prop} : ∀ {L2 L : List α}, L2.Pairwise R → L.Pairwise R → (∀ x ∈ L2, ∀ y ∈ L, R x y) → (L2 ++ L).Pairwise R
  | [], L, _, h, _ => h
  | x :: L2, L, h2, h, hx => by
    obtain ⟨h3, h4⟩ := List.pairwise_cons.1 h2
    refine List.pairwise_cons.2 ⟨fun y hy => ?_, pairwise_join h4 h (fun a ha b hb => hx a (by simp [ha]) b hb)⟩
    rcases List.mem_append.1 hy with hy | hy
    · exact h3 y hy
    · exact hx x (by simp) y hy
/-- What a callee made joins what was known. -/
theorem Mem.join {w0 w w' : World} {E : List Nat} {L L2 : List Item} (M : Mem w0 E w L) (M2 : Mem w [] w' L2) : Mem w0 E w' (L2 ++ L) := by
  have M' := M.call M2.below
  have fr : ∀ x ∈ L2, ∀ b, x.block = some b → w.heap.size ≤ b := fun x hx b hb => (M2.fresh x hx b hb).resolve_left (by simp)
  refine ⟨M'.os, M'.tape, M'.output, M'.size, M'.old, ?_, ?_, ?_⟩
  · intro x hx
    rcases List.mem_append.1 hx with hx | hx
    · exact M2.holds x hx
    · exact M'.holds x hx
  · intro x hx b hb
    rcases List.mem_append.1 hx with hx | hx
    · exact .inr (Nat.le_trans M.size (fr x hx b hb))
    · exact M.fresh x hx b hb
  · refine pairwise_join M2.apart M.apart fun x hx y hy b hb e => ?_
    have h1 := fr x hx b hb
    have h2 := Item.lt (M.holds y hy) e
    omega
/-- A slice of numbers that reads as xs. -/
def RowR (k : IntKind) (w : World) (A : Option Addr) (xs : List Int) : Prop :=
  ∀ i x, xs[i]? = some x → ∃ b off, A = some ⟨b, off, none⟩ ∧ w.cell? ⟨b, off + i, none⟩ = some (.int k x)
theorem RowR.nil (k : IntKind) (w : World) (A : Option Addr) : RowR k w A [] := fun i x h => by simp at h
theorem RowR.at {k : IntKind} {w : World} {A : Option Addr} {xs : List Int} (h : RowR k w A xs) {i : Nat} (hi : i < xs.length) : ∃ b off, A = some ⟨b, off, none⟩ ∧ w.cell? ⟨b, off + i, none⟩ = some (.int k (rd xs i)) :=
  h i (rd xs i) (by rw [rd, List.getD_eq_getElem?_getD, List.getElem?_eq_getElem hi]; rfl)
/-- A cell of the world in which the call began is as it was. -/
theorem Mem.cell0 {w0 w : World} {L : List Item} (M : Mem w0 [] w L) {ad : Addr} {v : Value} (h : w0.cell? ad = some v) : w.cell? ad = some v := by
  rw [← h]
  exact World.cell?_of_block (M.old _ (World.block_lt_of_cell? w0 ad h) (by simp))
theorem RowR.kept {k : IntKind} {w0 w : World} {L : List Item} {A : Option Addr} {xs : List Int} (h : RowR k w0 A xs) (M : Mem w0 [] w L) : RowR k w A xs := fun i x hx => by
  obtain ⟨b, off, hA, hc⟩ := h i x hx
  exact ⟨b, off, hA, M.cell0 hc⟩
theorem Mem.rowR {w0 w : World} {E : List Nat} {L : List Item} (M : Mem w0 E w L) {A : Option Addr} {n cap : Nat} {e : TypeId} {k : IntKind} {xs : List Int} (hin : .vec A n cap e 1 (nums k xs) ∈ L) : RowR k w A xs ∧ n = xs.length := by
  have hv := M.vcell hin
  have hn : n = xs.length := by have := hv.1; rw [nums_length] at this; omega
  refine ⟨fun i x hx => ?_, hn⟩
  have hh : w.ownsRow 0 e 1 (.slice A n cap) n (nums k xs) := M.holds _ hin
  have hi := (List.getElem?_eq_some_iff.1 hx).1
  rcases hh.2 with ⟨h1, h2⟩ | ⟨g, cap', cur, h1, _, _⟩
  · subst hn
    have : xs.length = 0 := h2
    omega
  · have hA : A = some ⟨g, 0, none⟩ := by injection h1
    refine ⟨g, 0, hA, ?_⟩
    have := hv.2 ⟨g, 0, none⟩ hA i (.int k x) (by rw [nums, List.getElem?_map, hx]; rfl)
    rwa [Addr.add_lit] at this
theorem Mem.rowB {w0 w : World} {E : List Nat} {L : List Item} (M : Mem w0 E w L) {g : Nat} {e : TypeId} {k : IntKind} {xs : List Int} (hin : .blk g (rowO k e xs) ∈ L) : RowR k w (some ⟨g, 0, none⟩) xs := fun i x hx => by
  refine ⟨g, 0, rfl, ?_⟩
  rw [Nat.zero_add]
  exact M.cell hin (by rw [nums, List.getElem?_map, hx]; rfl)
/-- A slice of strings that reads as ps. -/
def RowS (w : World) (A : Option Addr) (ps : List ByteArray) : Prop :=
  ∀ i s, ps[i]? = some s → ∃ b off, A = some ⟨b, off, none⟩ ∧ w.cell? ⟨b, off + i, none⟩ = some (.string s)
def joinAll (ps : List ByteArray) : ByteArray := strOfNums (ps.flatMap bytesOf)
theorem joinAll_bytes (ps : List ByteArray) : bytesOf (joinAll ps) = ps.flatMap bytesOf := bytesOf_str _ (fun x hx => by
  simp only [List.mem_flatMap] at hx
  obtain ⟨s, _, h⟩ := hx
  exact bytesOf_all s x h)
theorem str_append (xs ys : List Int) : strOfNums (xs ++ ys) = strOfNums xs ++ strOfNums ys := by
  have h : (strOfNums (xs ++ ys)).data = (strOfNums xs ++ strOfNums ys).data := by
    rw [ByteArray.data_append]
    apply Array.toList_inj.1
    simp [strOfNums]
  cases hA : strOfNums (xs ++ ys)
  cases hB : strOfNums xs ++ strOfNums ys
  rw [hA, hB] at h
  simpa using h
theorem joinAll_take (ps : List ByteArray) (i : Nat) (s : ByteArray) (h : ps[i]? = some s) : joinAll (ps.take (i + 1)) = joinAll (ps.take i) ++ s := by
  have hi := (List.getElem?_eq_some_iff.1 h).1
  have e : ps[i] = s := by rw [List.getElem?_eq_getElem hi] at h; simpa using h
  rw [joinAll, List.take_succ_eq_append_getElem hi, List.flatMap_append, str_append, e]
  simp [joinAll, str_bytesOf]
theorem joinAll_size (ps : List ByteArray) (n : Nat) (h : ∀ p ∈ ps, p.size ≤ n) : (joinAll ps).size ≤ ps.length * n := by
  rw [joinAll, strOfNums_size]
  induction ps with
  | nil => simp
  | cons p ps ih =>
    have h1 := h p (by simp)
    have h2 := ih (fun q hq => h q (by simp [hq]))
    simp only [List.flatMap_cons, List.length_append, bytesOf_length, List.length_cons]
    rw [Nat.add_mul]
    omega
set_option maxRecDepth 100000 in
theorem Join29 (A : Option Addr) (cap : Nat) (ps : List ByteArray) (w : World) (hA : RowS w A ps) (hn : ps.length ≤ 1000) (hs : ∀ p ∈ ps, p.size ≤ 100000) :
    Calls Try.prog 29 #[.slice A ps.length cap] w fun e w' => e = .returned (.string (joinAll ps)) ∧ w' = w := by
  have hsz := joinAll_size ps 100000 hs
  go_enter Try.func29, Try.ntmps29
  go_wp2_with fail
  go_loop [3, 4] (fun s n => ∃ i : Nat, i ≤ ps.length ∧ n = .int .i64 i ∧ s = .string (joinAll (ps.take i))) (fun _ n => ps.length - (intOf n).toNat)
  case atStart => exact ⟨0, by omega, rfl, rfl⟩
  case round =>
    obtain ⟨i, hi, rfl, rfl⟩ := hrel
    by_cases hlt : i < ps.length
    · have hltI : (i : Int) < (ps.length : Int) := by omega
      obtain ⟨p, hp⟩ : ∃ p, ps[i]? = some p := ⟨ps[i], List.getElem?_eq_getElem hlt⟩
      obtain ⟨b, off, rfl, hc⟩ := hA i p hp
      have hj := joinAll_take ps i p hp
      have hps := hs p (List.mem_of_getElem? hp)
      have hti := joinAll_size (ps.take i) 100000 (fun q hq => hs q (List.mem_of_mem_take hq))
      obtain ⟨q, hq⟩ : ∃ q, q = joinAll (ps.take i) := ⟨_, rfl⟩
      have hqs : q.size ≤ 100000000 := by
        rw [hq]
        have : (ps.take i).length ≤ 1000 := by simp; omega
        have := Nat.mul_le_mul_right 100000 this
        omega
      rw [← hq] at hj ⊢
      have HJ := hid hj
      clear hj hp hq hti
      go_wp2_with fail
      go_round
      case rel => exact ⟨i + 1, by omega, by go_num, by rw [HJ.out]⟩
      case measure => simp [intOf]; omega
    · obtain rfl : i = ps.length := by omega
      rw [List.take_of_length_le (Nat.le_refl _)]
      go_wp2_with fail
      go_ret
      exact ⟨rfl, rfl⟩
end Go.Proofs.Ytcjfpcajjhccaaa
