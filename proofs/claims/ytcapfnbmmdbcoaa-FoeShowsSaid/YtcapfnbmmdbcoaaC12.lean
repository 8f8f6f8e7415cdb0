/- Walks of the term layer: how many terms there are; 32 bytes as a key. -/
import Derived.Test.YtcapfnbmmdbcoaaC6
set_option linter.unusedVariables false
set_option linter.unusedSimpArgs false
namespace Go.Proofs.Ytcapfnbmmdbcoaa
open Go.RowKit
theorem Len26 (g n c : Nat) (A : Option Addr) (w : World) (hc : w.cell? ⟨g, 0, none⟩ = some (Value.slice A n c)) : Calls Try.prog 26 #[.pointer (some ⟨g, 0, none⟩)] w (IntR n w) := by
  have M0 := Mem.start w
  go_enter Try.func26, Try.ntmps26
  go_wp2_with fail
  go_ret
  exact ⟨rfl, M0⟩
/-- The end of a function with two results, the first an array, the second in a slot. -/
theorem ret_row2 {P : Program} {a : Act} {w w0 : World} {E : List Nat} {L : List Item} {fn : Func} {R : Ending → World → Prop} {ty : TypeId} {d : TypeDesc} {n : Nat} (hu : P.underlying ty = some d) (hsz : (P.info? ty).map (·.size) = some n) {p q : Tmp} (hres : fn.results = #[.cell p ty, .tmp q]) (hd : d.isRow = true) {g : Nat}
    (hp : a.tmps.getD p undef = .pointer (some ⟨g, 0, none⟩)) {v : Value} (hq : a.tmps.getD q undef = v) (hdef : a.defers = []) (M : Mem w0 E w L) {k : IntKind} {t : TypeId} {xs : List Int} (hin : .blk g (rowO k t xs) ∈ L) (hn : xs.length = n)
    (hR : R (.returned (.tuple #[.agg (nums k xs).toArray, v])) w) : bodyPost P fn R .ret a w := by
  have hl := run_loadVar_row (P := P) w g t ty (nums k xs).toArray (0, 0) d (M.holds _ hin) hu (by cases d <;> simp_all [TypeDesc.isRow]) (by rw [hsz]; simp [nums_length, hn])
  have hp' : a.tmps[p]?.getD undef = .pointer (some ⟨g, 0, none⟩) := by simpa using hp
  have hq' : a.tmps[q]?.getD undef = v := by simpa using hq
  exact bodyPost_ret (by simp [results, hres, hp', hq', asAddr, hl]) hdef hR
def Key2R (k : List Int) (b : Bool) (w : World) (e : Ending) (w' : World) : Prop := e = .returned (.tuple #[.agg (nums .u8 k).toArray, .bool b]) ∧ Mem w [] w' []
set_option maxRecDepth 100000 in
set_option maxHeartbeats 1000000 in
theorem key14 (s : ByteArray) (w : World) (hs : s.size = 32) : Calls Try.prog 14 #[.string s] w (Key2R (bytesOf s) true w) := by
  have M0 := Mem.start w
  have HS := hid hs
  have hbl : (bytesOf s).length = 32 := by rw [bytesOf_length, hs]
  have HBL := hid hbl
  have hsI : (s.size : Int) = 32 := by omega
  clear hbl
  go_enter Try.func14, Try.ntmps14
  go_wp2_with (first | (refine wpList_alN z26 2 rfl rfl rfl M0 (fun b2 w1 M1 => ?_); clear M0; (conv => arg 5; simp only [Act.put, List.setIfInBounds_toArray, List.set_cons_succ, List.set_cons_zero])) | (refine wpList_alN z26 4 rfl rfl rfl M1 (fun b4 w2 M2 => ?_); clear M1; (conv => arg 5; simp only [Act.put, List.setIfInBounds_toArray, List.set_cons_succ, List.set_cons_zero])))
  go_loopw [5] (fun n wr => ∃ i : Nat, i ≤ 32 ∧ n = .int .i64 i ∧ Mem w [] wr [.blk b4 (rowO .u8 26 ((bytesOf s).take i ++ List.replicate (32 - i) 0)), .blk b2 (rowO .u8 26 (List.replicate 32 0))]) (fun n _ => 32 - (intOf n).toNat)
  case atStart => exact ⟨0, by omega, rfl, M2⟩
  case round =>
    obtain ⟨i, hi, rfl, Mi⟩ := hrel
    by_cases hlt : i < 32
    · have hltI : (i : Int) < 32 := by omega
      have hl1 : ((bytesOf s).take i ++ List.replicate (32 - i) (0 : Int)).length = 32 := by
        have := HBL.out
        simp only [List.length_append, List.length_take, List.length_replicate]
        omega
      have hlt2 : i < s.size := by rw [HS.out]; exact hlt
      go_wp2_with (first | (refine wpList_stN (v := rd (bytesOf s) i) s5 rfl rfl rfl rfl Mi Swap.head (by rw [hl1]; exact hlt) (fun w3 M3 => ?_); (conv => arg 5; simp only [Act.put, List.setIfInBounds_toArray, List.set_cons_succ, List.set_cons_zero])))
      go_round
      case rel =>
        refine ⟨i + 1, by omega, by go_num, ?_⟩
        have h1 := fill_set ((bytesOf s).take i) (32 - i) i (rd (bytesOf s) i) (by have := HBL.out; rw [List.length_take]; omega) (by omega)
        have h2 : (bytesOf s).take (i + 1) = (bytesOf s).take i ++ [rd (bytesOf s) i] := by
          have hl : i < (bytesOf s).length := by rw [HBL.out]; exact hlt
          rw [List.take_succ_eq_append_getElem hl, rd, List.getD_eq_getElem?_getD, List.getElem?_eq_getElem hl]
          rfl
        rw [h1, show 32 - i - 1 = 32 - (i + 1) from by omega, ← h2] at M3
        exact M3
      case measure => simp [intOf]; omega
    · obtain rfl : i = 32 := by omega
      rw [List.take_of_length_le (by rw [HBL.out]; exact Nat.le_refl _), show List.replicate (32 - 32) (0 : Int) = [] from rfl, List.append_nil] at Mi
      go_wp2_with (first | (refine wpList_ldrowN Try.underlying26 s26 rfl rfl rfl rfl Mi List.mem_cons_self HBL.out ?_; (conv => arg 5; simp only [Act.put, List.setIfInBounds_toArray, List.set_cons_succ, List.set_cons_zero])) | (refine wpList_strowN s26 rfl rfl rfl rfl Mi (Swap.tail Swap.head) (by simp) HBL.out (fun w3 M3 => ?_); (conv => arg 5; simp only [Act.put, List.setIfInBounds_toArray, List.set_cons_succ, List.set_cons_zero])))
      try simp only [Exit.inBlock, Exit.then]
      refine ret_row2 Try.underlying26 s26 rfl rfl rfl rfl rfl M3 (List.mem_cons_of_mem _ List.mem_cons_self) HBL.out ?_
      exact ⟨rfl, M3.sub (List.nil_sublist _)⟩
end Go.Proofs.Ytcapfnbmmdbcoaa
