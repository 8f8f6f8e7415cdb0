/- Walks of the onetime layer, second part: carry. -/
import Derived.Test.YtcjfpcajjhccaaaP2
set_option linter.unusedVariables false
set_option linter.unusedSimpArgs false
namespace Go.Proofs.Ytcjfpcajjhccaaa
open Go.RowKit
/-- One limb's carry, as the program does it. -/
def cstep (s : List Int × Int) (i : Nat) : List Int × Int :=
  (s.1.set i (bits .and .u64 (IntKind.u64.wrap (rd s.1 i + s.2)) 67108863), IntKind.u64.wrap (rd s.1 i + s.2) / 67108864)
def cst (xs : List Int) (n : Nat) : List Int × Int := (List.range n).foldl cstep (xs, 0)
theorem cst_succ (xs : List Int) (n : Nat) : cst xs (n + 1) = cstep (cst xs n) n := by simp [cst, List.range_succ]
theorem cst_length (xs : List Int) (n : Nat) : (cst xs n).1.length = xs.length := by
  induction n with
  | zero => simp [cst]
  | succ n ih => rw [cst_succ, cstep]; simp [ih]
def carry1 (xs : List Int) : List Int := (cst xs 5).1.set 0 (IntKind.u64.wrap (rd (cst xs 5).1 0 + IntKind.u64.wrap (5 * (cst xs 5).2)))
theorem carry1_length (xs : List Int) : (carry1 xs).length = xs.length := by simp [carry1, cst_length]
def carryN (xs : List Int) : Nat → List Int
  | 0 => xs
  | n + 1 => carry1 (carryN xs n)
theorem carryN_length (xs : List Int) (n : Nat) : (carryN xs n).length = xs.length := by
  induction n with
  | zero => rfl
  | succ n ih => rw [carryN, carry1_length, ih]
theorem set_set_same (xs : List Int) (i : Nat) (a b : Int) : (xs.set i a).set i b = xs.set i b := by simp
set_option maxRecDepth 100000 in
set_option maxHeartbeats 1000000 in
theorem carry60 (g : Nat) (t : TypeId) (xs : List Int) (w : World) (hl : xs.length = 5) (hg : w.heap[g]? = some (rowO .u64 t xs)) :
    Calls Try.prog 60 #[.pointer (some ⟨g, 0, none⟩)] w fun e w' => e = .returned (.tuple #[]) ∧ w.grownBy w' (some g) ∧ w'.heap[g]? = some (rowO .u64 t (carryN xs 2)) := by
  have M0 := Mem.start1 hg
  go_enter Try.func60, Try.ntmps60
  go_wp2_with (first | (apply wpList_ldN Try.underlying52; (· rfl); (· rfl); (· rfl); (· rfl); (· assumption); (· (repeat (first | exact List.mem_cons_self | refine List.mem_cons_of_mem _ ?_))); (· (first | with_reducible assumption | omega | (simp only [nums_length, List.length_set, List.length_replicate]; first | with_reducible assumption | omega) | rfl | (simp [*]; done) | (simp [*]; omega))); (conv => arg 5; simp only [Act.put, List.setIfInBounds_toArray, List.set_cons_succ, List.set_cons_zero])) | (apply wpList_stN s52; (· rfl); (· rfl); (· rfl); (· rfl); (· assumption); (· (repeat (first | exact Swap.head | apply Swap.tail))); (· (first | with_reducible assumption | omega | (simp only [nums_length, List.length_set, List.length_replicate]; first | with_reducible assumption | omega) | rfl | (simp [*]; done) | (simp [*]; omega))); intro w' M'; (conv => arg 5; simp only [Act.put, List.setIfInBounds_toArray, List.set_cons_succ, List.set_cons_zero])))
  go_loopw [4] (fun n wr => ∃ k : Nat, k ≤ 2 ∧ n = .int .i64 k ∧ Mem w [g] wr [.blk g (rowO .u64 t (carryN xs k))]) (fun n _ => 2 - (intOf n).toNat)
  case atStart => exact ⟨0, by omega, rfl, M0⟩
  case round =>
    obtain ⟨k, hk, rfl, Mr⟩ := hrel
    clear M0
    by_cases hk2 : k < 2
    · have hkI : (k : Int) < 2 := by omega
      obtain ⟨ys, hys⟩ : ∃ x, x = carryN xs k := ⟨_, rfl⟩
      have ly : ys.length = 5 := by rw [hys, carryN_length, hl]
      have HY := hid (show carryN xs (k + 1) = carry1 ys by rw [carryN, ← hys])
      rw [← hys] at Mr
      clear hys
      go_wp2_with (fail)
      obtain ⟨wo, rfl⟩ : ∃ wo : World, wo = wr := ⟨_, rfl⟩
      go_loopw [2, 6] (fun c n wi => ∃ i : Nat, i ≤ 5 ∧ n = .int .i64 i ∧ c = .int .u64 (cst ys i).2 ∧ Mem w [g] wi [.blk g (rowO .u64 t (cst ys i).1)]) (fun _ n _ => 5 - (intOf n).toNat)
      case atStart => exact ⟨0, by omega, rfl, rfl, Mr⟩
      case round =>
        obtain ⟨i, hi, rfl, rfl, Mi⟩ := hrel
        clear Mr
        by_cases hi5 : i < 5
        · have hiI : (i : Int) < 5 := by omega
          obtain ⟨z, hz⟩ : ∃ z, z = (cst ys i).1 := ⟨_, rfl⟩
          obtain ⟨c, hc⟩ : ∃ c, c = (cst ys i).2 := ⟨_, rfl⟩
          have lz : z.length = 5 := by rw [hz, cst_length, ly]
          have hs := cst_succ ys i
          rw [cstep, ← hz, ← hc] at hs
          rw [← hz] at Mi
          rw [← hc]
          have HS := hid hs
          clear hs hz hc
          go_wp2_with (fail)
          refine wp_region_tailM 9 (by kernel_rfl) (by kernel_rfl) Mi (fun w1 M1 => ?_)
          simp only [List.take_succ_cons, List.take_zero, List.drop_succ_cons, List.drop_zero]
          have c1 : w1.cell? ⟨g, i, none⟩ = some (.int .u64 (rd z i)) := M1.cellN List.mem_cons_self (by omega)
          repeat still_step
          refine wpStill_nil ?_
          clear c1 Mi
          go_wp2_with (first | (apply wpList_ldN Try.underlying52; (· rfl); (· rfl); (· rfl); (· rfl); (· assumption); (· (repeat (first | exact List.mem_cons_self | refine List.mem_cons_of_mem _ ?_))); (· (first | with_reducible assumption | omega | (simp only [nums_length, List.length_set, List.length_replicate]; first | with_reducible assumption | omega) | rfl | (simp [*]; done) | (simp [*]; omega))); (conv => arg 5; simp only [Act.put, List.setIfInBounds_toArray, List.set_cons_succ, List.set_cons_zero])) | (apply wpList_stN s52; (· rfl); (· rfl); (· rfl); (· rfl); (· assumption); (· (repeat (first | exact Swap.head | apply Swap.tail))); (· (first | with_reducible assumption | omega | (simp only [nums_length, List.length_set, List.length_replicate]; first | with_reducible assumption | omega) | rfl | (simp [*]; done) | (simp [*]; omega))); intro w' M'; (conv => arg 5; simp only [Act.put, List.setIfInBounds_toArray, List.set_cons_succ, List.set_cons_zero])))
          obtain ⟨v, hv⟩ : ∃ v, v = IntKind.u64.wrap (rd z i + c) := ⟨_, rfl⟩
          rw [← hv] at M' ⊢
          have HV := hid hv
          rw [rd_set_same z i v (by omega)]
          have hset := hid (set_set_same z i v (bits .and .u64 v 67108863))
          have hrd := rd_set_same z i v (by omega)
          obtain ⟨z1, hz1⟩ : ∃ x, x = z.set i v := ⟨_, rfl⟩
          have l1 : z1.length = 5 := by rw [hz1, List.length_set, lz]
          rw [← hz1] at M' hset hrd
          clear hz1 hv
          refine wp_region_tailM 8 (by kernel_rfl) (by kernel_rfl) M' (fun w2 M2 => ?_)
          simp only [List.take_succ_cons, List.take_zero, List.drop_succ_cons, List.drop_zero]
          have c1 : w2.cell? ⟨g, i, none⟩ = some (.int .u64 v) := by rw [M2.cellN List.mem_cons_self (by omega), hrd]
          have hrd' := hid hrd
          clear hrd
          repeat still_step
          refine wpStill_nil ?_
          clear c1 M'
          go_wp2_with (first | (apply wpList_ldN Try.underlying52; (· rfl); (· rfl); (· rfl); (· rfl); (· assumption); (· (repeat (first | exact List.mem_cons_self | refine List.mem_cons_of_mem _ ?_))); (· (first | with_reducible assumption | omega | (simp only [nums_length, List.length_set, List.length_replicate]; first | with_reducible assumption | omega) | rfl | (simp [*]; done) | (simp [*]; omega))); (conv => arg 5; simp only [Act.put, List.setIfInBounds_toArray, List.set_cons_succ, List.set_cons_zero])) | (apply wpList_stN s52; (· rfl); (· rfl); (· rfl); (· rfl); (· assumption); (· (repeat (first | exact Swap.head | apply Swap.tail))); (· (first | with_reducible assumption | omega | (simp only [nums_length, List.length_set, List.length_replicate]; first | with_reducible assumption | omega) | rfl | (simp [*]; done) | (simp [*]; omega))); intro w' M'; (conv => arg 5; simp only [Act.put, List.setIfInBounds_toArray, List.set_cons_succ, List.set_cons_zero])))
          go_roundw
          case rel =>
            refine ⟨i + 1, by omega, by go_num, ?_, ?_⟩
            · rw [HS.out, HV.out]
            · rw [HS.out, ← HV.out, ← hset.out]; exact M'
          case measure => simp [intOf]; omega
        · obtain rfl : i = 5 := by omega
          rw [show ((5 : Nat) : Int) = 5 from rfl]
          obtain ⟨z, hz⟩ : ∃ z, z = (cst ys 5).1 := ⟨_, rfl⟩
          obtain ⟨c, hc⟩ : ∃ c, c = (cst ys 5).2 := ⟨_, rfl⟩
          have lz : z.length = 5 := by rw [hz, cst_length, ly]
          have hs : carry1 ys = z.set 0 (IntKind.u64.wrap (rd z 0 + IntKind.u64.wrap (5 * c))) := by rw [carry1, hz, hc]
          rw [← hz] at Mi
          rw [← hc]
          have HS := hid hs
          clear hs hz hc
          go_wp2_with (fail)
          refine wp_region_tailM 9 (by kernel_rfl) (by kernel_rfl) Mi (fun w1 M1 => ?_)
          simp only [List.take_succ_cons, List.take_zero, List.drop_succ_cons, List.drop_zero]
          have c1 : w1.cell? ⟨g, 0, none⟩ = some (.int .u64 (rd z 0)) := M1.cellN List.mem_cons_self (by omega)
          repeat still_step
          refine wpStill_nil ?_
          clear c1 Mi
          go_wp2_with (first | (apply wpList_ldN Try.underlying52; (· rfl); (· rfl); (· rfl); (· rfl); (· assumption); (· (repeat (first | exact List.mem_cons_self | refine List.mem_cons_of_mem _ ?_))); (· (first | with_reducible assumption | omega | (simp only [nums_length, List.length_set, List.length_replicate]; first | with_reducible assumption | omega) | rfl | (simp [*]; done) | (simp [*]; omega))); (conv => arg 5; simp only [Act.put, List.setIfInBounds_toArray, List.set_cons_succ, List.set_cons_zero])) | (apply wpList_stN s52; (· rfl); (· rfl); (· rfl); (· rfl); (· assumption); (· (repeat (first | exact Swap.head | apply Swap.tail))); (· (first | with_reducible assumption | omega | (simp only [nums_length, List.length_set, List.length_replicate]; first | with_reducible assumption | omega) | rfl | (simp [*]; done) | (simp [*]; omega))); intro w' M'; (conv => arg 5; simp only [Act.put, List.setIfInBounds_toArray, List.set_cons_succ, List.set_cons_zero])))
          go_roundw
          case rel => exact ⟨k + 1, by omega, by go_num, by rw [HY.out, HS.out]; exact M'⟩
          case measure => simp [intOf]; omega
    · obtain rfl : k = 2 := by omega
      rw [show ((2 : Nat) : Int) = 2 from rfl]
      go_wp2_with (fail)
      go_end0
      exact ⟨rfl, Mr.grown1, Mr.holds _ List.mem_cons_self⟩
end Go.Proofs.Ytcjfpcajjhccaaa
