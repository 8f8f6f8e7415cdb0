/- Walks of the onetime layer, third part: add, times. -/
import Derived.Test.YtcjfpcajjhccaaaP3
import Derived.Test.YtcjfpcajjhccaaaP4
set_option linter.unusedVariables false
set_option linter.unusedSimpArgs false
namespace Go.Proofs.Ytcjfpcajjhccaaa
open Go.RowKit
def addS (m : List Int) (xs : List Int) (i : Nat) : List Int := xs.set i (IntKind.u64.wrap (rd xs i + rd m i))
def addTo (xs m : List Int) (n : Nat) : List Int := (List.range n).foldl (addS m) xs
theorem addTo_succ (xs m : List Int) (n : Nat) : addTo xs m (n + 1) = addS m (addTo xs m n) n := by simp [addTo, List.range_succ]
theorem addTo_length (xs m : List Int) (n : Nat) : (addTo xs m n).length = xs.length := by
  induction n with
  | zero => simp [addTo]
  | succ n ih => rw [addTo_succ, addS]; simp [ih]
set_option maxRecDepth 100000 in
theorem add58 (g : Nat) (t : TypeId) (xs m : List Int) (X : List Value) (w : World) (hl : xs.length = 5) (hm : m.length = 5) (hg : w.heap[g]? = some (cellsO t (nums .u64 xs ++ X))) :
    Calls Try.prog 58 #[.pointer (some ⟨g, 0, none⟩), .agg (nums .u64 m).toArray] w fun e w' => e = .returned (.tuple #[]) ∧ w.grownBy w' (some g) ∧ w'.heap[g]? = some (cellsO t (nums .u64 (addTo xs m 5) ++ X)) := by
  have M0 := Mem.start1 hg
  go_enter Try.func58, Try.ntmps58
  go_wp2_with (first | (apply wpList_bxN 3; (· rfl); (· rfl); (· rfl); (· rfl); (· assumption); intro b3 w' M'; (conv => arg 5; simp only [Act.put, List.setIfInBounds_toArray, List.set_cons_succ, List.set_cons_zero])) | (apply wpList_ldN Try.underlying52; (· rfl); (· rfl); (· rfl); (· rfl); (· assumption); (· (repeat (first | exact List.mem_cons_self | refine List.mem_cons_of_mem _ ?_))); (· (first | with_reducible assumption | omega | (simp only [nums_length, List.length_set, List.length_replicate]; first | with_reducible assumption | omega) | rfl | (simp [*]; done) | (simp [*]; omega))); (conv => arg 5; simp only [Act.put, List.setIfInBounds_toArray, List.set_cons_succ, List.set_cons_zero])) | (apply wpList_stN s52; (· rfl); (· rfl); (· rfl); (· rfl); (· assumption); (· (repeat (first | exact Swap.head | apply Swap.tail))); (· (first | with_reducible assumption | omega | (simp only [nums_length, List.length_set, List.length_replicate]; first | with_reducible assumption | omega) | rfl | (simp [*]; done) | (simp [*]; omega))); intro w' M'; (conv => arg 5; simp only [Act.put, List.setIfInBounds_toArray, List.set_cons_succ, List.set_cons_zero])))
  go_loopw [5] (fun n wr => ∃ i : Nat, i ≤ 5 ∧ n = .int .i64 i ∧ Mem w [g] wr [.blk b3 (rowO .u64 80 m), .blk g (cellsO t (nums .u64 (addTo xs m i) ++ X))]) (fun n _ => 5 - (intOf n).toNat)
  case atStart => exact ⟨0, by omega, rfl, M'⟩
  case round =>
    obtain ⟨i, hi, rfl, Mi⟩ := hrel
    clear M' M0
    by_cases hlt : i < 5
    · have hltI : (i : Int) < 5 := by omega
      obtain ⟨z, hz⟩ : ∃ z, z = addTo xs m i := ⟨_, rfl⟩
      have lz : z.length = 5 := by rw [hz, addTo_length, hl]
      have hs := addTo_succ xs m i
      rw [addS, ← hz] at hs
      rw [← hz] at Mi
      have HS := hid hs
      clear hs hz
      go_wp2_with (fail)
      refine wp_region_tailM 11 (by kernel_rfl) (by kernel_rfl) Mi (fun w1 M1 => ?_)
      simp only [List.take_succ_cons, List.take_zero, List.drop_succ_cons, List.drop_zero]
      have c1 : w1.cell? ⟨g, i, none⟩ = some (.int .u64 (rd z i)) := M1.cellH (List.mem_cons_of_mem _ List.mem_cons_self) (by omega)
      have c2 : w1.cell? ⟨b3, i, none⟩ = some (.int .u64 (rd m i)) := M1.cellN List.mem_cons_self (by omega)
      repeat still_step
      refine wpStill_nil ?_
      clear c1 c2 Mi
      go_wp2_with (apply wpList_stH s52; (· rfl); (· rfl); (· rfl); (· rfl); (· exact M1); (· exact Swap.tail Swap.head); (· omega); intro w' M')
      go_roundw
      case rel => exact ⟨i + 1, by omega, by go_num, by rw [HS.out]; exact M'⟩
      case measure => simp [intOf]; omega
    · obtain rfl : i = 5 := by omega
      rw [show ((5 : Nat) : Int) = 5 from rfl]
      go_wp2_with (fail)
      go_end0
      exact ⟨rfl, Mi.grown1, Mi.holds _ (List.mem_cons_of_mem _ List.mem_cons_self)⟩
/-- One product, as the program takes it. -/
def tprod (n m : List Int) (i k : Nat) : Int :=
  if i + k ≥ 5 then IntKind.u64.wrap (IntKind.u64.wrap (rd n i * rd m k) * 5) else IntKind.u64.wrap (rd n i * rd m k)
def tstep (n m : List Int) (i : Nat) (z : List Int) (k : Nat) : List Int := z.set ((i + k) % 5) (IntKind.u64.wrap (rd z ((i + k) % 5) + tprod n m i k))
def trow (n m : List Int) (i : Nat) (z : List Int) (c : Nat) : List Int := (List.range c).foldl (tstep n m i) z
def tall (n m : List Int) (c : Nat) : List Int := (List.range c).foldl (fun z i => trow n m i z 5) (List.replicate 5 0)
theorem trow_succ (n m : List Int) (i : Nat) (z : List Int) (c : Nat) : trow n m i z (c + 1) = tstep n m i (trow n m i z c) c := by simp [trow, List.range_succ]
theorem trow_length (n m : List Int) (i : Nat) (z : List Int) (c : Nat) : (trow n m i z c).length = z.length := by
  induction c with
  | zero => simp [trow]
  | succ c ih => rw [trow_succ, tstep]; simp [ih]
theorem tall_succ (n m : List Int) (c : Nat) : tall n m (c + 1) = trow n m c (tall n m c) 5 := by simp [tall, List.range_succ]
theorem tall_length (n m : List Int) (c : Nat) : (tall n m c).length = 5 := by
  induction c with
  | zero => simp [tall]
  | succ c ih => rw [tall_succ, trow_length, ih]
/-- The product, carried. -/
def timesL (n m : List Int) : List Int := carryN (tall n m 5) 2
theorem timesL_length (n m : List Int) : (timesL n m).length = 5 := by rw [timesL, carryN_length, tall_length]
theorem carryM (g : Nat) (t : TypeId) (xs : List Int) (w : World) (hl : xs.length = 5) {w0 : World} {E : List Nat} {L L' : List Item} (M : Mem w0 E w L) (hs : Swap (.blk g (rowO .u64 t xs)) (.blk g (rowO .u64 t (carryN xs 2))) L L') :
    Calls Try.prog 60 #[.pointer (some ⟨g, 0, none⟩)] w fun e w' => e = .returned (.tuple #[]) ∧ Mem w0 E w' L' :=
  (carry60 g t xs w hl (M.holds _ hs.mem)).mono fun e w' ⟨he, hg, hh⟩ => ⟨he, M.swap hs hg (.inr rfl) hh (fun b hb => .inl hb)⟩
set_option maxRecDepth 100000 in
set_option maxHeartbeats 1000000 in
theorem times59 (g : Nat) (t : TypeId) (xs m : List Int) (X : List Value) (w : World) (hl : xs.length = 5) (hm : m.length = 5) (hg : w.heap[g]? = some (cellsO t (nums .u64 xs ++ X))) :
    Calls Try.prog 59 #[.pointer (some ⟨g, 0, none⟩), .agg (nums .u64 m).toArray] w fun e w' => e = .returned (.tuple #[]) ∧ w.grownBy w' (some g) ∧ w'.heap[g]? = some (cellsO t (nums .u64 (timesL xs m) ++ X)) := by
  have M0 := Mem.start1 hg
  obtain ⟨r, hr⟩ : ∃ r, r = timesL xs m := ⟨_, rfl⟩
  have lT : r.length = 5 := by rw [hr, timesL_length]
  have HT := hid (show r = carryN (tall xs m 5) 2 from hr)
  rw [← hr]
  clear hr
  go_enter Try.func59, Try.ntmps59
  go_wp2_with (first | (apply wpList_bxN 3; (· rfl); (· rfl); (· rfl); (· rfl); (· assumption); intro b3 w' M'; (conv => arg 5; simp only [Act.put, List.setIfInBounds_toArray, List.set_cons_succ, List.set_cons_zero])) | (apply wpList_alN z80 4; (· rfl); (· rfl); (· rfl); (· assumption); intro b4 w' M'; (conv => arg 5; simp only [Act.put, List.setIfInBounds_toArray, List.set_cons_succ, List.set_cons_zero])) | (apply wpList_ldN Try.underlying52; (· rfl); (· rfl); (· rfl); (· rfl); (· assumption); (· (repeat (first | exact List.mem_cons_self | refine List.mem_cons_of_mem _ ?_))); (· (first | with_reducible assumption | omega | (simp only [nums_length, List.length_set, List.length_replicate]; first | with_reducible assumption | omega) | rfl | (simp [*]; done) | (simp [*]; omega))); (conv => arg 5; simp only [Act.put, List.setIfInBounds_toArray, List.set_cons_succ, List.set_cons_zero])) | (apply wpList_stN s52; (· rfl); (· rfl); (· rfl); (· rfl); (· assumption); (· (repeat (first | exact Swap.head | apply Swap.tail))); (· (first | with_reducible assumption | omega | (simp only [nums_length, List.length_set, List.length_replicate]; first | with_reducible assumption | omega) | rfl | (simp [*]; done) | (simp [*]; omega))); intro w' M'; (conv => arg 5; simp only [Act.put, List.setIfInBounds_toArray, List.set_cons_succ, List.set_cons_zero])) | (apply wpList_ldrowN Try.underlying80 s80; (· rfl); (· rfl); (· rfl); (· rfl); (· assumption); (· (repeat (first | exact List.mem_cons_self | refine List.mem_cons_of_mem _ ?_))); (· (first | with_reducible assumption | omega | (simp only [nums_length, List.length_set, List.length_replicate]; first | with_reducible assumption | omega) | rfl | (simp [*]; done) | (simp [*]; omega))); (conv => arg 5; simp only [Act.put, List.setIfInBounds_toArray, List.set_cons_succ, List.set_cons_zero])) | (apply wpList_strowN s80; (· rfl); (· rfl); (· rfl); (· rfl); (· assumption); (· (repeat (first | exact Swap.head | apply Swap.tail))); (· (first | with_reducible assumption | omega | (simp only [nums_length, List.length_set, List.length_replicate]; first | with_reducible assumption | omega) | rfl | (simp [*]; done) | (simp [*]; omega))); (· (first | with_reducible assumption | omega | (simp only [nums_length, List.length_set, List.length_replicate]; first | with_reducible assumption | omega) | rfl | (simp [*]; done) | (simp [*]; omega))); intro w' M'; (conv => arg 5; simp only [Act.put, List.setIfInBounds_toArray, List.set_cons_succ, List.set_cons_zero])))
  go_loopw [8] (fun n wr => ∃ i : Nat, i ≤ 5 ∧ n = .int .i64 i ∧ Mem w [g] wr [.blk b4 (rowO .u64 80 (tall xs m i)), .blk b3 (rowO .u64 80 m), .blk g (cellsO t (nums .u64 xs ++ X))]) (fun n _ => 5 - (intOf n).toNat)
  case atStart => exact ⟨0, by omega, rfl, M'⟩
  case round =>
    obtain ⟨i, hi, rfl, Mi⟩ := hrel
    clear M' M0
    by_cases hlt : i < 5
    · have hltI : (i : Int) < 5 := by omega
      obtain ⟨z, hz⟩ : ∃ z, z = tall xs m i := ⟨_, rfl⟩
      have lz : z.length = 5 := by rw [hz, tall_length]
      have HZ := hid (show tall xs m (i + 1) = trow xs m i z 5 by rw [tall_succ, ← hz])
      rw [← hz] at Mi
      clear hz
      go_wp2_with (fail)
      obtain ⟨wo, rfl⟩ : ∃ wo : World, wo = wr := ⟨_, rfl⟩
      go_loopw [11] (fun n wi => ∃ k : Nat, k ≤ 5 ∧ n = .int .i64 k ∧ Mem w [g] wi [.blk b4 (rowO .u64 80 (trow xs m i z k)), .blk b3 (rowO .u64 80 m), .blk g (cellsO t (nums .u64 xs ++ X))]) (fun n _ => 5 - (intOf n).toNat)
      case atStart => exact ⟨0, by omega, rfl, Mi⟩
      case round =>
        obtain ⟨k, hk, rfl, Mk⟩ := hrel
        clear Mi
        by_cases hk5 : k < 5
        · have hkI : (k : Int) < 5 := by omega
          obtain ⟨y, hy⟩ : ∃ y, y = trow xs m i z k := ⟨_, rfl⟩
          have ly : y.length = 5 := by rw [hy, trow_length, lz]
          have hs := trow_succ xs m i z k
          rw [tstep, ← hy] at hs
          rw [← hy] at Mk
          obtain ⟨j, hj⟩ : ∃ j, j = (i + k) % 5 := ⟨_, rfl⟩
          rw [← hj] at hs
          have hj5 : j < 5 := by omega
          have e1 : ((i : Int) + (k : Int)) % 5 = (j : Int) := by omega
          have hjI : (j : Int) < 5 := by omega
          clear hy hj
          by_cases hik : i + k ≥ 5
          · have hikI : (5 : Int) ≤ (i : Int) + (k : Int) := by omega
            rw [tprod, if_pos hik] at hs
            have HS := hid hs
            clear hs hik
            go_wp2_with (fail)
            refine wp_region_stillM (by kernel_rfl) (by kernel_rfl) Mk (fun w1 M1 => ?_)
            have c1 : w1.cell? ⟨g, i, none⟩ = some (.int .u64 (rd xs i)) := M1.cellH (List.mem_cons_of_mem _ (List.mem_cons_of_mem _ List.mem_cons_self)) (by omega)
            have c2 : w1.cell? ⟨b3, k, none⟩ = some (.int .u64 (rd m k)) := M1.cellN (List.mem_cons_of_mem _ List.mem_cons_self) (by omega)
            repeat still_step
            refine wpStill_nil ?_
            clear c1 c2 Mk
            go_wp2_with (first | (apply wpList_bxN 3; (· rfl); (· rfl); (· rfl); (· rfl); (· assumption); intro b3 w' M'; (conv => arg 5; simp only [Act.put, List.setIfInBounds_toArray, List.set_cons_succ, List.set_cons_zero])) | (apply wpList_alN z80 4; (· rfl); (· rfl); (· rfl); (· assumption); intro b4 w' M'; (conv => arg 5; simp only [Act.put, List.setIfInBounds_toArray, List.set_cons_succ, List.set_cons_zero])) | (apply wpList_ldN Try.underlying52; (· rfl); (· rfl); (· rfl); (· rfl); (· assumption); (· (repeat (first | exact List.mem_cons_self | refine List.mem_cons_of_mem _ ?_))); (· (first | with_reducible assumption | omega | (simp only [nums_length, List.length_set, List.length_replicate]; first | with_reducible assumption | omega) | rfl | (simp [*]; done) | (simp [*]; omega))); (conv => arg 5; simp only [Act.put, List.setIfInBounds_toArray, List.set_cons_succ, List.set_cons_zero])) | (apply wpList_stN s52; (· rfl); (· rfl); (· rfl); (· rfl); (· assumption); (· (repeat (first | exact Swap.head | apply Swap.tail))); (· (first | with_reducible assumption | omega | (simp only [nums_length, List.length_set, List.length_replicate]; first | with_reducible assumption | omega) | rfl | (simp [*]; done) | (simp [*]; omega))); intro w' M'; (conv => arg 5; simp only [Act.put, List.setIfInBounds_toArray, List.set_cons_succ, List.set_cons_zero])) | (apply wpList_ldrowN Try.underlying80 s80; (· rfl); (· rfl); (· rfl); (· rfl); (· assumption); (· (repeat (first | exact List.mem_cons_self | refine List.mem_cons_of_mem _ ?_))); (· (first | with_reducible assumption | omega | (simp only [nums_length, List.length_set, List.length_replicate]; first | with_reducible assumption | omega) | rfl | (simp [*]; done) | (simp [*]; omega))); (conv => arg 5; simp only [Act.put, List.setIfInBounds_toArray, List.set_cons_succ, List.set_cons_zero])) | (apply wpList_strowN s80; (· rfl); (· rfl); (· rfl); (· rfl); (· assumption); (· (repeat (first | exact Swap.head | apply Swap.tail))); (· (first | with_reducible assumption | omega | (simp only [nums_length, List.length_set, List.length_replicate]; first | with_reducible assumption | omega) | rfl | (simp [*]; done) | (simp [*]; omega))); (· (first | with_reducible assumption | omega | (simp only [nums_length, List.length_set, List.length_replicate]; first | with_reducible assumption | omega) | rfl | (simp [*]; done) | (simp [*]; omega))); intro w' M'; (conv => arg 5; simp only [Act.put, List.setIfInBounds_toArray, List.set_cons_succ, List.set_cons_zero])))
            go_roundw
            case rel => exact ⟨k + 1, by omega, by go_num, by rw [HS.out]; exact M'⟩
            case measure => simp [intOf]; omega
          · have hikI : ¬ (5 : Int) ≤ (i : Int) + (k : Int) := by omega
            rw [tprod, if_neg hik] at hs
            have HS := hid hs
            clear hs hik
            go_wp2_with (fail)
            refine wp_region_stillM (by kernel_rfl) (by kernel_rfl) Mk (fun w1 M1 => ?_)
            have c1 : w1.cell? ⟨g, i, none⟩ = some (.int .u64 (rd xs i)) := M1.cellH (List.mem_cons_of_mem _ (List.mem_cons_of_mem _ List.mem_cons_self)) (by omega)
            have c2 : w1.cell? ⟨b3, k, none⟩ = some (.int .u64 (rd m k)) := M1.cellN (List.mem_cons_of_mem _ List.mem_cons_self) (by omega)
            repeat still_step
            refine wpStill_nil ?_
            clear c1 c2 Mk
            go_wp2_with (first | (apply wpList_bxN 3; (· rfl); (· rfl); (· rfl); (· rfl); (· assumption); intro b3 w' M'; (conv => arg 5; simp only [Act.put, List.setIfInBounds_toArray, List.set_cons_succ, List.set_cons_zero])) | (apply wpList_alN z80 4; (· rfl); (· rfl); (· rfl); (· assumption); intro b4 w' M'; (conv => arg 5; simp only [Act.put, List.setIfInBounds_toArray, List.set_cons_succ, List.set_cons_zero])) | (apply wpList_ldN Try.underlying52; (· rfl); (· rfl); (· rfl); (· rfl); (· assumption); (· (repeat (first | exact List.mem_cons_self | refine List.mem_cons_of_mem _ ?_))); (· (first | with_reducible assumption | omega | (simp only [nums_length, List.length_set, List.length_replicate]; first | with_reducible assumption | omega) | rfl | (simp [*]; done) | (simp [*]; omega))); (conv => arg 5; simp only [Act.put, List.setIfInBounds_toArray, List.set_cons_succ, List.set_cons_zero])) | (apply wpList_stN s52; (· rfl); (· rfl); (· rfl); (· rfl); (· assumption); (· (repeat (first | exact Swap.head | apply Swap.tail))); (· (first | with_reducible assumption | omega | (simp only [nums_length, List.length_set, List.length_replicate]; first | with_reducible assumption | omega) | rfl | (simp [*]; done) | (simp [*]; omega))); intro w' M'; (conv => arg 5; simp only [Act.put, List.setIfInBounds_toArray, List.set_cons_succ, List.set_cons_zero])) | (apply wpList_ldrowN Try.underlying80 s80; (· rfl); (· rfl); (· rfl); (· rfl); (· assumption); (· (repeat (first | exact List.mem_cons_self | refine List.mem_cons_of_mem _ ?_))); (· (first | with_reducible assumption | omega | (simp only [nums_length, List.length_set, List.length_replicate]; first | with_reducible assumption | omega) | rfl | (simp [*]; done) | (simp [*]; omega))); (conv => arg 5; simp only [Act.put, List.setIfInBounds_toArray, List.set_cons_succ, List.set_cons_zero])) | (apply wpList_strowN s80; (· rfl); (· rfl); (· rfl); (· rfl); (· assumption); (· (repeat (first | exact Swap.head | apply Swap.tail))); (· (first | with_reducible assumption | omega | (simp only [nums_length, List.length_set, List.length_replicate]; first | with_reducible assumption | omega) | rfl | (simp [*]; done) | (simp [*]; omega))); (· (first | with_reducible assumption | omega | (simp only [nums_length, List.length_set, List.length_replicate]; first | with_reducible assumption | omega) | rfl | (simp [*]; done) | (simp [*]; omega))); intro w' M'; (conv => arg 5; simp only [Act.put, List.setIfInBounds_toArray, List.set_cons_succ, List.set_cons_zero])))
            go_roundw
            case rel => exact ⟨k + 1, by omega, by go_num, by rw [HS.out]; exact M'⟩
            case measure => simp [intOf]; omega
        · obtain rfl : k = 5 := by omega
          rw [show ((5 : Nat) : Int) = 5 from rfl]
          go_wp2_with (fail)
          go_roundw
          case rel => exact ⟨i + 1, by omega, by go_num, by rw [HZ.out]; exact Mk⟩
          case measure => simp [intOf]; omega
    · obtain rfl : i = 5 := by omega
      rw [show ((5 : Nat) : Int) = 5 from rfl]
      have lt := tall_length xs m 5
      obtain ⟨z, hz⟩ : ∃ z, z = tall xs m 5 := ⟨_, rfl⟩
      rw [← hz] at Mi lt HT
      clear hz
      go_wp2_with (fail)
      refine (carryM b4 80 z _ lt Mi Swap.head).mono ?_; rintro e w' ⟨rfl, M1⟩
      rw [← HT.out] at M1
      clear Mi HT
      go_wp2_with (first | (apply wpList_nc; (· rfl); (· rfl); (· rfl); (conv => arg 5; simp only [Act.put, List.setIfInBounds_toArray, List.set_cons_succ, List.set_cons_zero])) | (apply wpList_ldrowN Try.underlying80 s80; (· rfl); (· rfl); (· rfl); (· rfl); (· exact M1); (· exact List.mem_cons_self); (· exact lT); (conv => arg 5; simp only [Act.put, List.setIfInBounds_toArray, List.set_cons_succ, List.set_cons_zero])) | (apply wpList_stHr (nums .u64 xs) (nums .u64 r) s80; (· rfl); (· rfl); (· rfl); (· rfl); (· exact M1); (· exact Swap.tail (Swap.tail Swap.head)); (· rw [nums_length]; exact hl); (· rw [nums_length]; exact lT); (· exact nums_one .u64 r); intro w' M'))
      go_end0
      exact ⟨rfl, M'.grown1, M'.holds _ (List.mem_cons_of_mem _ (List.mem_cons_of_mem _ List.mem_cons_self))⟩
attribute [irreducible] addTo timesL tall trow
end Go.Proofs.Ytcjfpcajjhccaaa
