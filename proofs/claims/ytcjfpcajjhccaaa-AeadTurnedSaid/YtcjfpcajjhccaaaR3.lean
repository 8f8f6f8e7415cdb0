/- Walks of the reference of the onetime layer: Plus. -/
import Derived.Test.YtcjfpcajjhccaaaR2
set_option linter.unusedVariables false
set_option linter.unusedSimpArgs false
namespace Go.Proofs.Ytcjfpcajjhccaaa
open Go.RowKit
/-- A slice that the call made. -/
def Made (k : IntKind) (t : TypeId) (w : World) (R : List Int → Prop) (e : Ending) (w' : World) : Prop :=
  ∃ Z cap zs, e = .returned (.slice Z (List.length zs) cap) ∧ Mem w [] w' [.vec Z (List.length zs) cap t 1 (nums k zs)] ∧ R zs
theorem dv_drop (B : Int) (xs : List Int) (i : Nat) : dv B (xs.drop i) = rd xs i + B * dv B (xs.drop (i + 1)) := by
  by_cases h : i < xs.length
  · rw [drop_rd xs i h, dv]
  · rw [List.drop_eq_nil_of_le (by omega), List.drop_eq_nil_of_le (by omega), rd_out _ _ (by omega)]
    simp [dv]
theorem plus_step (xs ys zs : List Int) (i : Nat) (c T : Int) (hi : zs.length = i) (h : dv 256 zs + 256 ^ i * (c + dv 256 (xs.drop i) + dv 256 (ys.drop i)) = T) :
    dv 256 (zs ++ [(c + rd xs i + rd ys i) % 256]) + 256 ^ (i + 1) * ((c + rd xs i + rd ys i) / 256 + dv 256 (xs.drop (i + 1)) + dv 256 (ys.drop (i + 1))) = T := by
  rw [dv_append, hi]
  have h1 := dv_drop 256 xs i
  have h2 := dv_drop 256 ys i
  rw [h1, h2] at h
  rw [← h, Int.pow_succ]
  have e := Int.emod_add_mul_ediv (c + rd xs i + rd ys i) 256
  simp only [dv]
  generalize (c + rd xs i + rd ys i) % 256 = m at *
  generalize (c + rd xs i + rd ys i) / 256 = d at *
  have e2 : c = m + 256 * d - rd xs i - rd ys i := by omega
  rw [e2]
  grind
set_option maxRecDepth 100000 in
set_option maxHeartbeats 1000000 in
theorem Plus47 (A B : Option Addr) (ca cb : Nat) (xs ys : List Int) (w : World) (hA : RowR .u64 w A xs) (hB : RowR .u64 w B ys) (hx : digOk 256 xs) (hy : digOk 256 ys) (nx : xs.length ≤ 100000) (ny : ys.length ≤ 100000) :
    Calls Try.prog 47 #[.slice A xs.length ca, .slice B ys.length cb] w (Made .u64 52 w fun zs => digOk 256 zs ∧ dv 256 zs = dv 256 xs + dv 256 ys ∧ zs.length ≤ max xs.length ys.length + 1) := by
  have M0 := Mem.start w
  obtain ⟨mx, hmx⟩ : ∃ m, m = max xs.length ys.length := ⟨_, rfl⟩
  have mx1 : xs.length ≤ mx := by omega
  have mx2 : ys.length ≤ mx := by omega
  have mx3 : mx ≤ 100000 := by omega
  rw [← hmx]
  clear hmx
  go_enter Try.func47, Try.ntmps47
  go_wp2_with fail
  have Mv := M0.nil 52 1
  clear M0
  go_loopw [5, 6, 7] (fun v c n wr => ∃ (i : Nat) (d : Int) (Z : Option Addr) (cap : Nat) (zs : List Int), v = .slice Z i cap ∧ c = .int .u64 d ∧ n = .int .i64 i ∧ 0 ≤ d ∧ d ≤ 1 ∧ i ≤ mx + 1 ∧ Hid (zs.length = i ∧ (i = mx + 1 → d = 0) ∧ digOk 256 zs ∧ dv 256 zs + 256 ^ i * (d + dv 256 (xs.drop i) + dv 256 (ys.drop i)) = dv 256 xs + dv 256 ys) ∧
    Mem w [] wr [.vec Z i cap 52 1 (nums .u64 zs)]) (fun _ _ n _ => mx + 1 - (intOf n).toNat)
  case atStart => exact ⟨0, 0, none, 0, [], rfl, rfl, rfl, by omega, by omega, by omega, hid ⟨rfl, fun _ => rfl, fun x hx => by simp at hx, by simp [dv]⟩, Mv⟩
  case round =>
    obtain ⟨i, d, Z, cap, zs, rfl, rfl, rfl, d0, d1, hi, HI, Mi⟩ := hrel
    clear Mv
    have hrx := digOk_rd (B := 256) (by decide) hx i
    have hry := digOk_rd (B := 256) (by decide) hy i
    obtain ⟨x, hxe⟩ : ∃ x, x = rd xs i := ⟨_, rfl⟩
    obtain ⟨y, hye⟩ : ∃ x, x = rd ys i := ⟨_, rfl⟩
    have HX := hid hxe
    have HY := hid hye
    rw [← hxe] at hrx
    rw [← hye] at hry
    obtain ⟨x0, x1⟩ := hrx
    obtain ⟨y0, y1⟩ := hry
    have hnext : ∀ s : Int, s = d + x + y → Hid ((zs ++ [s % 256]).length = i + 1 ∧ (i + 1 = mx + 1 → s / 256 = 0) ∧ digOk 256 (zs ++ [s % 256]) ∧ dv 256 (zs ++ [s % 256]) + 256 ^ (i + 1) * (s / 256 + dv 256 (xs.drop (i + 1)) + dv 256 (ys.drop (i + 1))) = dv 256 xs + dv 256 ys) := by
      intro s hs
      obtain ⟨hl, hz, hd, he⟩ := HI.out
      refine hid ⟨by simp [hl], fun h => ?_, digOk_append hd (fun v hv => by simp at hv; omega), ?_⟩
      · have : x = 0 := by rw [HX.out]; exact rd_out _ _ (by omega)
        have : y = 0 := by rw [HY.out]; exact rd_out _ _ (by omega)
        omega
      · have := plus_step xs ys zs i d _ hl he
        rw [hs, HX.out, HY.out]
        exact this
    have HN := hid hnext
    clear hnext hxe hye
    by_cases hxi : i < xs.length
    · have hxI : (i : Int) < (xs.length : Int) := by omega
      obtain ⟨b, off, rfl, hc⟩ := hA.at hxi
      have hc' := Mi.cell0 hc
      rw [← HX.out] at hc'
      clear hA hc
      by_cases hyi : i < ys.length
      · have hyI : (i : Int) < (ys.length : Int) := by omega
        obtain ⟨b2, off2, rfl, hc2⟩ := hB.at hyi
        have hc2' := Mi.cell0 hc2
        rw [← HY.out] at hc2'
        clear hB hc2
        go_wp2_with (first | (apply wpList_ldN Try.underlying52; (· rfl); (· rfl); (· rfl); (· rfl); (· assumption); (· (repeat (first | exact List.mem_cons_self | refine List.mem_cons_of_mem _ ?_))); (· (first | with_reducible assumption | omega | (simp only [nums_length, List.length_set, List.length_replicate]; first | with_reducible assumption | omega) | rfl | (simp [*]; done) | (simp [*]; omega))); (conv => arg 5; simp only [Act.put, List.setIfInBounds_toArray, List.set_cons_succ, List.set_cons_zero])) | (apply wpList_app1 Try.underlying50 i52; (· rfl); (· rfl); (· rfl); (· rfl); (· assumption); (· intro A' cap'; (repeat (first | exact Swap.head | apply Swap.tail))); (· omega); (· omega); intro A' cap' w' M'; (conv => arg 5; simp only [Act.put, List.setIfInBounds_toArray, List.set_cons_succ, List.set_cons_zero])) | (apply wpList_app4 Try.underlying50 i52; (· rfl); (· rfl); (· rfl); (· rfl); (· assumption); (· intro A' cap'; (repeat (first | exact Swap.head | apply Swap.tail))); (· omega); (· omega); intro A' cap' w' M'; (conv => arg 5; simp only [Act.put, List.setIfInBounds_toArray, List.set_cons_succ, List.set_cons_zero])))
        go_roundw
        case rel => exact ⟨i + 1, _, A', cap', zs ++ [(d + x + y) % 256], rfl, rfl, by go_num, by omega, by omega, by omega, HN.out _ rfl, M'⟩
        case measure => simp [intOf]; omega
      · have hyI : ¬ (i : Int) < (ys.length : Int) := by omega
        have hy0 : y = 0 := by rw [HY.out]; exact rd_out _ _ (by omega)
        have HY0 := hid hy0
        clear hy0 hB
        go_wp2_with (first | (apply wpList_ldN Try.underlying52; (· rfl); (· rfl); (· rfl); (· rfl); (· assumption); (· (repeat (first | exact List.mem_cons_self | refine List.mem_cons_of_mem _ ?_))); (· (first | with_reducible assumption | omega | (simp only [nums_length, List.length_set, List.length_replicate]; first | with_reducible assumption | omega) | rfl | (simp [*]; done) | (simp [*]; omega))); (conv => arg 5; simp only [Act.put, List.setIfInBounds_toArray, List.set_cons_succ, List.set_cons_zero])) | (apply wpList_app1 Try.underlying50 i52; (· rfl); (· rfl); (· rfl); (· rfl); (· assumption); (· intro A' cap'; (repeat (first | exact Swap.head | apply Swap.tail))); (· omega); (· omega); intro A' cap' w' M'; (conv => arg 5; simp only [Act.put, List.setIfInBounds_toArray, List.set_cons_succ, List.set_cons_zero])) | (apply wpList_app4 Try.underlying50 i52; (· rfl); (· rfl); (· rfl); (· rfl); (· assumption); (· intro A' cap'; (repeat (first | exact Swap.head | apply Swap.tail))); (· omega); (· omega); intro A' cap' w' M'; (conv => arg 5; simp only [Act.put, List.setIfInBounds_toArray, List.set_cons_succ, List.set_cons_zero])))
        go_roundw
        case rel => exact ⟨i + 1, _, A', cap', zs ++ [(d + x) % 256], rfl, rfl, by go_num, by omega, by omega, by omega, HN.out _ (by rw [HY0.out]; omega), M'⟩
        case measure => simp [intOf]; omega
    · have hxI : ¬ (i : Int) < (xs.length : Int) := by omega
      have hx0 : x = 0 := by rw [HX.out]; exact rd_out _ _ (by omega)
      have HX0 := hid hx0
      clear hx0 hA
      by_cases hyi : i < ys.length
      · have hyI : (i : Int) < (ys.length : Int) := by omega
        obtain ⟨b2, off2, rfl, hc2⟩ := hB.at hyi
        have hc2' := Mi.cell0 hc2
        rw [← HY.out] at hc2'
        clear hB hc2
        go_wp2_with (first | (apply wpList_ldN Try.underlying52; (· rfl); (· rfl); (· rfl); (· rfl); (· assumption); (· (repeat (first | exact List.mem_cons_self | refine List.mem_cons_of_mem _ ?_))); (· (first | with_reducible assumption | omega | (simp only [nums_length, List.length_set, List.length_replicate]; first | with_reducible assumption | omega) | rfl | (simp [*]; done) | (simp [*]; omega))); (conv => arg 5; simp only [Act.put, List.setIfInBounds_toArray, List.set_cons_succ, List.set_cons_zero])) | (apply wpList_app1 Try.underlying50 i52; (· rfl); (· rfl); (· rfl); (· rfl); (· assumption); (· intro A' cap'; (repeat (first | exact Swap.head | apply Swap.tail))); (· omega); (· omega); intro A' cap' w' M'; (conv => arg 5; simp only [Act.put, List.setIfInBounds_toArray, List.set_cons_succ, List.set_cons_zero])) | (apply wpList_app4 Try.underlying50 i52; (· rfl); (· rfl); (· rfl); (· rfl); (· assumption); (· intro A' cap'; (repeat (first | exact Swap.head | apply Swap.tail))); (· omega); (· omega); intro A' cap' w' M'; (conv => arg 5; simp only [Act.put, List.setIfInBounds_toArray, List.set_cons_succ, List.set_cons_zero])))
        go_roundw
        case rel => exact ⟨i + 1, _, A', cap', zs ++ [(d + y) % 256], rfl, rfl, by go_num, by omega, by omega, by omega, HN.out _ (by rw [HX0.out]; omega), M'⟩
        case measure => simp [intOf]; omega
      · have hyI : ¬ (i : Int) < (ys.length : Int) := by omega
        have hy0 : y = 0 := by rw [HY.out]; exact rd_out _ _ (by omega)
        have HY0 := hid hy0
        clear hy0 hB
        by_cases hd0 : 0 < d
        · have hle : i ≤ mx := by
            obtain ⟨_, hz, _, _⟩ := HI.out
            rcases Nat.lt_or_ge mx i with h | h
            · have := hz (by omega); omega
            · exact h
          go_wp2_with (first | (apply wpList_ldN Try.underlying52; (· rfl); (· rfl); (· rfl); (· rfl); (· assumption); (· (repeat (first | exact List.mem_cons_self | refine List.mem_cons_of_mem _ ?_))); (· (first | with_reducible assumption | omega | (simp only [nums_length, List.length_set, List.length_replicate]; first | with_reducible assumption | omega) | rfl | (simp [*]; done) | (simp [*]; omega))); (conv => arg 5; simp only [Act.put, List.setIfInBounds_toArray, List.set_cons_succ, List.set_cons_zero])) | (apply wpList_app1 Try.underlying50 i52; (· rfl); (· rfl); (· rfl); (· rfl); (· assumption); (· intro A' cap'; (repeat (first | exact Swap.head | apply Swap.tail))); (· omega); (· omega); intro A' cap' w' M'; (conv => arg 5; simp only [Act.put, List.setIfInBounds_toArray, List.set_cons_succ, List.set_cons_zero])) | (apply wpList_app4 Try.underlying50 i52; (· rfl); (· rfl); (· rfl); (· rfl); (· assumption); (· intro A' cap'; (repeat (first | exact Swap.head | apply Swap.tail))); (· omega); (· omega); intro A' cap' w' M'; (conv => arg 5; simp only [Act.put, List.setIfInBounds_toArray, List.set_cons_succ, List.set_cons_zero])))
          go_roundw
          case rel => exact ⟨i + 1, _, A', cap', zs ++ [d % 256], rfl, rfl, by go_num, by omega, by omega, by omega, HN.out _ (by rw [HX0.out, HY0.out]; omega), M'⟩
          case measure => simp [intOf]; omega
        · have hfin : Hid (dv 256 zs = dv 256 xs + dv 256 ys) := by
            obtain ⟨_, _, _, he⟩ := HI.out
            rw [List.drop_eq_nil_of_le (by omega), List.drop_eq_nil_of_le (by omega)] at he
            have : d = 0 := by omega
            rw [this] at he
            refine hid ?_
            simpa [dv] using he
          have hl := hid HI.out.1
          have hdg := hid HI.out.2.2.1
          go_wp2_with fail
          go_ret
          obtain rfl : i = zs.length := hl.out.symm
          exact ⟨Z, cap, zs, rfl, Mi, hdg.out, hfin.out, hi⟩
end Go.Proofs.Ytcjfpcajjhccaaa
