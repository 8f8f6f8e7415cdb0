/- Walks of the reference of the onetime layer: Times. -/
import Derived.Test.YtcjfpcajjhccaaaR4
set_option linter.unusedVariables false
set_option linter.unusedSimpArgs false
namespace Go.Proofs.Ytcjfpcajjhccaaa
open Go.RowKit
theorem dv_le_pow {xs : List Int} (h : digOk 256 xs) (i : Nat) : dv 256 (xs.take i) < 256 ^ i := by
  have h1 := (dv_bound (B := 256) (by decide) _ (digOk_take h i)).2
  have h2 := pow256_le (xs.take i).length i (by simp; omega)
  omega
theorem mul_lt_pow {a b : Int} {m n : Nat} (a0 : 0 ≤ a) (a1 : a < 256 ^ m) (b0 : 0 ≤ b) (b1 : b < 256 ^ n) : a * b < 256 ^ (m + n) := by
  rw [Int.pow_add]
  have hp : (0 : Int) < 256 ^ n := Int.pow_pos (by decide)
  have h1 : a * b ≤ a * 256 ^ n := Int.mul_le_mul_of_nonneg_left (Int.le_of_lt b1) a0
  have h2 : a * 256 ^ n < 256 ^ m * 256 ^ n := Int.mul_lt_mul_of_pos_right a1 hp
  omega
theorem mul_bytes {a b : Int} (a0 : 0 ≤ a) (a1 : a < 256) (b0 : 0 ≤ b) (b1 : b < 256) : 0 ≤ a * b ∧ a * b ≤ 65025 := by
  refine ⟨Int.mul_nonneg a0 b0, ?_⟩
  have h1 : a * b ≤ a * 255 := Int.mul_le_mul_of_nonneg_left (by omega) a0
  omega
set_option maxRecDepth 100000 in
set_option maxHeartbeats 2000000 in
theorem Times32 (A B : Option Addr) (ca cb : Nat) (xs ys : List Int) (w : World) (hA : RowR .u64 w A xs) (hB : RowR .u64 w B ys) (hx : digOk 256 xs) (hy : digOk 256 ys) (nx : xs.length ≤ 100000) (ny : ys.length ≤ 100000) :
    Calls Try.prog 32 #[.slice A xs.length ca, .slice B ys.length cb] w (Made .u64 52 w fun zs => digOk 256 zs ∧ dv 256 zs = dv 256 xs * dv 256 ys ∧ zs.length = xs.length + ys.length + 1) := by
  have M0 := Mem.start w
  have hyb := dv_bound (B := 256) (by decide) ys hy
  go_enter Try.func32, Try.ntmps32
  go_wp2_with (first | (apply wpList_mkN 16 (xs.length + ys.length + 1) Try.underlying50 i52; (· rfl); (· rfl); (· rfl); (· rfl); (· rfl); (· omega); (· omega); (· omega); (· omega); (· exact M0); intro b5 w' M'))
  clear M0
  obtain ⟨L, hL⟩ : ∃ L, L = xs.length + ys.length + 1 := ⟨_, rfl⟩
  go_loopw [6] (fun n wr => ∃ (i : Nat) (zs : List Int), i ≤ xs.length ∧ n = .int .i64 i ∧ Hid (zs.length = xs.length + ys.length + 1 ∧ digOk 256 zs ∧ dv 256 zs = dv 256 (xs.take i) * dv 256 ys) ∧ Mem w [] wr [.blk b5 (rowO .u64 52 zs)]) (fun n _ => xs.length - (intOf n).toNat)
  case atStart => exact ⟨0, List.replicate (xs.length + ys.length + 1) 0, by omega, rfl, hid ⟨by simp, digOk_zeros (by decide) _, by rw [dv_zeros]; simp [dv]⟩, M'⟩
  case round =>
    obtain ⟨i, zs, hi, rfl, HZ, Mi⟩ := hrel
    clear M'
    by_cases hlt : i < xs.length
    · have hltI : (i : Int) < (xs.length : Int) := by omega
      obtain ⟨x0, x1⟩ := digOk_rd (B := 256) (by decide) hx i
      obtain ⟨b, off, rfl, hc⟩ := hA.at hlt
      have hti := dv_take_succ 256 xs i hlt
      have htb := dv_bound (B := 256) (by decide) _ (digOk_take hx (i + 1))
      have htl := dv_le_pow hx (i + 1)
      obtain ⟨xi, hxi⟩ : ∃ x, x = rd xs i := ⟨_, rfl⟩
      rw [← hxi] at x0 x1 hc hti
      have hprod := mul_lt_pow htb.1 htl hyb.1 hyb.2
      have HT := hid hti
      have HP := hid hprod
      clear hxi hti hprod htb htl hA
      go_wp2_with fail
      obtain ⟨wo, rfl⟩ : ∃ wo : World, wo = wr := ⟨_, rfl⟩
      go_loopw [7, 8] (fun c n wi => ∃ (k : Nat) (d : Int) (zs : List Int), k ≤ ys.length + 1 ∧ n = .int .i64 k ∧ c = .int .u64 d ∧ 0 ≤ d ∧ d < 256 ∧ (k = ys.length + 1 → d = 0) ∧
        Hid (zs.length = xs.length + ys.length + 1 ∧ digOk 256 zs ∧ dv 256 zs + d * 256 ^ (i + k) = dv 256 (xs.take i) * dv 256 ys + xi * dv 256 (ys.take k) * 256 ^ i) ∧ Mem w [] wi [.blk b5 (rowO .u64 52 zs)]) (fun _ n _ => ys.length + 1 - (intOf n).toNat)
      case atStart =>
        obtain ⟨h1, h2, h3⟩ := HZ.out
        exact ⟨0, 0, zs, by omega, rfl, rfl, by omega, by omega, fun _ => rfl, hid ⟨h1, h2, by rw [h3]; simp [dv]⟩, Mi⟩
      case round =>
        obtain ⟨k, d, z, hk, rfl, rfl, d0, d1, hkd, HZ2, Mk⟩ := hrel
        clear Mi HZ
        have hkd' := hid hkd
        clear hkd
        by_cases hkl : k < ys.length
        · have hklI : (k : Int) < (ys.length : Int) := by omega
          obtain ⟨y0, y1⟩ := digOk_rd (B := 256) (by decide) hy k
          obtain ⟨b2, off2, rfl, hc2⟩ := hB.at hkl
          have hty := dv_take_succ 256 ys k hkl
          obtain ⟨yk, hyk⟩ : ∃ x, x = rd ys k := ⟨_, rfl⟩
          rw [← hyk] at y0 y1 hc2 hty
          obtain ⟨lz, dz, ez⟩ := HZ2.out
          have hstep := times_step z i k d xi yk _ _ (by omega) ez
          rw [← hty] at hstep
          obtain ⟨j, hj⟩ : ∃ j, j = i + k := ⟨_, rfl⟩
          obtain ⟨z0, z1⟩ := digOk_rd (B := 256) (by decide) dz j
          have hjl : j < z.length := by omega
          have cz := Mk.cellN List.mem_cons_self hjl
          rw [← hj] at hstep
          obtain ⟨zj, hzj⟩ : ∃ x, x = rd z j := ⟨_, rfl⟩
          rw [← hzj] at z0 z1 cz hstep
          obtain ⟨p0, p1⟩ := mul_bytes x0 x1 y0 y1
          obtain ⟨p, hp⟩ : ∃ p, xi * yk = p := ⟨_, rfl⟩
          rw [hp] at p0 p1 hstep
          have hnew := hid (show (z.set j ((zj + d + p) % 256)).length = xs.length + ys.length + 1 ∧ digOk 256 (z.set j ((zj + d + p) % 256)) ∧ dv 256 (z.set j ((zj + d + p) % 256)) + (zj + d + p) / 256 * 256 ^ (i + (k + 1)) = dv 256 (xs.take i) * dv 256 ys + xi * dv 256 (ys.take (k + 1)) * 256 ^ i from
            ⟨by rw [List.length_set]; exact lz, digOk_set dz j (by omega), hstep⟩)
          have ej : (i : Int) + (k : Int) = (j : Int) := by omega
          have hjI : (j : Int) < (xs.length : Int) + (ys.length : Int) + 1 := by omega
          have hcx := Mk.cell0 hc
          have hcy := Mk.cell0 hc2
          clear hyk hty lz dz ez hstep hj hzj HZ2
          go_wp2_with fail
          refine wp_region_stillM (by kernel_rfl) (by kernel_rfl) Mk (fun w1 M1 => ?_)
          have hcx := M1.cell0 hc
          have hcy := M1.cell0 hc2
          have q1 : IntKind.u64.wrap p = p := u64_id _ (by omega) (by omega)
          have q2 : IntKind.u64.wrap (zj + d + p) = zj + d + p := u64_id _ (by omega) (by omega)
          repeat still_step
          refine wpStill_nil ?_
          clear hcx hcy q1 q2 hp Mk
          go_wp2_with (first | (apply wpList_stN s52; (· rfl); (· rfl); (· rfl); (· rfl); (· exact M1); (· exact Swap.head); (· omega); intro w' M'))
          go_roundw
          case rel => exact ⟨k + 1, _, z.set j ((zj + d + p) % 256), by omega, by go_num, rfl, by omega, by omega, fun h => by omega, hnew, M'⟩
          case measure => simp [intOf]; omega
        · have hklI : ¬ (k : Int) < (ys.length : Int) := by omega
          obtain ⟨lz, dz, ez⟩ := HZ2.out
          have htk : ys.take k = ys := List.take_of_length_le (by omega)
          rw [htk] at ez
          have hrhs : dv 256 (xs.take i) * dv 256 ys + xi * dv 256 ys * 256 ^ i = dv 256 (xs.take (i + 1)) * dv 256 ys := by rw [HT.out]; grind
          by_cases hd0 : 0 < d
          · have hkn : k = ys.length := by
              rcases Nat.lt_or_ge ys.length k with h | h
              · have := hkd'.out (by omega); omega
              · omega
            have hlast := times_last z i k d _ xi _ dz (by omega) ez (by rw [hrhs, hkn, show i + ys.length + 1 = i + 1 + ys.length from by omega]; exact HP.out)
            have hstep := times_step z i k d xi 0 _ _ (by omega) ez
            obtain ⟨j, hj⟩ : ∃ j, j = i + k := ⟨_, rfl⟩
            obtain ⟨z0, z1⟩ := digOk_rd (B := 256) (by decide) dz j
            have hjl : j < z.length := by omega
            have cz := Mk.cellN List.mem_cons_self hjl
            rw [← hj] at hstep hlast
            obtain ⟨zj, hzj⟩ : ∃ x, x = rd z j := ⟨_, rfl⟩
            rw [← hzj] at z0 z1 cz hstep hlast
            rw [Int.mul_zero, Int.add_zero, Int.zero_mul, Int.add_zero] at hstep
            have hd0' : (zj + d) / 256 = 0 := Int.ediv_eq_zero_of_lt (by omega) hlast
            have hnew := hid (show (z.set j ((zj + d) % 256)).length = xs.length + ys.length + 1 ∧ digOk 256 (z.set j ((zj + d) % 256)) ∧ dv 256 (z.set j ((zj + d) % 256)) + (zj + d) / 256 * 256 ^ (i + (k + 1)) = dv 256 (xs.take i) * dv 256 ys + xi * dv 256 (ys.take (k + 1)) * 256 ^ i from
              ⟨by rw [List.length_set]; exact lz, digOk_set dz j (by omega), by rw [show ys.take (k + 1) = ys from List.take_of_length_le (by omega)]; exact hstep⟩)
            have HD0 := hid hd0'
            have ej : (i : Int) + (k : Int) = (j : Int) := by omega
            have hjI : (j : Int) < (xs.length : Int) + (ys.length : Int) + 1 := by omega
            have hke : k ≤ ys.length := by omega
            clear lz dz ez hrhs hstep hj hzj HZ2 hd0' hkd' hB hkn htk hlast
            go_wp2_with (first | (apply wpList_stN s52; (· rfl); (· rfl); (· rfl); (· rfl); (· exact Mk); (· exact Swap.head); (· omega); intro w' M'))
            go_roundw
            case rel => exact ⟨k + 1, _, z.set j ((zj + d) % 256), by omega, by go_num, rfl, by omega, by omega, fun h => HD0.out, hnew, M'⟩
            case measure => simp [intOf]; omega
          · have hd00 : d = 0 := by omega
            have hfin := hid (show z.length = xs.length + ys.length + 1 ∧ digOk 256 z ∧ dv 256 z = dv 256 (xs.take (i + 1)) * dv 256 ys from ⟨lz, dz, by rw [hd00, Int.zero_mul, Int.add_zero] at ez; rw [ez, hrhs]⟩)
            clear lz dz ez hrhs HZ2 hkd' hB hd00 htk
            go_wp2_with fail
            go_roundw
            case rel => exact ⟨i + 1, z, by omega, by go_num, hfin, Mk⟩
            case measure => simp [intOf]; omega
    · obtain rfl : i = xs.length := by omega
      rw [List.take_of_length_le (Nat.le_refl _)] at HZ
      go_wp2_with fail
      go_ret
      obtain ⟨h1, h2, h3⟩ := HZ.out
      exact ⟨some ⟨b5, 0, none⟩, xs.length + ys.length + 1, zs, by rw [h1]; rfl, by rw [h1]; exact Mi.toVec (by rw [nums_length, h1]) (by unfold maxLen; omega), h2, h3, h1⟩
end Go.Proofs.Ytcjfpcajjhccaaa
