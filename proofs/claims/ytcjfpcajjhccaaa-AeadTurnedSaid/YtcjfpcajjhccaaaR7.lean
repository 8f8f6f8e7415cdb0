/- Walks of the reference of the onetime layer: Rest. -/
import Derived.Test.YtcjfpcajjhccaaaR6
set_option linter.unusedVariables false
set_option linter.unusedSimpArgs false
namespace Go.Proofs.Ytcjfpcajjhccaaa
open Go.RowKit
/-- What goes on behind a round. -/
structure RestSt (xs ys : List Int) (N : Nat) : Prop where
  ok : digOk 256 ys
  same : dv 256 ys % pp = dv 256 xs % pp
  len : ys.length ≤ N
theorem five_ok : digOk 256 [5] := fun x hx => by simp at hx; omega
theorem rest_round (xs ys zs : List Int) (N : Nat) (h : RestSt xs ys N) (hN : 20 ≤ N) (hh : highB ys = true) (hz : digOk 256 zs) (he : dv 256 zs = dv 256 (loL ys) + dv 256 (hiL (ys.drop 16)) * 5) (hl : zs.length ≤ max 17 (ys.length - 16 + 2) + 1) :
    RestSt xs zs N ∧ (dv 256 zs).toNat < (dv 256 ys).toNat := by
  obtain ⟨h17, h1⟩ := high_len ys h.ok hh
  have hlh := lohi ys h17
  have hb := dv_bound (B := 256) (by decide) zs hz
  have ep : (256 : Int) ^ 16 * 4 = pp + 5 := by decide
  have hpp : (1000 : Int) < pp := by decide
  rw [ep] at hlh
  have hm := h.len
  have key : dv 256 ys = dv 256 zs + pp * dv 256 (hiL (ys.drop 16)) := by rw [he, hlh]; grind
  have hpos := Int.mul_pos (show (0 : Int) < pp by decide) (show 0 < dv 256 (hiL (ys.drop 16)) by omega)
  refine ⟨⟨hz, ?_, by omega⟩, by omega⟩
  rw [← h.same, key, Int.add_mul_emod_self_left]
theorem rest_end (xs ys zs : List Int) (N : Nat) (h : RestSt xs ys N) (hh : highB ys = false) (hz : digOk 256 zs) (he : dv 256 zs = dv 256 ys + 5) :
    (highB zs = true → 17 ≤ zs.length ∧ 4 ≤ rd zs 16 ∧ rd zs 16 < 256 ∧ digOk 256 (zs.set 16 (rd zs 16 - 4)) ∧ dv 256 (zs.set 16 (rd zs 16 - 4)) = dv 256 xs % pp) ∧ (highB zs = false → dv 256 ys = dv 256 xs % pp) := by
  have hb := dv_bound (B := 256) (by decide) ys h.ok
  have hlt : dv 256 ys < 2 ^ 130 := by
    rw [highB, decide_eq_false_iff_not] at hh
    omega
  constructor
  · intro h2
    have hlen := (high_len zs hz h2).1
    have hge : (2 : Int) ^ 130 ≤ dv 256 zs := by rw [highB, decide_eq_true_eq] at h2; exact h2
    have hs := dv_split 256 zs 16 (by omega)
    have hd := dv_drop 256 zs 16
    have ht := dv_bound (B := 256) (by decide) _ (digOk_take hz 16)
    rw [List.length_take, Nat.min_eq_left (by omega)] at ht
    have hu := (dv_bound (B := 256) (by decide) _ (digOk_drop hz 17)).1
    have hr := digOk_rd (B := 256) (by decide) hz 16
    have e : (2 : Int) ^ 130 = 256 ^ 16 * 4 := by decide
    have hp : (5 : Int) < 256 ^ 16 := by decide
    have hset := dv_set 256 zs 16 (rd zs 16 - 4) (by omega)
    have hpp : pp = 256 ^ 16 * 4 - 5 := by decide
    have h4 : rd zs 16 = 4 := by
      rw [show (16 : Nat) + 1 = 17 from rfl] at hd
      rw [hd] at hs
      rw [e] at hlt hge
      generalize (256 : Int) ^ 16 = P at *
      rcases Int.lt_or_le (rd zs 16 + 256 * dv 256 (zs.drop 17)) 4 with h3 | h3
      · exfalso
        have : P * (rd zs 16 + 256 * dv 256 (zs.drop 17)) ≤ P * 3 := Int.mul_le_mul_of_nonneg_left (by omega) (by omega)
        omega
      · rcases Int.lt_or_le 4 (rd zs 16 + 256 * dv 256 (zs.drop 17)) with h5 | h5
        · exfalso
          have : P * 5 ≤ P * (rd zs 16 + 256 * dv 256 (zs.drop 17)) := Int.mul_le_mul_of_nonneg_left (by omega) (by omega)
          omega
        · omega
    refine ⟨hlen, by omega, hr.2, digOk_set hz 16 (by omega), ?_⟩
    rw [hset, he, ← h.same]
    have hmod : dv 256 ys % pp = dv 256 ys - pp := by
      rw [← Int.sub_emod_right, Int.emod_eq_of_lt]
      · rw [hpp]; rw [e] at hge; generalize (256 : Int) ^ 16 = P at *; omega
      · rw [hpp]; rw [e] at hlt; generalize (256 : Int) ^ 16 = P at *; omega
    rw [hmod, hpp]
    generalize (256 : Int) ^ 16 = P at *
    omega
  · intro h2
    have hlt2 : dv 256 zs < 2 ^ 130 := by rw [highB, decide_eq_false_iff_not] at h2; omega
    rw [← h.same, Int.emod_eq_of_lt hb.1]
    have : pp = 2 ^ 130 - 5 := rfl
    rw [this]
    omega
theorem Mem.vecAddr {w0 w : World} {E : List Nat} {L : List Item} (M : Mem w0 E w L) {A : Option Addr} {n cap size : Nat} {e : TypeId} {cs : List Value} (hin : .vec A n cap e size cs ∈ L) (hn : 0 < n) : ∃ g, A = some ⟨g, 0, none⟩ := by
  have h : w.ownsRow 0 e size (.slice A n cap) n cs := M.holds _ hin
  rcases h.2 with ⟨_, h2⟩ | ⟨g, cap', cur, h1, _, _⟩
  · omega
  · exact ⟨g, by injection h1⟩
set_option maxRecDepth 100000 in
set_option maxHeartbeats 4000000 in
theorem Rest31 (A : Option Addr) (ca : Nat) (xs : List Int) (w : World) (hA : RowR .u64 w A xs) (hx : digOk 256 xs) (N : Nat) (hN : 20 ≤ N) (hN2 : N ≤ 50000) (nx : xs.length ≤ N) :
    Calls Try.prog 31 #[.slice A xs.length ca] w (Got .u64 w fun zs => digOk 256 zs ∧ dv 256 zs = dv 256 xs % pp ∧ zs.length ≤ N + 1) := by
  have M0 := Mem.start w
  have hst : RestSt xs xs N := ⟨hx, rfl, nx⟩
  go_enter Try.func31, Try.ntmps31
  go_wp2_with fail
  go_loopg [0] (dv 256 xs).toNat (fun f v wr => ∃ (Z : Option Addr) (n cap : Nat) (ys : List Int), v = .slice Z n cap ∧ Hid (n = ys.length ∧ RestSt xs ys N ∧ (dv 256 ys).toNat = f) ∧ RowR .u64 wr Z ys ∧ Mem w [] wr [])
  case atStart => exact ⟨A, xs.length, ca, xs, rfl, hid ⟨rfl, hst, rfl⟩, hA, M0⟩
  case round =>
    obtain ⟨Z, n, cap, ys, rfl, HY, hZ, Mr⟩ := hrel
    clear M0 hst
    obtain ⟨hn, hys, hf⟩ := HY.out
    subst hn
    clear HY
    have hyl := hys.len
    have HH := hid (fun W (hW : RowR .u64 W Z ys) => high48 Z cap ys W hW hys.ok (by omega))
    have HR := hid (rest_round xs ys)
    have HE := hid (rest_end xs ys)
    cases hh : highB ys with
    | true =>
      have Hh := hid hh
      rw [hh] at HH
      obtain ⟨h17, h1⟩ := high_len ys hys.ok hh
      have Hys := hid hys
      have Hf := hid hf
      clear hh hys h1 hf
      go_wp2_with (first | (go_at_call 48; refine (HH.out _ hZ).mono ?_; rintro e w' ⟨rfl, rfl⟩))
      obtain ⟨wo, rfl⟩ : ∃ wo : World, wo = w' := ⟨_, rfl⟩
      have Ms := (Mem.start wo).nil 52 1
      have hysd := Hys.out.ok
      have lenlo := loL_length ys h17
      go_loopw [3, 5] (fun v n wi => ∃ (i : Nat) (Z1 : Option Addr) (c1 : Nat), v = .slice Z1 i c1 ∧ n = .int .i64 i ∧ i ≤ 17 ∧ Mem wo [] wi [.vec Z1 i c1 52 1 (nums .u64 ((loL ys).take i))]) (fun _ n _ => 17 - (intOf n).toNat)
      case atStart => exact ⟨0, none, 0, rfl, rfl, by omega, Ms⟩
      case round =>
        obtain ⟨i, Z1, c1, rfl, rfl, hi, Mi⟩ := hrel
        clear Ms
        by_cases hlt : i < 17
        · have hltI : (i : Int) < 17 := by omega
          have hil : i < ys.length := by omega
          have hilI : (i : Int) < (ys.length : Int) := by omega
          obtain ⟨b, off, rfl, hc⟩ := hZ.at hil
          have hc' := Mi.cell0 hc
          obtain ⟨y0, y1⟩ := digOk_rd (B := 256) (by decide) hysd i
          have hs := loL_take_succ ys i h17 hlt
          by_cases h16 : i = 16
          · have t16 : ((i : Int) == 16) = true := by rw [beq_iff_eq]; omega
            rw [loD, if_pos h16, ← h16] at hs
            obtain ⟨y, hy⟩ : ∃ y, y = rd ys i := ⟨_, rfl⟩
            rw [← hy] at hs hc' y0 y1
            have HS := hid hs
            clear hs hy h16 hZ hc lenlo
            go_wp2_with (first | (apply wpList_ldN Try.underlying52; (· rfl); (· rfl); (· rfl); (· rfl); (· assumption); (· (repeat (first | exact List.mem_cons_self | refine List.mem_cons_of_mem _ ?_))); (· (first | with_reducible assumption | omega | (simp only [nums_length, List.length_set, List.length_replicate]; first | with_reducible assumption | omega) | rfl | (simp [*]; done) | (simp [*]; omega))); (conv => arg 5; simp only [Act.put, List.setIfInBounds_toArray, List.set_cons_succ, List.set_cons_zero])) | (apply wpList_app1 Try.underlying50 i52; (· rfl); (· rfl); (· rfl); (· rfl); (· assumption); (· intro A' cap'; (repeat (first | exact Swap.head | apply Swap.tail))); (· omega); (· omega); intro A' cap' w' M'; (conv => arg 5; simp only [Act.put, List.setIfInBounds_toArray, List.set_cons_succ, List.set_cons_zero])) | (apply wpList_app4 Try.underlying50 i52; (· rfl); (· rfl); (· rfl); (· rfl); (· assumption); (· intro A' cap'; (repeat (first | exact Swap.head | apply Swap.tail))); (· omega); (· omega); intro A' cap' w' M'; (conv => arg 5; simp only [Act.put, List.setIfInBounds_toArray, List.set_cons_succ, List.set_cons_zero])) | (apply wpList_stN s52; (· rfl); (· rfl); (· rfl); (· rfl); (· assumption); (· (repeat (first | exact Swap.head | apply Swap.tail))); (· (first | with_reducible assumption | omega | (simp only [nums_length, List.length_set, List.length_replicate]; first | with_reducible assumption | omega) | rfl | (simp [*]; done) | (simp [*]; omega))); intro w' M'; (conv => arg 5; simp only [Act.put, List.setIfInBounds_toArray, List.set_cons_succ, List.set_cons_zero])))
            go_roundw
            case rel => exact ⟨i + 1, A', cap', rfl, by go_num, by omega, by rw [HS.out]; exact M'⟩
            case measure => simp [intOf]; omega
          · have t16 : ((i : Int) == 16) = false := by rw [beq_eq_false_iff_ne]; omega
            rw [loD, if_neg h16] at hs
            obtain ⟨y, hy⟩ : ∃ y, y = rd ys i := ⟨_, rfl⟩
            rw [← hy] at hs hc' y0 y1
            have HS := hid hs
            clear hs hy h16 hZ hc lenlo
            go_wp2_with (first | (apply wpList_ldN Try.underlying52; (· rfl); (· rfl); (· rfl); (· rfl); (· assumption); (· (repeat (first | exact List.mem_cons_self | refine List.mem_cons_of_mem _ ?_))); (· (first | with_reducible assumption | omega | (simp only [nums_length, List.length_set, List.length_replicate]; first | with_reducible assumption | omega) | rfl | (simp [*]; done) | (simp [*]; omega))); (conv => arg 5; simp only [Act.put, List.setIfInBounds_toArray, List.set_cons_succ, List.set_cons_zero])) | (apply wpList_app1 Try.underlying50 i52; (· rfl); (· rfl); (· rfl); (· rfl); (· assumption); (· intro A' cap'; (repeat (first | exact Swap.head | apply Swap.tail))); (· omega); (· omega); intro A' cap' w' M'; (conv => arg 5; simp only [Act.put, List.setIfInBounds_toArray, List.set_cons_succ, List.set_cons_zero])) | (apply wpList_app4 Try.underlying50 i52; (· rfl); (· rfl); (· rfl); (· rfl); (· assumption); (· intro A' cap'; (repeat (first | exact Swap.head | apply Swap.tail))); (· omega); (· omega); intro A' cap' w' M'; (conv => arg 5; simp only [Act.put, List.setIfInBounds_toArray, List.set_cons_succ, List.set_cons_zero])) | (apply wpList_stN s52; (· rfl); (· rfl); (· rfl); (· rfl); (· assumption); (· (repeat (first | exact Swap.head | apply Swap.tail))); (· (first | with_reducible assumption | omega | (simp only [nums_length, List.length_set, List.length_replicate]; first | with_reducible assumption | omega) | rfl | (simp [*]; done) | (simp [*]; omega))); intro w' M'; (conv => arg 5; simp only [Act.put, List.setIfInBounds_toArray, List.set_cons_succ, List.set_cons_zero])))
            go_roundw
            case rel => exact ⟨i + 1, A', cap', rfl, by go_num, by omega, by rw [HS.out]; exact M'⟩
            case measure => simp [intOf]; omega
        · obtain rfl : i = 17 := by omega
          rw [show ((17 : Nat) : Int) = 17 from rfl]
          rw [List.take_of_length_le (by omega)] at Mi
          go_wp2_with fail
          have Mv := Mi.nil 52 1
          clear Mi
          go_loopw [4, 7] (fun v n wi => ∃ (j : Nat) (Z2 : Option Addr) (c2 : Nat), v = .slice Z2 j c2 ∧ n = .int .i64 (16 + j : Nat) ∧ 16 + j ≤ ys.length ∧ Mem wo [] wi [.vec Z2 j c2 52 1 (nums .u64 ((hiL (ys.drop 16)).take j)), .vec Z1 17 c1 52 1 (nums .u64 (loL ys))]) (fun _ n _ => ys.length - (intOf n).toNat)
          case atStart => exact ⟨0, none, 0, rfl, rfl, by omega, Mv⟩
          case round =>
            obtain ⟨j, Z2, c2, rfl, rfl, hj, Mj⟩ := hrel
            clear Mv
            obtain ⟨m, hm⟩ : ∃ m, m = 16 + j := ⟨_, rfl⟩
            rw [← hm] at hj
            rw [← hm]
            by_cases hlt : m < ys.length
            · have hltI : (m : Int) < (ys.length : Int) := by omega
              obtain ⟨b, off, rfl, hc⟩ := hZ.at hlt
              have hc' := Mj.cell0 hc
              obtain ⟨y0, y1⟩ := digOk_rd (B := 256) (by decide) hysd m
              have hs := hiL_take_succ (ys.drop 16) j (by simp; omega)
              have r1 : rd (ys.drop 16) j = rd ys m := by rw [hm]; simp [rd, List.getD_eq_getElem?_getD]
              have r2 : rd (ys.drop 16) (j + 1) = rd ys (m + 1) := by rw [hm]; simp [rd, List.getD_eq_getElem?_getD, Nat.add_assoc]
              rw [r1, r2] at hs
              obtain ⟨y, hy⟩ : ∃ y, y = rd ys m := ⟨_, rfl⟩
              rw [← hy] at hs hc' y0 y1
              have HM := hid hm
              have hjb : j ≤ 60000 := by omega
              by_cases hlt2 : m + 1 < ys.length
              · have hlt2I : (m : Int) + 1 < (ys.length : Int) := by omega
                obtain ⟨b', off', hbe, hd⟩ := hZ.at hlt2
                obtain ⟨u0, u1⟩ := digOk_rd (B := 256) (by decide) hysd (m + 1)
                simp only [Option.some.injEq, Addr.mk.injEq, and_true] at hbe
                obtain ⟨rfl, rfl⟩ := hbe
                have hd' := Mj.cell0 hd
                obtain ⟨u, hu⟩ : ∃ u, u = rd ys (m + 1) := ⟨_, rfl⟩
                rw [← hu] at hs hd' u0 u1
                have HS := hid hs
                clear hs hy hu hZ hc hd hm r1 r2 lenlo
                go_wp2_with (first | (apply wpList_ldN Try.underlying52; (· rfl); (· rfl); (· rfl); (· rfl); (· assumption); (· (repeat (first | exact List.mem_cons_self | refine List.mem_cons_of_mem _ ?_))); (· (first | with_reducible assumption | omega | (simp only [nums_length, List.length_set, List.length_replicate]; first | with_reducible assumption | omega) | rfl | (simp [*]; done) | (simp [*]; omega))); (conv => arg 5; simp only [Act.put, List.setIfInBounds_toArray, List.set_cons_succ, List.set_cons_zero])) | (apply wpList_app1 Try.underlying50 i52; (· rfl); (· rfl); (· rfl); (· rfl); (· assumption); (· intro A' cap'; (repeat (first | exact Swap.head | apply Swap.tail))); (· omega); (· omega); intro A' cap' w' M'; (conv => arg 5; simp only [Act.put, List.setIfInBounds_toArray, List.set_cons_succ, List.set_cons_zero])) | (apply wpList_app4 Try.underlying50 i52; (· rfl); (· rfl); (· rfl); (· rfl); (· assumption); (· intro A' cap'; (repeat (first | exact Swap.head | apply Swap.tail))); (· omega); (· omega); intro A' cap' w' M'; (conv => arg 5; simp only [Act.put, List.setIfInBounds_toArray, List.set_cons_succ, List.set_cons_zero])) | (apply wpList_stN s52; (· rfl); (· rfl); (· rfl); (· rfl); (· assumption); (· (repeat (first | exact Swap.head | apply Swap.tail))); (· (first | with_reducible assumption | omega | (simp only [nums_length, List.length_set, List.length_replicate]; first | with_reducible assumption | omega) | rfl | (simp [*]; done) | (simp [*]; omega))); intro w' M'; (conv => arg 5; simp only [Act.put, List.setIfInBounds_toArray, List.set_cons_succ, List.set_cons_zero])))
                go_roundw
                case rel => exact ⟨j + 1, A', cap', rfl, by rw [show 16 + (j + 1) = m + 1 from by rw [HM.out]; omega]; go_num, by rw [← Nat.add_assoc, ← HM.out]; omega, by rw [HS.out]; exact M'⟩
                case measure => simp [intOf]; omega
              · have hlt2I : ¬ (m : Int) + 1 < (ys.length : Int) := by omega
                rw [rd_out ys (m + 1) (by omega)] at hs
                have hs2 : (hiL (ys.drop 16)).take (j + 1) = (hiL (ys.drop 16)).take j ++ [y / 4] := by rw [hs]; simp
                have HS := hid hs2
                clear hs hs2 hy hZ hc hm r1 r2 lenlo
                go_wp2_with (first | (apply wpList_ldN Try.underlying52; (· rfl); (· rfl); (· rfl); (· rfl); (· assumption); (· (repeat (first | exact List.mem_cons_self | refine List.mem_cons_of_mem _ ?_))); (· (first | with_reducible assumption | omega | (simp only [nums_length, List.length_set, List.length_replicate]; first | with_reducible assumption | omega) | rfl | (simp [*]; done) | (simp [*]; omega))); (conv => arg 5; simp only [Act.put, List.setIfInBounds_toArray, List.set_cons_succ, List.set_cons_zero])) | (apply wpList_app1 Try.underlying50 i52; (· rfl); (· rfl); (· rfl); (· rfl); (· assumption); (· intro A' cap'; (repeat (first | exact Swap.head | apply Swap.tail))); (· omega); (· omega); intro A' cap' w' M'; (conv => arg 5; simp only [Act.put, List.setIfInBounds_toArray, List.set_cons_succ, List.set_cons_zero])) | (apply wpList_app4 Try.underlying50 i52; (· rfl); (· rfl); (· rfl); (· rfl); (· assumption); (· intro A' cap'; (repeat (first | exact Swap.head | apply Swap.tail))); (· omega); (· omega); intro A' cap' w' M'; (conv => arg 5; simp only [Act.put, List.setIfInBounds_toArray, List.set_cons_succ, List.set_cons_zero])) | (apply wpList_stN s52; (· rfl); (· rfl); (· rfl); (· rfl); (· assumption); (· (repeat (first | exact Swap.head | apply Swap.tail))); (· (first | with_reducible assumption | omega | (simp only [nums_length, List.length_set, List.length_replicate]; first | with_reducible assumption | omega) | rfl | (simp [*]; done) | (simp [*]; omega))); intro w' M'; (conv => arg 5; simp only [Act.put, List.setIfInBounds_toArray, List.set_cons_succ, List.set_cons_zero])))
                go_roundw
                case rel => exact ⟨j + 1, A', cap', rfl, by rw [show 16 + (j + 1) = m + 1 from by rw [HM.out]; omega]; go_num, by rw [← Nat.add_assoc, ← HM.out]; omega, by rw [HS.out]; exact M'⟩
                case measure => simp [intOf]; omega
            · have hltI : ¬ (m : Int) < (ys.length : Int) := by omega
              have hje : j = ys.length - 16 := by omega
              rw [List.take_of_length_le (by rw [hiL_length, List.length_drop]; omega)] at Mj
              have hhl : (hiL (ys.drop 16)).length = j := by rw [hiL_length, List.length_drop, hje]
              have HHL := hid hhl
              have HJE := hid hje
              clear hje hhl
              go_wp2_with fail
              have M5 := Mj.alloc (.cells #[.int .u64 5] 52)
              have r2 := (M5.rowR (List.mem_cons_of_mem _ List.mem_cons_self)).1
              have r1 := (M5.rowR (List.mem_cons_of_mem _ (List.mem_cons_of_mem _ List.mem_cons_self))).1
              have r5 : RowR .u64 _ _ [5] := M5.rowB (k := .u64) (xs := [5]) List.mem_cons_self
              have HTI := Times32 Z2 _ c2 1 (hiL (ys.drop 16)) [5] _ r2 r5 (hiL_ok _ (digOk_drop hysd 16)) five_ok (by rw [HHL.out]; omega) (by decide)
              rw [HHL.out] at HTI
              refine HTI.mono ?_; rintro e w1 ⟨Zt, ct, ts, rfl, Mt, ht1, ht2, ht3⟩
              have Mq := M5.join Mt
              have ht3' := hid ht3
              have ht2' := hid ht2
              clear HTI M5 r2 r1 r5 Mt ht3 ht2 Mj
              go_wp2_with fail
              have rt := (Mq.rowR List.mem_cons_self).1
              have rl := (Mq.rowR (List.mem_cons_of_mem _ (List.mem_cons_of_mem _ (List.mem_cons_of_mem _ List.mem_cons_self)))).1
              have HPL := Plus47 Z1 Zt c1 ct (loL ys) ts _ rl rt (loL_ok ys hysd) ht1 (by rw [lenlo]; omega) (by rw [ht3'.out]; simp; omega)
              rw [lenlo] at HPL
              refine HPL.mono ?_; rintro e w2 ⟨Zp, cp, ps, rfl, Mp, hp1, hp2, hp3⟩
              have Mz := Mq.join Mp
              have rp := (Mz.rowR List.mem_cons_self).1
              have hround := HR.out ps N Hys.out hN Hh.out hp1 (by rw [hp2, ht2'.out]; simp [dv]) (by rw [ht3'.out, HJE.out] at hp3; simp only [List.length_cons, List.length_nil] at hp3; omega)
              have HRO := hid hround
              have Mw := Mr.call Mz.below
              clear hround hp1 hp2 hp3 HPL rl rt Mq Mp
              go_wp2_with fail
              go_roundg (dv 256 ps).toNat
              case measure => have := HRO.out.2; have := Hf.out; omega
              case rel => exact ⟨Zp, ps.length, cp, ps, rfl, hid ⟨rfl, HRO.out.1, rfl⟩, rp, Mw⟩
    | false =>
      have Hh := hid hh
      rw [hh] at HH
      have Hys := hid hys
      have hysd := hys.ok
      clear hh hys hf
      go_wp2_with (first | (go_at_call 48; refine (HH.out _ hZ).mono ?_; rintro e w' ⟨rfl, rfl⟩))
      have Ms := (Mem.start w').alloc (.cells #[.int .u64 5] 52)
      have r5 : RowR .u64 _ _ [5] := Ms.rowB (k := .u64) (xs := [5]) List.mem_cons_self
      refine (Plus47 Z _ cap 1 ys [5] _ (hZ.kept Ms) r5 hysd five_ok (by omega) (by decide)).mono ?_; rintro e w1 ⟨Zb, cb, bs, rfl, Mb, hb1, hb2, hb3⟩
      have Mq := Ms.join Mb
      have hend := HE.out bs N Hys.out Hh.out hb1 (by rw [hb2]; simp [dv])
      have hbl : bs.length ≤ N + 1 := by simp only [List.length_cons, List.length_nil] at hb3; omega
      have HH2 := hid (fun W (hW : RowR .u64 W Zb bs) => high48 Zb cb bs W hW hb1 (by omega))
      have rb := (Mq.rowR List.mem_cons_self).1
      have hb1' := hid hb1
      clear hb1 hb2 hb3 Mb r5
      cases hh2 : highB bs with
      | true =>
        obtain ⟨h17, h4, h256, hok, hval⟩ := hend.1 hh2
        rw [hh2] at HH2
        obtain ⟨gb, hgb⟩ := Mq.vecAddr List.mem_cons_self (by omega)
        subst hgb
        have hc := Mq.vcell List.mem_cons_self
        have c16 : w1.cell? ⟨gb, 16, none⟩ = some (.int .u64 (rd bs 16)) := by
          have := hc.2 ⟨gb, 0, none⟩ rfl 16 _ (nums_get .u64 bs 16 (by omega))
          rwa [Addr.add_lit] at this
        have hlI : (16 : Int) < (bs.length : Int) := by omega
        have HV := hid hval
        have HOK := hid hok
        obtain ⟨x, hx⟩ : ∃ x, x = rd bs 16 := ⟨_, rfl⟩
        rw [← hx] at c16 h4 h256 HV HOK
        clear hend hc hval hok hx hh2
        go_wp2_with (first | (go_at_call 48; refine (HH2.out _ rb).mono ?_; rintro e w' ⟨rfl, rfl⟩) | (apply wpList_stV s52; (· rfl); (· rfl); (· rfl); (· rfl); (· exact Mq); (· exact Swap.head); (· omega); intro w' Mx))
        go_ret
        refine ⟨some ⟨gb, 0, none⟩, cb, bs.set 16 (x - 4), by rw [List.length_set]; rfl, (Mr.call Mx.below).below, (Mx.rowR List.mem_cons_self).1, HOK.out, HV.out, by rw [List.length_set]; exact hbl⟩
      | false =>
        have hval := hid (hend.2 hh2)
        rw [hh2] at HH2
        have Hb := hid hbl
        clear hend hh2
        go_wp2_with (first | (go_at_call 48; refine (HH2.out _ rb).mono ?_; rintro e w' ⟨rfl, rfl⟩))
        go_ret
        exact ⟨Z, cap, ys, rfl, (Mr.call Mq.below).below, hZ.kept Mq, Hys.out.ok, hval.out, by omega⟩
end Go.Proofs.Ytcjfpcajjhccaaa
