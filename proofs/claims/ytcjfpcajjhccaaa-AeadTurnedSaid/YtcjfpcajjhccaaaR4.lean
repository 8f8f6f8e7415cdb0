/- Walks of the reference of the onetime layer: Clamped, Times. -/
import Derived.Test.YtcjfpcajjhccaaaR3
import Derived.Laws.MakeOwn
set_option linter.unusedVariables false
set_option linter.unusedSimpArgs false
namespace Go.Proofs.Ytcjfpcajjhccaaa
open Go.RowKit
def clampB (i : Nat) (b : Int) : Int := if i % 4 = 3 then b % 16 else if i = 4 ∨ i = 8 ∨ i = 12 then b - b % 4 else b
/-- The reference's r. -/
def clampR (key : List Int) (n : Nat) : List Int := (List.range n).map fun i => clampB i (rd key i)
theorem clampR_succ (key : List Int) (n : Nat) : clampR key (n + 1) = clampR key n ++ [clampB n (rd key n)] := by simp [clampR, List.range_succ]
theorem clampR_length (key : List Int) (n : Nat) : (clampR key n).length = n := by simp [clampR]
set_option maxRecDepth 100000 in
set_option maxHeartbeats 1000000 in
theorem Clamped30 (key : List Int) (w : World) (hk : key.length = 32) (hkb : digOk 256 key) :
    Calls Try.prog 30 #[.agg (nums .u8 key).toArray] w (Made .u64 52 w fun zs => zs = clampR key 16) := by
  have M0 := Mem.start w
  go_enter Try.func30, Try.ntmps30
  go_wp2_with (first | (apply wpList_bxN 1; (· rfl); (· rfl); (· rfl); (· rfl); (· assumption); intro b1 w' M'; (conv => arg 5; simp only [Act.put, List.setIfInBounds_toArray, List.set_cons_succ, List.set_cons_zero])) | (apply wpList_ldN Try.underlying5; (· rfl); (· rfl); (· rfl); (· rfl); (· assumption); (· (repeat (first | exact List.mem_cons_self | refine List.mem_cons_of_mem _ ?_))); (· (first | with_reducible assumption | omega | (simp only [nums_length, List.length_set, List.length_replicate]; first | with_reducible assumption | omega) | rfl | (simp [*]; done) | (simp [*]; omega))); (conv => arg 5; simp only [Act.put, List.setIfInBounds_toArray, List.set_cons_succ, List.set_cons_zero])) | (apply wpList_app1 Try.underlying50 i52; (· rfl); (· rfl); (· rfl); (· rfl); (· assumption); (· intro A' cap'; (repeat (first | exact Swap.head | apply Swap.tail))); (· omega); (· omega); intro A' cap' w' M'; (conv => arg 5; simp only [Act.put, List.setIfInBounds_toArray, List.set_cons_succ, List.set_cons_zero])) | (apply wpList_app4 Try.underlying50 i52; (· rfl); (· rfl); (· rfl); (· rfl); (· assumption); (· intro A' cap'; (repeat (first | exact Swap.head | apply Swap.tail))); (· omega); (· omega); intro A' cap' w' M'; (conv => arg 5; simp only [Act.put, List.setIfInBounds_toArray, List.set_cons_succ, List.set_cons_zero])))
  have Mv := M'.nil 52 1
  clear M'
  go_loopw [3, 4] (fun v n wr => ∃ (i : Nat) (Z : Option Addr) (cap : Nat), v = .slice Z i cap ∧ n = .int .i64 i ∧ i ≤ 16 ∧ Mem w [] wr [.vec Z i cap 52 1 (nums .u64 (clampR key i)), .blk b1 (rowO .u8 23 key)]) (fun _ n _ => 16 - (intOf n).toNat)
  case atStart => exact ⟨0, none, 0, rfl, rfl, by omega, Mv⟩
  case round =>
    obtain ⟨i, Z, cap, rfl, rfl, hi, Mi⟩ := hrel
    clear Mv
    by_cases hlt : i < 16
    · have hltI : (i : Int) < 16 := by omega
      obtain ⟨x0, x1⟩ := digOk_rd (B := 256) (by decide) hkb i
      have hs := clampR_succ key i
      obtain ⟨x, hx⟩ : ∃ x, x = rd key i := ⟨_, rfl⟩
      have c1 := Mi.cellN (List.mem_cons_of_mem _ List.mem_cons_self) (show i < key.length by omega)
      rw [← hx] at x0 x1 hs c1
      have hkI : (i : Int) < 32 := by omega
      clear hx
      by_cases h3 : i % 4 = 3
      · have t3 : ((i : Int) % 4 == 3) = true := by rw [beq_iff_eq]; omega
        have t4 : ((i : Int) == 4) = false := by rw [beq_eq_false_iff_ne]; omega
        have t8 : ((i : Int) == 8) = false := by rw [beq_eq_false_iff_ne]; omega
        have t12 : ((i : Int) == 12) = false := by rw [beq_eq_false_iff_ne]; omega
        rw [clampB, if_pos h3] at hs
        clear h3
        have HS := hid hs
        clear hs
        go_wp2_with (first | (apply wpList_app1 Try.underlying50 i52; (· rfl); (· rfl); (· rfl); (· rfl); (· assumption); (· intro A' cap'; exact Swap.head); (· omega); (· omega); intro A' cap' w' M'))
        go_roundw
        case rel => exact ⟨i + 1, A', cap', rfl, by go_num, by omega, by rw [HS.out]; exact M'⟩
        case measure => simp [intOf]; omega
      · have t3 : ((i : Int) % 4 == 3) = false := by rw [beq_eq_false_iff_ne]; omega
        rw [clampB, if_neg h3] at hs
        clear h3
        by_cases h4 : i = 4
        · have t4 : ((i : Int) == 4) = true := by rw [beq_iff_eq]; omega
          rw [if_pos (.inl h4)] at hs
          clear h4
          have HS := hid hs
          clear hs
          go_wp2_with (first | (apply wpList_app1 Try.underlying50 i52; (· rfl); (· rfl); (· rfl); (· rfl); (· assumption); (· intro A' cap'; exact Swap.head); (· omega); (· omega); intro A' cap' w' M'))
          go_roundw
          case rel => exact ⟨i + 1, A', cap', rfl, by go_num, by omega, by rw [HS.out]; exact M'⟩
          case measure => simp [intOf]; omega
        · have t4 : ((i : Int) == 4) = false := by rw [beq_eq_false_iff_ne]; omega
          by_cases h8 : i = 8
          · have t8 : ((i : Int) == 8) = true := by rw [beq_iff_eq]; omega
            rw [if_pos (.inr (.inl h8))] at hs
            clear h4 h8
            have HS := hid hs
            clear hs
            go_wp2_with (first | (apply wpList_app1 Try.underlying50 i52; (· rfl); (· rfl); (· rfl); (· rfl); (· assumption); (· intro A' cap'; exact Swap.head); (· omega); (· omega); intro A' cap' w' M'))
            go_roundw
            case rel => exact ⟨i + 1, A', cap', rfl, by go_num, by omega, by rw [HS.out]; exact M'⟩
            case measure => simp [intOf]; omega
          · have t8 : ((i : Int) == 8) = false := by rw [beq_eq_false_iff_ne]; omega
            by_cases h12 : i = 12
            · have t12 : ((i : Int) == 12) = true := by rw [beq_iff_eq]; omega
              rw [if_pos (.inr (.inr h12))] at hs
              clear h4 h8 h12
              have HS := hid hs
              clear hs
              go_wp2_with (first | (apply wpList_app1 Try.underlying50 i52; (· rfl); (· rfl); (· rfl); (· rfl); (· assumption); (· intro A' cap'; exact Swap.head); (· omega); (· omega); intro A' cap' w' M'))
              go_roundw
              case rel => exact ⟨i + 1, A', cap', rfl, by go_num, by omega, by rw [HS.out]; exact M'⟩
              case measure => simp [intOf]; omega
            · have t12 : ((i : Int) == 12) = false := by rw [beq_eq_false_iff_ne]; omega
              rw [if_neg (by omega)] at hs
              clear h4 h8 h12
              have HS := hid hs
              clear hs
              go_wp2_with (first | (apply wpList_app1 Try.underlying50 i52; (· rfl); (· rfl); (· rfl); (· rfl); (· assumption); (· intro A' cap'; exact Swap.head); (· omega); (· omega); intro A' cap' w' M'))
              go_roundw
              case rel => exact ⟨i + 1, A', cap', rfl, by go_num, by omega, by rw [HS.out]; exact M'⟩
              case measure => simp [intOf]; omega
    · obtain rfl : i = 16 := by omega
      rw [show ((16 : Nat) : Int) = 16 from rfl]
      go_wp2_with fail
      go_ret
      exact ⟨Z, cap, clampR key 16, by rw [clampR_length]; rfl, by rw [clampR_length]; exact Mi.sub (List.Sublist.cons_cons _ (List.nil_sublist _)), rfl⟩
theorem dv_set (B : Int) (xs : List Int) (j : Nat) (v : Int) (h : j < xs.length) : dv B (xs.set j v) = dv B xs + (v - rd xs j) * B ^ j := by
  induction xs generalizing j with
  | nil => simp at h
  | cons x xs ih =>
    cases j with
    | zero =>
      have : rd (x :: xs) 0 = x := rfl
      rw [List.set_cons_zero, dv, dv, this, Int.pow_zero]
      omega
    | succ j =>
      have : rd (x :: xs) (j + 1) = rd xs j := rfl
      rw [List.set_cons_succ, dv, dv, ih j (by simpa using h), this, Int.pow_succ]
      grind
theorem dv_take_succ (B : Int) (xs : List Int) (i : Nat) (h : i < xs.length) : dv B (xs.take (i + 1)) = dv B (xs.take i) + rd xs i * B ^ i := by
  rw [List.take_succ_eq_append_getElem h, dv_append, List.length_take, Nat.min_eq_left (by omega)]
  have : rd xs i = xs[i] := by simp [rd, List.getD_eq_getElem?_getD, List.getElem?_eq_getElem h]
  rw [this]
  simp only [dv]
  grind
theorem times_step (zs : List Int) (i k : Nat) (c xi yk T D : Int) (hl : i + k < zs.length) (h : dv 256 zs + c * 256 ^ (i + k) = T + xi * D * 256 ^ i) :
    dv 256 (zs.set (i + k) ((rd zs (i + k) + c + xi * yk) % 256)) + (rd zs (i + k) + c + xi * yk) / 256 * 256 ^ (i + (k + 1)) = T + xi * (D + yk * 256 ^ k) * 256 ^ i := by
  rw [dv_set _ _ _ _ hl]
  have e := Int.emod_add_mul_ediv (rd zs (i + k) + c + xi * yk) 256
  generalize (rd zs (i + k) + c + xi * yk) % 256 = m at *
  generalize (rd zs (i + k) + c + xi * yk) / 256 = q at *
  have ep : (256 : Int) ^ (i + (k + 1)) = 256 ^ i * 256 ^ k * 256 := by rw [← Nat.add_assoc, Int.pow_succ, Int.pow_add]
  have ep2 : (256 : Int) ^ (i + k) = 256 ^ i * 256 ^ k := Int.pow_add _ _ _
  rw [ep2] at h ⊢
  rw [ep]
  generalize (256 : Int) ^ i = P at *
  generalize (256 : Int) ^ k = R at *
  have em : m = rd zs (i + k) + c + xi * yk - 256 * q := by omega
  rw [em]
  grind
/-- Past the end of the second row the carry ends. -/
theorem times_last (zs : List Int) (i n : Nat) (c T xi D : Int) (hd : digOk 256 zs) (hl : i + n < zs.length) (h : dv 256 zs + c * 256 ^ (i + n) = T + xi * D * 256 ^ i) (hb : T + xi * D * 256 ^ i < 256 ^ (i + n + 1)) :
    rd zs (i + n) + c < 256 := by
  have hs := dv_split 256 zs (i + n) (by omega)
  have b0 := (dv_bound (B := 256) (by decide) _ (digOk_take hd (i + n))).1
  have hdr := dv_drop 256 zs (i + n)
  have b1 := (dv_bound (B := 256) (by decide) _ (digOk_drop hd (i + n + 1))).1
  rw [hdr] at hs
  rw [← h, hs, Int.pow_succ] at hb
  have hp : (0 : Int) < 256 ^ (i + n) := Int.pow_pos (by decide)
  generalize (256 : Int) ^ (i + n) = P at *
  rcases Int.lt_or_le (rd zs (i + n) + c) 256 with h1 | h1
  · exact h1
  · exfalso
    have h2 : 0 ≤ P * (rd zs (i + n) + 256 * dv 256 (zs.drop (i + n + 1)) + c - 256) := Int.mul_nonneg (Int.le_of_lt hp) (by omega)
    grind
theorem madeCells_int (k : IntKind) (n : Nat) : madeCells (Value.int k 0).cells n = (nums k (List.replicate n 0)).toArray := by
  apply Array.toList_inj.1
  apply List.ext_getElem?
  intro i
  by_cases hi : i < n
  · simp [madeCells, nums, Value.cells, hi, Nat.mod_one]
  · simp [madeCells, nums, Value.cells, hi]
section
variable {P : Program} {ops : Array Oper} {rest : List Oper} {o : Oper} {a : Act} {w w0 : World} {Q : Exit → Act → World → Prop} {E : List Nat} {L L' : List Item}
/-- make([]T, n), T a kind of numbers. -/
theorem wpList_mkN (m n : Nat) {t e : TypeId} {k : IntKind} {bytes : Nat} (ht : P.underlying t = some (.slice e)) (hi : (P.info? e).map (fun i => (i.zero, i.size, i.bytes)) = some (some (.int k 0), 1, bytes)) (hm : o.dst = some m) (hgd : o.guard = none) {x y : Operand}
    (ho : o.op = .makeSlice t x y) {n1 n2 : Int} (hx : a.eval x = .int .i64 n1) (hy : a.eval y = .int .i64 n2) (h1 : n1 = n) (h2 : n2 = n) (hb : bytes * n ≤ 281474976710656) (hn : n ≤ 281474976710656) (M : Mem w0 E w L)
    (h : ∀ b w', Mem w0 E w' (.blk b (rowO k e (List.replicate n 0)) :: L) → wpList P ops Q rest (a.put (some m) (.slice (some ⟨b, 0, none⟩) n n)) w') : wpList P ops Q (o :: rest) a w :=
  wpList_plain hgd fun K hK => by
    subst h1 h2
    obtain ⟨i, hii, hp⟩ := Option.map_eq_some_iff.1 hi
    simp only [Prod.mk.injEq] at hp
    obtain ⟨hz, hs, hby⟩ := hp
    have hbb : (i.bytes : Int) * (n : Int) ≤ 281474976710656 := by
      rw [hby, ← Int.natCast_mul]
      omega
    have hr := run_make (P := P) w t e i _ ht hii hz .i64 .i64 (n : Int) (n : Int) (by omega) (by omega) hbb (by omega)
    rw [Int.toNat_natCast, hs, Nat.mul_one, madeCells_int] at hr
    unfold Oper.wp execOp
    simp only [ho, hx, hy, Sem.run_bind, Sem.run_pure, Result.andThen_ok, hr]
    rw [← hm] at h
    exact hK _ _ (h _ _ (M.alloc _))
/-- A block of the call's own as a slice of its own. -/
theorem Mem.toVec {g n : Nat} {e : TypeId} {cs : List Value} (M : Mem w0 E w (.blk g (cellsO e cs) :: L)) (hl : cs.length = n) (hn : n ≤ maxLen) : Mem w0 E w (.vec (some ⟨g, 0, none⟩) n n e 1 cs :: L) := by
  refine ⟨M.os, M.tape, M.output, M.size, M.old, ?_, ?_, ?_⟩
  · intro x hx
    rcases List.mem_cons.1 hx with rfl | hx
    · refine ⟨by omega, .inr ⟨g, n, cs.toArray, rfl, Nat.zero_le _, M.holds _ List.mem_cons_self, Nat.le_refl _, hn, by simp [hl], by simp [← hl]⟩⟩
    · exact M.holds x (List.mem_cons_of_mem _ hx)
  · intro x hx b hb
    rcases List.mem_cons.1 hx with rfl | hx
    · exact M.fresh _ List.mem_cons_self b hb
    · exact M.fresh x (List.mem_cons_of_mem _ hx) b hb
  · obtain ⟨h1, h2⟩ := List.pairwise_cons.1 M.apart
    exact List.pairwise_cons.2 ⟨fun y hy b hb => h1 y hy b hb, h2⟩
end
end Go.Proofs.Ytcjfpcajjhccaaa
