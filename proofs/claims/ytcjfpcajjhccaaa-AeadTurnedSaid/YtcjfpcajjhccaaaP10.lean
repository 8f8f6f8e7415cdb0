/- Walks of the onetime layer, eighth part: Tag. -/
import Derived.Test.YtcjfpcajjhccaaaP9
set_option linter.unusedVariables false
set_option linter.unusedSimpArgs false
namespace Go.Proofs.Ytcjfpcajjhccaaa
open Go.RowKit
/-- The bits of a number, into a byte. -/
def bitN (n : List Int) (k : Nat) : Int := bits .and .u64 (rd n (k / 26) / 2 ^ (k % 26)) 1
def byteStep (n : List Int) (i : Nat) (b : Int) (j : Nat) : Int := bits .or .u64 b (IntKind.u64.wrap (bitN n (8 * i + j) * 2 ^ j))
def byteTo (n : List Int) (i : Nat) (c : Nat) : Int := (List.range c).foldl (byteStep n i) 0
theorem byteTo_zero (n : List Int) (i : Nat) : byteTo n i 0 = 0 := rfl
theorem byteTo_succ (n : List Int) (i c : Nat) : byteTo n i (c + 1) = byteStep n i (byteTo n i c) c := by simp [byteTo, List.range_succ]
/-- One byte of the tag: what is carried on, and the bytes. -/
def outStep (n s : List Int) (st : Int × List Int) (i : Nat) : Int × List Int :=
  let sum := IntKind.u64.wrap (st.1 + IntKind.u64.wrap (byteTo n i 8 + IntKind.u64.wrap (rd s i)))
  (sum / 256, st.2.set i (sum % 256))
def outTo (n s : List Int) (c : Nat) : Int × List Int := (List.range c).foldl (outStep n s) (0, List.replicate 16 0)
theorem outTo_succ (n s : List Int) (c : Nat) : outTo n s (c + 1) = outStep n s (outTo n s c) c := by simp [outTo, List.range_succ]
theorem outTo_length (n s : List Int) (c : Nat) : (outTo n s c).2.length = 16 := by
  induction c with
  | zero => simp [outTo]
  | succ c ih => rw [outTo_succ, outStep]; simp [ih]
/-- The limbs at the end, ahead of least. -/
def endA (r : List Int) (st : List Int × List Int × Nat) : List Int := if 0 < st.2.2 then timesL (addTo st.1 (limbsL (st.2.1.set st.2.2 1)) 5) r else st.1
theorem endA_length (r : List Int) (st : List Int × List Int × Nat) (h : StOk st) : (endA r st).length = 5 := by
  unfold endA
  split
  · exact timesL_length _ _
  · exact h.1
def tagP (r s : List Int) (st : List Int × List Int × Nat) : List Int := (outTo (leastL (endA r st)) s 16).2
theorem cut_all {xs : List Int} {n : Nat} (h : xs.length = n) : (xs.drop 0).take n = xs := by rw [List.drop_zero, List.take_of_length_le (by omega)]
theorem below_of_kept {w w' : World} {g : Nat} {o : Obj} (h : w.grownBy w' (some g)) (h1 : w.heap[g]? = some o) (h2 : w'.heap[g]? = some o) : Below w.heap.size w w' :=
  ⟨h.os, h.tape, h.output, h.size, fun i hi => by
    by_cases e : i = g
    · subst e; rw [h1, h2]
    · exact h.block i hi (by simpa using e)⟩
attribute [irreducible] byteTo
set_option maxRecDepth 100000 in
set_option maxHeartbeats 4000000 in
theorem Tag34 (g : Nat) (t : TypeId) (r s : List Int) (st : List Int × List Int × Nat) (w : World) (hr : r.length = 5) (hs : s.length = 16) (hst : StOk st) (hg : w.heap[g]? = some (cellsO t (polyS r s st))) :
    Calls Try.prog 34 #[.pointer (some ⟨g, 0, none⟩)] w fun e w' => e = .returned (.string (strOfNums (tagP r s st))) ∧ Below w.heap.size w w' := by
  have M0 := Mem.start1 hg
  obtain ⟨a, rest, many⟩ := st
  have hst' := hst
  obtain ⟨ha, hrest, hrd, hm⟩ := hst'
  simp only at ha hrest hrd hm
  have hpo : PolyOk a r s rest := ⟨ha, hr, hs, hrest⟩
  replace M0 : Mem w [g] w [.blk g (cellsO t (polyC a r s rest many))] := M0
  have HT := hid (show tagP r s (a, rest, many) = (outTo (leastL (endA r (a, rest, many))) s 16).2 from rfl)
  have hEA := endA_length r (a, rest, many) hst
  have HEA := hid (show endA r (a, rest, many) = if 0 < many then timesL (addTo a (limbsL (rest.set many 1)) 5) r else a from rfl)
  obtain ⟨tg, htg⟩ : ∃ x, x = tagP r s (a, rest, many) := ⟨_, rfl⟩
  obtain ⟨ea, hea⟩ : ∃ x, x = endA r (a, rest, many) := ⟨_, rfl⟩
  rw [← htg] at HT ⊢
  rw [← hea] at hEA HEA HT
  clear htg hea
  have hlen := polyC_length a r s rest many ha hr hs hrest
  have hone : ∀ v ∈ polyC a r s rest many, v.oneCell' = true := by
    intro v hv
    simp only [polyC, nums, List.mem_append, List.mem_map, List.mem_singleton] at hv
    rcases hv with ⟨x, _, rfl⟩ | ⟨x, _, rfl⟩ | ⟨x, _, rfl⟩ | ⟨x, _, rfl⟩ | rfl <;> rfl
  have hz44 : zeroPoly.length = 44 := rfl
  have HLS := hid (fun w => least50 ea w hEA)
  have hle := leastL_length ea hEA
  obtain ⟨le, hlee⟩ : ∃ x, x = leastL ea := ⟨_, rfl⟩
  rw [← hlee] at HT HLS hle
  clear hlee
  by_cases hm0 : 0 < many
  · have hm0I : (0 : Int) < (many : Int) := by omega
    have hea2 : ea = timesL (addTo a (limbsL (rest.set many 1)) 5) r := by rw [HEA.out, if_pos hm0]
    have HE2 := hid hea2
    clear hea2 HEA
    obtain ⟨rx, hrx⟩ : ∃ x, x = List.replicate 17 (0 : Int) := ⟨_, rfl⟩
    have lrx : rx.length = 17 := by rw [hrx]; simp
    obtain ⟨mx, hmx⟩ : ∃ x : Nat, x = 0 := ⟨_, rfl⟩
    have HRX := hid hrx
    have HMX := hid hmx
    clear hrx hmx
    go_enter Try.func34, Try.ntmps34
    go_wp2_with (first | (refine wpList_al (cs := zeroPoly) rfl rfl M0 z83 rfl (fun b3 w' M1 => ?_); (conv => arg 5; simp only [Act.put, List.setIfInBounds_toArray, List.set_cons_succ, List.set_cons_zero])) | (apply wpList_nc; (· rfl); (· rfl); (· rfl); (conv => arg 5; simp only [Act.put, List.setIfInBounds_toArray, List.set_cons_succ, List.set_cons_zero])) | (refine wpList_ldrow (ty := 83) rfl rfl Try.underlying83 rfl rfl M1 (List.mem_cons_of_mem _ List.mem_cons_self) (by rw [s83, hlen]) ?_; (conv => arg 5; simp only [Act.put, List.setIfInBounds_toArray, List.set_cons_succ, List.set_cons_zero])) | (refine wpList_strow (ty := 83) rfl rfl rfl rfl M1 Swap.head (by rw [s83, hlen]) (by rw [hlen]; rfl) hone (fun w' M2 => ?_); have c2 := M2.polyN List.mem_cons_self hpo; (conv => arg 5; simp only [Act.put, List.setIfInBounds_toArray, List.set_cons_succ, List.set_cons_zero])))
    clear M1 M0
    refine (takeM b3 83 a r s rest many _ hpo (by omega) hrd M2 Swap.head).mono ?_; rintro e w' ⟨rfl, MX⟩
    rw [← HE2.out, ← HRX.out, ← HMX.out] at MX
    clear M2 c2
    go_wp2_with (first | (refine wpList_ldmid [] (nums .u64 ea) (nums .u64 r ++ (nums .u8 s ++ (nums .u8 rx ++ [.int .i64 mx]))) Try.underlying80 s80 rfl rfl rfl rfl MX (by rw [List.nil_append]; exact List.mem_cons_self) rfl (by rw [nums_length]; exact hEA) ?_; (conv => arg 5; simp only [Act.put, List.setIfInBounds_toArray, List.set_cons_succ, List.set_cons_zero])) | (go_at_call 50; refine (HLS.out _).mono ?_; rintro e w' ⟨rfl, hb⟩; replace MX := MX.call hb) | (refine wpList_alN z80 4 rfl rfl rfl MX (fun b4 w' MY => ?_); (conv => arg 5; simp only [Act.put, List.setIfInBounds_toArray, List.set_cons_succ, List.set_cons_zero]); clear MX) | (refine wpList_strowN s80 rfl rfl rfl rfl MY Swap.head (by simp) hle (fun w' MZ => ?_); (conv => arg 5; simp only [Act.put, List.setIfInBounds_toArray, List.set_cons_succ, List.set_cons_zero]); clear MY) | (refine wpList_alN z49 5 rfl rfl rfl MZ (fun b5 w' M5 => ?_); (conv => arg 5; simp only [Act.put, List.setIfInBounds_toArray, List.set_cons_succ, List.set_cons_zero]); clear MZ))
    go_loopw [6, 22] (fun sm n wr => ∃ i : Nat, i ≤ 16 ∧ n = .int .i64 i ∧ sm = .int .u64 (outTo le s i).1 ∧ Mem w [g] wr [.blk b5 (rowO .u8 49 (outTo le s i).2), .blk b4 (rowO .u64 80 le), .blk b3 (cellsO 83 (polyC ea r s rx mx)), .blk g (cellsO t (polyC a r s rest many))]) (fun _ n _ => 16 - (intOf n).toNat)
    case atStart => exact ⟨0, by omega, rfl, rfl, M5⟩
    case round =>
      obtain ⟨i, hi, rfl, rfl, Mi⟩ := hrel
      clear M5
      by_cases hlt : i < 16
      · have hltI : (i : Int) < 16 := by omega
        obtain ⟨sm, hsm⟩ : ∃ x, x = (outTo le s i).1 := ⟨_, rfl⟩
        obtain ⟨z, hz⟩ : ∃ x, x = (outTo le s i).2 := ⟨_, rfl⟩
        have lz : z.length = 16 := by rw [hz, outTo_length]
        have hso := outTo_succ le s i
        rw [outStep, ← hsm, ← hz] at hso
        rw [← hz] at Mi
        rw [← hsm]
        have HSO := hid hso
        clear hso hsm hz
        go_wp2_with fail
        obtain ⟨wo, rfl⟩ : ∃ wo : World, wo = wr := ⟨_, rfl⟩
        go_loopw [8, 9] (fun b n wi => ∃ j K : Nat, j ≤ 8 ∧ K = 8 * i + j ∧ n = .int .i64 K ∧ b = .int .u64 (byteTo le i j) ∧ Mem w [g] wi [.blk b5 (rowO .u8 49 z), .blk b4 (rowO .u64 80 le), .blk b3 (cellsO 83 (polyC ea r s rx mx)), .blk g (cellsO t (polyC a r s rest many))]) (fun _ n _ => 8 * i + 8 - (intOf n).toNat)
        case atStart => exact ⟨0, 8 * i, by omega, by omega, by go_num, by rw [byteTo_zero], Mi⟩
        case round =>
          obtain ⟨j, K, hj, hK, rfl, rfl, Mj⟩ := hrel
          clear Mi
          obtain ⟨bb, hbb⟩ : ∃ x, x = byteTo le i j := ⟨_, rfl⟩
          have hbs := byteTo_succ le i j
          rw [byteStep, bitN, ← hbb, ← hK] at hbs
          rw [← hbb]
          by_cases hj8 : j < 8
          · have hKI : (K : Int) < 8 * (i : Int) + 8 := by omega
            obtain ⟨q, hq⟩ : ∃ q, q = K / 26 := ⟨_, rfl⟩
            obtain ⟨rr, hrr⟩ : ∃ q, q = K % 26 := ⟨_, rfl⟩
            rw [← hq, ← hrr] at hbs
            have HBS := hid hbs
            have q5 : q < 5 := by omega
            have q5I : (q : Int) < 5 := by omega
            have r26 : (rr : Int) < 26 := by omega
            have e1 : (K : Int) / 26 = (q : Int) := by omega
            have e2 : (K : Int) % 26 = (rr : Int) := by omega
            have e3 : (K : Int) - 8 * (i : Int) = (j : Int) := by omega
            have jI : (j : Int) < 8 := by omega
            have K0 : 8 * (i : Int) ≤ (K : Int) := by omega
            have HK := hid hK
            clear hbs hbb hq hrr hK
            go_wp2_with (first | (apply wpList_ldN Try.underlying52; (· rfl); (· rfl); (· rfl); (· rfl); (· exact Mj); (· exact List.mem_cons_of_mem _ List.mem_cons_self); (· omega); (conv => arg 5; simp only [Act.put, List.setIfInBounds_toArray, List.set_cons_succ, List.set_cons_zero])))
            go_roundw
            case rel => exact ⟨j + 1, K + 1, by omega, by rw [HK.out]; omega, by go_num, by rw [HBS.out], Mj⟩
            case measure => simp [intOf]; omega
          · obtain rfl : j = 8 := by omega
            have hKI : ¬ (K : Int) < 8 * (i : Int) + 8 := by omega
            have c3 := Mj.polyS (List.mem_cons_of_mem _ (List.mem_cons_of_mem _ List.mem_cons_self)) (show PolyOk ea r s rx from ⟨hEA, hr, hs, lrx⟩) hlt
            have HBB := hid hbb
            clear hbs hbb hK
            go_wp2_with (first | (apply wpList_stN s5; (· rfl); (· rfl); (· rfl); (· rfl); (· exact Mj); (· exact Swap.head); (· omega); intro w' MW))
            go_roundw
            case rel => exact ⟨i + 1, by omega, by go_num, by rw [HSO.out, ← HBB.out], by rw [HSO.out, ← HBB.out]; exact MW⟩
            case measure => simp [intOf]; omega
      · obtain rfl : i = 16 := by omega
        rw [show ((16 : Nat) : Int) = 16 from rfl]
        rw [← HT.out] at Mi
        have ltg : tg.length = 16 := by rw [HT.out, outTo_length]
        have hta := hid (cut_all ltg)
        go_wp2_with (first | (apply wpList_slW Try.underlying49 s5 (by decide); (· rfl); (· rfl); (· rfl); (conv => arg 5; simp only [Act.put, List.setIfInBounds_toArray, List.set_cons_succ, List.set_cons_zero])) | (apply wpList_cvS Try.underlying47 Try.underlying5 Try.underlying9; (· rfl); (· rfl); (· rfl); (· exact Mi); (· exact List.mem_cons_self); (· omega); (conv => arg 5; simp only [Act.put, List.setIfInBounds_toArray, List.set_cons_succ, List.set_cons_zero])))
        go_ret
        refine ⟨?_, below_of_kept Mi.grown1 hg (Mi.holds _ (List.mem_cons_of_mem _ (List.mem_cons_of_mem _ (List.mem_cons_of_mem _ List.mem_cons_self))))⟩
        exact congrArg (fun x => Ending.returned (.string (strOfNums x))) hta.out
  · have hm0I : ¬ (0 : Int) < (many : Int) := by omega
    have hea2 : ea = a := by rw [HEA.out, if_neg hm0]
    have HE2 := hid hea2
    clear hea2 HEA
    obtain ⟨rx, hrx⟩ : ∃ x, x = rest := ⟨_, rfl⟩
    have lrx : rx.length = 17 := by rw [hrx, hrest]
    obtain ⟨mx, hmx⟩ : ∃ x : Nat, x = many := ⟨_, rfl⟩
    have HRX := hid hrx
    have HMX := hid hmx
    clear hrx hmx
    go_enter Try.func34, Try.ntmps34
    go_wp2_with (first | (refine wpList_al (cs := zeroPoly) rfl rfl M0 z83 rfl (fun b3 w' M1 => ?_); (conv => arg 5; simp only [Act.put, List.setIfInBounds_toArray, List.set_cons_succ, List.set_cons_zero])) | (apply wpList_nc; (· rfl); (· rfl); (· rfl); (conv => arg 5; simp only [Act.put, List.setIfInBounds_toArray, List.set_cons_succ, List.set_cons_zero])) | (refine wpList_ldrow (ty := 83) rfl rfl Try.underlying83 rfl rfl M1 (List.mem_cons_of_mem _ List.mem_cons_self) (by rw [s83, hlen]) ?_; (conv => arg 5; simp only [Act.put, List.setIfInBounds_toArray, List.set_cons_succ, List.set_cons_zero])) | (refine wpList_strow (ty := 83) rfl rfl rfl rfl M1 Swap.head (by rw [s83, hlen]) (by rw [hlen]; rfl) hone (fun w' M2 => ?_); have c2 := M2.polyN List.mem_cons_self hpo; have MX : Mem w [g] w' [.blk b3 (cellsO 83 (polyC ea r s rx mx)), .blk g (cellsO t (polyC a r s rest many))] := (by rw [HE2.out, HRX.out, HMX.out]; exact M2); (conv => arg 5; simp only [Act.put, List.setIfInBounds_toArray, List.set_cons_succ, List.set_cons_zero]); clear M1 M0 M2) | (refine wpList_ldmid [] (nums .u64 ea) (nums .u64 r ++ (nums .u8 s ++ (nums .u8 rx ++ [.int .i64 mx]))) Try.underlying80 s80 rfl rfl rfl rfl MX (by rw [List.nil_append]; exact List.mem_cons_self) rfl (by rw [nums_length]; exact hEA) ?_; (conv => arg 5; simp only [Act.put, List.setIfInBounds_toArray, List.set_cons_succ, List.set_cons_zero])) | (go_at_call 50; refine (HLS.out _).mono ?_; rintro e w' ⟨rfl, hb⟩; replace MX := MX.call hb) | (refine wpList_alN z80 4 rfl rfl rfl MX (fun b4 w' MY => ?_); (conv => arg 5; simp only [Act.put, List.setIfInBounds_toArray, List.set_cons_succ, List.set_cons_zero]); clear MX) | (refine wpList_strowN s80 rfl rfl rfl rfl MY Swap.head (by simp) hle (fun w' MZ => ?_); (conv => arg 5; simp only [Act.put, List.setIfInBounds_toArray, List.set_cons_succ, List.set_cons_zero]); clear MY) | (refine wpList_alN z49 5 rfl rfl rfl MZ (fun b5 w' M5 => ?_); (conv => arg 5; simp only [Act.put, List.setIfInBounds_toArray, List.set_cons_succ, List.set_cons_zero]); clear MZ))
    clear c2
    go_loopw [6, 22] (fun sm n wr => ∃ i : Nat, i ≤ 16 ∧ n = .int .i64 i ∧ sm = .int .u64 (outTo le s i).1 ∧ Mem w [g] wr [.blk b5 (rowO .u8 49 (outTo le s i).2), .blk b4 (rowO .u64 80 le), .blk b3 (cellsO 83 (polyC ea r s rx mx)), .blk g (cellsO t (polyC a r s rest many))]) (fun _ n _ => 16 - (intOf n).toNat)
    case atStart => exact ⟨0, by omega, rfl, rfl, M5⟩
    case round =>
      obtain ⟨i, hi, rfl, rfl, Mi⟩ := hrel
      clear M5
      by_cases hlt : i < 16
      · have hltI : (i : Int) < 16 := by omega
        obtain ⟨sm, hsm⟩ : ∃ x, x = (outTo le s i).1 := ⟨_, rfl⟩
        obtain ⟨z, hz⟩ : ∃ x, x = (outTo le s i).2 := ⟨_, rfl⟩
        have lz : z.length = 16 := by rw [hz, outTo_length]
        have hso := outTo_succ le s i
        rw [outStep, ← hsm, ← hz] at hso
        rw [← hz] at Mi
        rw [← hsm]
        have HSO := hid hso
        clear hso hsm hz
        go_wp2_with fail
        obtain ⟨wo, rfl⟩ : ∃ wo : World, wo = wr := ⟨_, rfl⟩
        go_loopw [8, 9] (fun b n wi => ∃ j K : Nat, j ≤ 8 ∧ K = 8 * i + j ∧ n = .int .i64 K ∧ b = .int .u64 (byteTo le i j) ∧ Mem w [g] wi [.blk b5 (rowO .u8 49 z), .blk b4 (rowO .u64 80 le), .blk b3 (cellsO 83 (polyC ea r s rx mx)), .blk g (cellsO t (polyC a r s rest many))]) (fun _ n _ => 8 * i + 8 - (intOf n).toNat)
        case atStart => exact ⟨0, 8 * i, by omega, by omega, by go_num, by rw [byteTo_zero], Mi⟩
        case round =>
          obtain ⟨j, K, hj, hK, rfl, rfl, Mj⟩ := hrel
          clear Mi
          obtain ⟨bb, hbb⟩ : ∃ x, x = byteTo le i j := ⟨_, rfl⟩
          have hbs := byteTo_succ le i j
          rw [byteStep, bitN, ← hbb, ← hK] at hbs
          rw [← hbb]
          by_cases hj8 : j < 8
          · have hKI : (K : Int) < 8 * (i : Int) + 8 := by omega
            obtain ⟨q, hq⟩ : ∃ q, q = K / 26 := ⟨_, rfl⟩
            obtain ⟨rr, hrr⟩ : ∃ q, q = K % 26 := ⟨_, rfl⟩
            rw [← hq, ← hrr] at hbs
            have HBS := hid hbs
            have q5 : q < 5 := by omega
            have q5I : (q : Int) < 5 := by omega
            have r26 : (rr : Int) < 26 := by omega
            have e1 : (K : Int) / 26 = (q : Int) := by omega
            have e2 : (K : Int) % 26 = (rr : Int) := by omega
            have e3 : (K : Int) - 8 * (i : Int) = (j : Int) := by omega
            have jI : (j : Int) < 8 := by omega
            have K0 : 8 * (i : Int) ≤ (K : Int) := by omega
            have HK := hid hK
            clear hbs hbb hq hrr hK
            go_wp2_with (first | (apply wpList_ldN Try.underlying52; (· rfl); (· rfl); (· rfl); (· rfl); (· exact Mj); (· exact List.mem_cons_of_mem _ List.mem_cons_self); (· omega); (conv => arg 5; simp only [Act.put, List.setIfInBounds_toArray, List.set_cons_succ, List.set_cons_zero])))
            go_roundw
            case rel => exact ⟨j + 1, K + 1, by omega, by rw [HK.out]; omega, by go_num, by rw [HBS.out], Mj⟩
            case measure => simp [intOf]; omega
          · obtain rfl : j = 8 := by omega
            have hKI : ¬ (K : Int) < 8 * (i : Int) + 8 := by omega
            have c3 := Mj.polyS (List.mem_cons_of_mem _ (List.mem_cons_of_mem _ List.mem_cons_self)) (show PolyOk ea r s rx from ⟨hEA, hr, hs, lrx⟩) hlt
            have HBB := hid hbb
            clear hbs hbb hK
            go_wp2_with (first | (apply wpList_stN s5; (· rfl); (· rfl); (· rfl); (· rfl); (· exact Mj); (· exact Swap.head); (· omega); intro w' MW))
            go_roundw
            case rel => exact ⟨i + 1, by omega, by go_num, by rw [HSO.out, ← HBB.out], by rw [HSO.out, ← HBB.out]; exact MW⟩
            case measure => simp [intOf]; omega
      · obtain rfl : i = 16 := by omega
        rw [show ((16 : Nat) : Int) = 16 from rfl]
        rw [← HT.out] at Mi
        have ltg : tg.length = 16 := by rw [HT.out, outTo_length]
        have hta := hid (cut_all ltg)
        go_wp2_with (first | (apply wpList_slW Try.underlying49 s5 (by decide); (· rfl); (· rfl); (· rfl); (conv => arg 5; simp only [Act.put, List.setIfInBounds_toArray, List.set_cons_succ, List.set_cons_zero])) | (apply wpList_cvS Try.underlying47 Try.underlying5 Try.underlying9; (· rfl); (· rfl); (· rfl); (· exact Mi); (· exact List.mem_cons_self); (· omega); (conv => arg 5; simp only [Act.put, List.setIfInBounds_toArray, List.set_cons_succ, List.set_cons_zero])))
        go_ret
        refine ⟨?_, below_of_kept Mi.grown1 hg (Mi.holds _ (List.mem_cons_of_mem _ (List.mem_cons_of_mem _ (List.mem_cons_of_mem _ List.mem_cons_self))))⟩
        exact congrArg (fun x => Ending.returned (.string (strOfNums x))) hta.out
end Go.Proofs.Ytcjfpcajjhccaaa
