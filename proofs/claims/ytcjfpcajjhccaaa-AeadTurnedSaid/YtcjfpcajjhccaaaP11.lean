/- Walks of the onetime layer, ninth part: the tag of none, and of some parts. -/
import Derived.Test.YtcjfpcajjhccaaaP10
set_option linter.unusedVariables false
set_option linter.unusedSimpArgs false
namespace Go.Proofs.Ytcjfpcajjhccaaa
open Go.RowKit
set_option maxRecDepth 100000 in
theorem Write35_nil (v : Value) (w : World) : Calls Try.prog 35 #[.pointer none, v] w fun e w' => e = .returned (.tuple #[]) ∧ w' = w := by
  go_enter Try.func35, Try.ntmps35
  go_wp2_with fail
  refine bodyPost_ret (results_none rfl _ _ _) rfl ?_
  exact ⟨rfl, rfl⟩
set_option maxRecDepth 100000 in
set_option maxHeartbeats 4000000 in
theorem Tag34_nil (w : World) : Calls Try.prog 34 #[.pointer none] w fun e w' => e = .returned (.string (strOfNums (outTo (leastL (List.replicate 5 0)) (List.replicate 16 0) 16).2)) ∧ Below w.heap.size w w' := by
  have M0 := Mem.start w
  obtain ⟨ea, hea⟩ : ∃ x, x = List.replicate 5 (0 : Int) := ⟨_, rfl⟩
  obtain ⟨r, hrr⟩ : ∃ x, x = List.replicate 5 (0 : Int) := ⟨_, rfl⟩
  obtain ⟨s, hss⟩ : ∃ x, x = List.replicate 16 (0 : Int) := ⟨_, rfl⟩
  obtain ⟨rx, hrx⟩ : ∃ x, x = List.replicate 17 (0 : Int) := ⟨_, rfl⟩
  obtain ⟨mx, hmx⟩ : ∃ x : Nat, x = 0 := ⟨_, rfl⟩
  have hEA : ea.length = 5 := by rw [hea]; rfl
  have hr : r.length = 5 := by rw [hrr]; rfl
  have hs : s.length = 16 := by rw [hss]; rfl
  have lrx : rx.length = 17 := by rw [hrx]; rfl
  have HZ := hid (show zeroPoly = polyC ea r s rx mx by rw [zeroPoly, hea, hrr, hss, hrx, hmx])
  rw [← hea, ← hss]
  have HLS := hid (fun w => least50 ea w hEA)
  have hle := leastL_length ea hEA
  obtain ⟨le, hlee⟩ : ∃ x, x = leastL ea := ⟨_, rfl⟩
  have HT := hid (show (outTo le s 16).2 = (outTo le s 16).2 from rfl)
  rw [← hlee] at HLS hle ⊢
  obtain ⟨tg, htg⟩ : ∃ x, x = (outTo le s 16).2 := ⟨_, rfl⟩
  rw [← htg] at HT ⊢
  replace HT := hid htg
  have hm0 : mx = 0 := hmx
  have HM0 := hid hm0
  have hmN : ¬ (0 : Int) < (mx : Int) := by omega
  clear hea hrr hss hrx hmx hlee htg hm0
  go_enter Try.func34, Try.ntmps34
  go_wp2_with (first | (refine wpList_al (cs := zeroPoly) rfl rfl M0 z83 rfl (fun b3 w' M1 => ?_); have MX : Mem w [] w' [.blk b3 (cellsO 83 (polyC ea r s rx mx))] := (by rw [← HZ.out]; exact M1); have c2 := MX.polyN List.mem_cons_self (show PolyOk ea r s rx from ⟨hEA, hr, hs, lrx⟩); (conv => arg 5; simp only [Act.put, List.setIfInBounds_toArray, List.set_cons_succ, List.set_cons_zero]); clear M1 M0) | (refine wpList_ldmid [] (nums .u64 ea) (nums .u64 r ++ (nums .u8 s ++ (nums .u8 rx ++ [.int .i64 mx]))) Try.underlying80 s80 rfl rfl rfl rfl MX (by rw [List.nil_append]; exact List.mem_cons_self) rfl (by rw [nums_length]; exact hEA) ?_; (conv => arg 5; simp only [Act.put, List.setIfInBounds_toArray, List.set_cons_succ, List.set_cons_zero])) | (go_at_call 50; refine (HLS.out _).mono ?_; rintro e w' ⟨rfl, hb⟩; replace MX := MX.call hb) | (refine wpList_alN z80 4 rfl rfl rfl MX (fun b4 w' MY => ?_); (conv => arg 5; simp only [Act.put, List.setIfInBounds_toArray, List.set_cons_succ, List.set_cons_zero]); clear MX) | (refine wpList_strowN s80 rfl rfl rfl rfl MY Swap.head (by simp) hle (fun w' MZ => ?_); (conv => arg 5; simp only [Act.put, List.setIfInBounds_toArray, List.set_cons_succ, List.set_cons_zero]); clear MY) | (refine wpList_alN z49 5 rfl rfl rfl MZ (fun b5 w' M5 => ?_); (conv => arg 5; simp only [Act.put, List.setIfInBounds_toArray, List.set_cons_succ, List.set_cons_zero]); clear MZ))
  clear c2
  go_loopw [6, 22] (fun sm n wr => ∃ i : Nat, i ≤ 16 ∧ n = .int .i64 i ∧ sm = .int .u64 (outTo le s i).1 ∧ Mem w [] wr [.blk b5 (rowO .u8 49 (outTo le s i).2), .blk b4 (rowO .u64 80 le), .blk b3 (cellsO 83 (polyC ea r s rx mx))]) (fun _ n _ => 16 - (intOf n).toNat)
  case atStart => exact ⟨0, by omega, rfl, rfl, M5⟩
  case round =>
    obtain ⟨i, hi, rfl, rfl, Mi⟩ := hrel
    clear M5
    by_cases hlt : i < 16
    · have hltI : (i : Int) < 16 := by omega
      obtain ⟨sm, hsm⟩ : ∃ x, x = (outTo le s i).1 := ⟨_, rfl⟩
      obtain ⟨z, hz⟩ : ∃ x, x = (outTo le s i).2 := ⟨_, rfl⟩
      have lz : z.length = 16 := by rw [hz, outTo_length]
      have hso := outTo_succ le s i
      rw [outStep, ← hsm, ← hz] at hso
      rw [← hz] at Mi
      rw [← hsm]
      have HSO := hid hso
      clear hso hsm hz
      go_wp2_with fail
      obtain ⟨wo, rfl⟩ : ∃ wo : World, wo = wr := ⟨_, rfl⟩
      go_loopw [8, 9] (fun b n wi => ∃ j K : Nat, j ≤ 8 ∧ K = 8 * i + j ∧ n = .int .i64 K ∧ b = .int .u64 (byteTo le i j) ∧ Mem w [] wi [.blk b5 (rowO .u8 49 z), .blk b4 (rowO .u64 80 le), .blk b3 (cellsO 83 (polyC ea r s rx mx))]) (fun _ n _ => 8 * i + 8 - (intOf n).toNat)
      case atStart => exact ⟨0, 8 * i, by omega, by omega, by go_num, by rw [byteTo_zero], Mi⟩
      case round =>
        obtain ⟨j, K, hj, hK, rfl, rfl, Mj⟩ := hrel
        clear Mi
        obtain ⟨bb, hbb⟩ : ∃ x, x = byteTo le i j := ⟨_, rfl⟩
        have hbs := byteTo_succ le i j
        rw [byteStep, bitN, ← hbb, ← hK] at hbs
        rw [← hbb]
        by_cases hj8 : j < 8
        · have hKI : (K : Int) < 8 * (i : Int) + 8 := by omega
          obtain ⟨q, hq⟩ : ∃ q, q = K / 26 := ⟨_, rfl⟩
          obtain ⟨rr, hrr⟩ : ∃ q, q = K % 26 := ⟨_, rfl⟩
          rw [← hq, ← hrr] at hbs
          have HBS := hid hbs
          have q5 : q < 5 := by omega
          have q5I : (q : Int) < 5 := by omega
          have r26 : (rr : Int) < 26 := by omega
          have e1 : (K : Int) / 26 = (q : Int) := by omega
          have e2 : (K : Int) % 26 = (rr : Int) := by omega
          have e3 : (K : Int) - 8 * (i : Int) = (j : Int) := by omega
          have jI : (j : Int) < 8 := by omega
          have K0 : 8 * (i : Int) ≤ (K : Int) := by omega
          have HK := hid hK
          clear hbs hbb hq hrr hK
          go_wp2_with (first | (apply wpList_ldN Try.underlying52; (· rfl); (· rfl); (· rfl); (· rfl); (· exact Mj); (· exact List.mem_cons_of_mem _ List.mem_cons_self); (· omega); (conv => arg 5; simp only [Act.put, List.setIfInBounds_toArray, List.set_cons_succ, List.set_cons_zero])))
          go_roundw
          case rel => exact ⟨j + 1, K + 1, by omega, by rw [HK.out]; omega, by go_num, by rw [HBS.out], Mj⟩
          case measure => simp [intOf]; omega
        · obtain rfl : j = 8 := by omega
          have hKI : ¬ (K : Int) < 8 * (i : Int) + 8 := by omega
          have c3 := Mj.polyS (List.mem_cons_of_mem _ (List.mem_cons_of_mem _ List.mem_cons_self)) (show PolyOk ea r s rx from ⟨hEA, hr, hs, lrx⟩) hlt
          have HBB := hid hbb
          clear hbs hbb hK
          go_wp2_with (first | (apply wpList_stN s5; (· rfl); (· rfl); (· rfl); (· rfl); (· exact Mj); (· exact Swap.head); (· omega); intro w' MW))
          go_roundw
          case rel => exact ⟨i + 1, by omega, by go_num, by rw [HSO.out, ← HBB.out], by rw [HSO.out, ← HBB.out]; exact MW⟩
          case measure => simp [intOf]; omega
    · obtain rfl : i = 16 := by omega
      rw [show ((16 : Nat) : Int) = 16 from rfl]
      rw [← HT.out] at Mi
      have ltg : tg.length = 16 := by rw [HT.out, outTo_length]
      have hta := hid (cut_all ltg)
      go_wp2_with (first | (apply wpList_slW Try.underlying49 s5 (by decide); (· rfl); (· rfl); (· rfl); (conv => arg 5; simp only [Act.put, List.setIfInBounds_toArray, List.set_cons_succ, List.set_cons_zero])) | (apply wpList_cvS Try.underlying47 Try.underlying5 Try.underlying9; (· rfl); (· rfl); (· rfl); (· exact Mi); (· exact List.mem_cons_self); (· omega); (conv => arg 5; simp only [Act.put, List.setIfInBounds_toArray, List.set_cons_succ, List.set_cons_zero])))
      go_ret
      refine ⟨?_, Mi.below⟩
      exact congrArg (fun x => Ending.returned (.string (strOfNums x))) hta.out
theorem WriteM (g : Nat) (t : TypeId) (r s : List Int) (st : List Int × List Int × Nat) (v : Value) (ps : List ByteArray) (w : World) (hr : r.length = 5) (hs : s.length = 16) (hst : StOk st) (hv : Strs w g v ps) (hps : ps.length ≤ 1000000) (hpl : ∀ p ∈ ps, p.size ≤ 1000000)
    {w0 : World} {E : List Nat} {L L' : List Item} (M : Mem w0 E w L) (hsw : Swap (.blk g (cellsO t (polyS r s st))) (.blk g (cellsO t (polyS r s (pfeed r st (bytesAll ps))))) L L') :
    Calls Try.prog 35 #[.pointer (some ⟨g, 0, none⟩), v] w fun e w' => e = .returned (.tuple #[]) ∧ Mem w0 E w' L' :=
  (Write35 g t r s st v ps w hr hs hst hv hps hpl (M.holds _ hsw.mem)).mono fun e w' ⟨he, hg, hh⟩ => ⟨he, M.swap hsw hg (.inr rfl) hh (fun b hb => .inl hb)⟩
theorem TagM (g : Nat) (t : TypeId) (r s : List Int) (st : List Int × List Int × Nat) (w : World) (hr : r.length = 5) (hs : s.length = 16) (hst : StOk st) {w0 : World} {E : List Nat} {L : List Item} (M : Mem w0 E w L) (hin : .blk g (cellsO t (polyS r s st)) ∈ L) :
    Calls Try.prog 34 #[.pointer (some ⟨g, 0, none⟩)] w fun e w' => e = .returned (.string (strOfNums (tagP r s st))) ∧ Mem w0 E w' L :=
  (Tag34 g t r s st w hr hs hst (M.holds _ hin)).mono fun e w' ⟨he, hb⟩ => ⟨he, M.call hb⟩
def st0 : List Int × List Int × Nat := (List.replicate 5 0, List.replicate 17 0, 0)
theorem st0_ok : StOk st0 := ⟨rfl, rfl, digOk_zeros (by decide) 17, by decide⟩
theorem begun_eq (key : List Int) : begun key = polyS (limbsL (clampP key)) (key.drop 16) st0 := rfl
theorem begun_lr (key : List Int) : (limbsL (clampP key)).length = 5 := limbsL_length _
theorem begun_ls (key : List Int) (h : key.length = 32) : (key.drop 16).length = 16 := by simp [h]
/-- The tag of some bytes, as the program reckons it. -/
def tagK (key bs : List Int) : List Int := tagP (limbsL (clampP key)) (key.drop 16) (pfeed (limbsL (clampP key)) st0 bs)
theorem Strs.kept {w w' : World} {g : Nat} {v : Value} {ps : List ByteArray} (h : Strs w g v ps) (k : ∀ (ad : Addr) u, w.cell? ad = Option.some u → ad.block ≠ g → w'.cell? ad = Option.some u) : Strs w' g v ps := by
  cases h with
  | none A cap => exact .none A cap
  | some b off cap ps hb hc => exact .some b off cap ps hb fun i s hi => k _ _ (hc i s hi) hb
/-- A slice that the caller has is not in a new block. -/
theorem Strs.fresh {w : World} {v : Value} {ps : List ByteArray} {g : Nat} (h : Strs w g v ps) (b : Nat) (hb : w.heap.size ≤ b) : Strs w b v ps := by
  cases h with
  | none A cap => exact .none A cap
  | some b' off cap ps hb' hc =>
    cases ps with
    | nil => exact .none _ _
    | cons p ps =>
      have h0 := World.block_lt_of_cell? w _ (hc 0 p rfl)
      exact .some b' off cap _ (by simp only at h0; omega) hc
set_option maxRecDepth 100000 in
theorem Tag27 (key : List Int) (v : Value) (ps : List ByteArray) (w : World) (hk : key.length = 32) (hkb : digOk 256 key) (hv : ∀ b, w.heap.size ≤ b → Strs w b v ps) (hps : ps.length ≤ 1000000) (hpl : ∀ p ∈ ps, p.size ≤ 1000000) :
    Calls Try.prog 27 #[.agg (nums .u8 key).toArray, v] w fun e w' => e = .returned (.string (strOfNums (tagK key (bytesAll ps)))) ∧ Below w.heap.size w w' := by
  have M0 := Mem.start w
  have HT := hid (show tagK key (bytesAll ps) = tagP (limbsL (clampP key)) (key.drop 16) (pfeed (limbsL (clampP key)) st0 (bytesAll ps)) from rfl)
  obtain ⟨tg, htg⟩ : ∃ x, x = tagK key (bytesAll ps) := ⟨_, rfl⟩
  rw [← htg] at HT ⊢
  clear htg
  go_enter Try.func27, Try.ntmps27
  go_wp2_with (first | (refine wpList_al (cs := zeroPoly) rfl rfl M' z83 rfl (fun b5 w' M1 => ?_); (conv => arg 5; simp only [Act.put, List.setIfInBounds_toArray, List.set_cons_succ, List.set_cons_zero])) | (apply wpList_bxN 2; (· rfl); (· rfl); (· rfl); (· rfl); (· assumption); intro b2 w' M'; (conv => arg 5; simp only [Act.put, List.setIfInBounds_toArray, List.set_cons_succ, List.set_cons_zero])) | (apply wpList_ldrowN Try.underlying23 s23; (· rfl); (· rfl); (· rfl); (· rfl); (· assumption); (· (repeat (first | exact List.mem_cons_self | refine List.mem_cons_of_mem _ ?_))); (· (first | with_reducible assumption | omega | (simp only [nums_length, List.length_set, List.length_replicate]; first | with_reducible assumption | omega) | rfl | (simp [*]; done) | (simp [*]; omega))); (conv => arg 5; simp only [Act.put, List.setIfInBounds_toArray, List.set_cons_succ, List.set_cons_zero])))
  refine (beginM b5 83 _ _ _ _ 0 key _ zeroOk hk hkb M1 Swap.head).mono ?_; rintro e w' ⟨rfl, M2⟩
  clear M1 M'
  go_wp2_with fail
  have hb5 : w.heap.size ≤ b5 := (M2.fresh _ List.mem_cons_self b5 rfl).resolve_left (by simp)
  refine (WriteM b5 83 (limbsL (clampP key)) (key.drop 16) st0 v ps _ (begun_lr key) (begun_ls key hk) st0_ok ((hv b5 hb5).kept fun ad u hu hne => M2.cellOld hu (by simp)) hps hpl M2 Swap.head).mono ?_; rintro e w' ⟨rfl, M3⟩
  go_wp2_with fail
  refine (TagM b5 83 (limbsL (clampP key)) (key.drop 16) _ _ (begun_lr key) (begun_ls key hk) (pfeed_ok _ _ _ st0_ok (bytesAll_ok ps)) M3 List.mem_cons_self).mono ?_; rintro e w' ⟨rfl, M4⟩
  rw [← HT.out]
  go_wp2_with fail
  go_ret
  exact ⟨rfl, M4.below⟩
end Go.Proofs.Ytcjfpcajjhccaaa
