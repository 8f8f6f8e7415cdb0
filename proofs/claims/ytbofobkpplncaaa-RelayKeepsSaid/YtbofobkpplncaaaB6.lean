/- Walks of the relay layer: the reference's Move; two lists compared; what a law does by an act. -/
import Derived.Test.YtbofobkpplncaaaB5
set_option linter.unusedVariables false
set_option linter.unusedSimpArgs false
namespace Go.Proofs.Ytbofobkpplncaaa
open Go.RowKit
set_option maxRecDepth 100000 in
set_option maxHeartbeats 1000000 in
theorem Move11_in (g m i k : Nat) (s : ByteArray) (Ls : List (List ByteArray)) (vs : List Value) (w : World) (h : RS w g 31 Ls vs) (hm : m < 8) (hi : (Ls.getD m [])[i]? = some s) (hk : k < (Ls.getD m []).length) :
    Calls Try.prog 11 #[.pointer (some ⟨g, 0, none⟩), .int .i64 m, .int .i64 i, .int .i64 k] w (ActR w g 31 vs (Ls.set m (insL (takeL (Ls.getD m []) i) k s)) (.int .i64 0)) := by
  have HT := hid (fun w' (h' : RS w' g 31 Ls vs) => Take9_in g m i s Ls vs w' h' hm hi)
  have H1 := hid (Has19_yes g m i s Ls vs w h hm hi)
  have H2 := hid (fun w' (h' : RS w' g 31 Ls vs) => Has19_yes g m k _ Ls vs w' h' hm (List.getElem?_eq_getElem hk))
  obtain ⟨L, A, c, hL, hv, hc, hA, hr, h40⟩ := h.at hm
  rw [List.getD_eq_getElem?_getD, hL, Option.getD_some] at hi hk HT ⊢
  have hil : i < L.length := (List.getElem?_eq_some_iff.1 hi).1
  have htl := takeL_length L i hil
  have HS := hid h
  obtain ⟨L1, hL1⟩ : ∃ x, x = takeL L i := ⟨_, rfl⟩
  rw [← hL1] at HT htl ⊢
  have hll : m < Ls.length := by rw [h.2.2.1]; exact hm
  have hget := hid (show (Ls.set m L1)[m]? = some L1 from List.getElem?_set_self hll)
  have hkl : k ≤ L1.length := by omega
  have hL1l : L1.length ≤ 39 := by omega
  have hil2 := insL_length L1 k s hkl
  have hkI8 : (m : Int) < 8 := by omega
  obtain ⟨ps, hps⟩ : ∃ x, x = insL L1 k s := ⟨_, rfl⟩
  rw [← hps] at hil2 ⊢
  have HPS := hid (show (strs L1).take k ++ strs [s] ++ (strs L1).drop (k * 1) = strs ps from by rw [hps, insL, strs_append, strs_take, Nat.mul_one, ← strs_drop, show s :: L1.drop k = [s] ++ L1.drop k from rfl, strs_append, List.append_assoc])
  have hpl := hid (show k + 1 + (L1.length - k) = ps.length from by omega)
  have hp40 : ps.length ≤ 40 := by omega
  have hd := hid (show ((strs L1).drop (k * 1)).length = (L1.length - k) * 1 from by rw [List.length_drop, strs_length]; omega)
  have ht := hid (show ((strs L1).take k).length = k * 1 from by rw [List.length_take, strs_length]; omega)
  have hone1 := hid (fun (v : Value) (hv : v ∈ (strs L1).take k) => strs_one L1 v (List.mem_of_mem_take hv))
  have hone2 := hid (fun (v : Value) (hv : v ∈ (strs L1).drop (k * 1)) => strs_one L1 v (List.mem_of_mem_drop hv))
  clear hps hil2 hL hv hA h hi hr hL1 htl
  go_enter Try.func11, Try.ntmps11
  go_wp2_with (first | (go_at_call 19; refine H1.out.mono ?_; rintro e w1 ⟨rfl, M1⟩; clear H1) | (go_at_call 19; refine (H2.out _ (HS.out.below M1.below)).mono ?_; rintro e w2 ⟨rfl, M2⟩; clear H2) | (go_at_call 9; refine (HT.out _ ((HS.out.below M1.below).below M2.below)).mono ?_; rintro e w3 ⟨vs2, rfl, h1, h2, h3⟩; have M3 := Mem.start1 h1.1; obtain ⟨A1, c1, hv1, hc1, hn1, hr1, _⟩ := h1.2.2.2 m L1 hget.out; have hml : m < vs2.length := (List.getElem?_eq_some_iff.1 hv1).1; have HV1 := hid hv1; have HR1 := hid hr1; have HH1 := hid h1; clear hv1 hr1 hn1 h1; have hcell := M3.cell List.mem_cons_self HV1.out) | (refine wpList_slHighM k Try.underlying25 sz9 rfl rfl rfl rfl rfl (by omega) ?_; (conv => arg 5; simp only [Act.put, List.setIfInBounds_toArray, List.set_cons_succ, List.set_cons_zero])) | (refine wpList_appS0 Try.underlying25 i9 rfl (by decide) rfl rfl rfl rfl M3 (HR1.out.take k) ht.out hone1.out (by omega) (by omega) (fun A2 c2 w4 M4 => ?_); clear hcell; (conv => arg 5; simp only [Act.put, List.setIfInBounds_toArray, List.set_cons_succ, List.set_cons_zero])) | (apply wpList_bsT1 41; (· rfl); (· rfl); (· rfl); (· rfl); (· exact M4); intro b41 w5 M5; (conv => arg 5; simp only [Act.put, List.setIfInBounds_toArray, List.set_cons_succ, List.set_cons_zero])) | (refine wpList_appS Try.underlying25 i9 rfl (by decide) rfl rfl rfl rfl M5 (fun A' cap' => Swap.tail Swap.head) (M5.blkT List.mem_cons_self) rfl (strs_one [s]) (by omega) (by omega) (fun A3 c3 w6 M6 => ?_); clear M5; (conv => arg 5; simp only [Act.put, List.setIfInBounds_toArray, List.set_cons_succ, List.set_cons_zero]); have hcell := M6.cell (List.mem_cons_of_mem _ (List.mem_cons_of_mem _ List.mem_cons_self)) HV1.out; have hrow := (HR1.out.memE (M6.sub (List.nil_sublist _)) HH1.out.1 (by decide)).low (c := c1) (low := k) (size := 1) (by rw [strs_length]; omega)) | (refine wpList_slLowM k Try.underlying25 sz9 rfl rfl rfl rfl rfl (by omega) (by omega) ?_; (conv => arg 5; simp only [Act.put, List.setIfInBounds_toArray, List.set_cons_succ, List.set_cons_zero])) | (refine wpList_appS Try.underlying25 i9 rfl (by decide) rfl rfl rfl rfl M6 (fun A' cap' => Swap.tail Swap.head) hrow hd.out hone2.out (by omega) (by omega) (fun A4 c4 w7 M7 => ?_); clear hcell hrow; (conv => arg 5; simp only [Act.put, List.setIfInBounds_toArray, List.set_cons_succ, List.set_cons_zero]); rw [HPS.out, hpl.out] at M7; rw [hpl.out]) | (refine wpList_stG rfl rfl s25 rfl rfl rfl M7 (Swap.tail (Swap.tail Swap.head)) hml (fun w8 M8 hgr => ?_); (conv => arg 5; simp only [Act.put, List.setIfInBounds_toArray, List.set_cons_succ, List.set_cons_zero])))
  go_ret
  have hin : Item.vec A4 ps.length c4 9 1 (strs ps) ∈ [Item.blk b41 (cellsO 9 (strs [s])), Item.vec A4 ps.length c4 9 1 (strs ps), .blk g (cellsO 31 (vs2.set m (.slice A4 ps.length c4)))] := List.mem_cons_of_mem _ List.mem_cons_self
  have hg4 : w8.heap[g]? = some (cellsO 31 (vs2.set m (.slice A4 ps.length c4))) := M8.holds _ (List.mem_cons_of_mem _ (List.mem_cons_of_mem _ List.mem_cons_self))
  have hfin := HH1.out.set hm (by decide) M8.grown1 hg4 (M8.vec_cap hin) (M8.vec_nil hin) (M8.vecT hin) hp40
  rw [List.set_set] at hfin
  exact ActR.after M1 (ActR.after M2 ⟨_, rfl, hfin, h2.trans M8.grown1, h3.trans (FreshV.set (M8.vec_new hin hg4 (by decide))) h2.size⟩)
/-- Two lists that are one. -/
theorem Same13 (A B : Option Addr) (c d : Nat) (ps : List ByteArray) (w : World) (hA : RowT w 9 A (strs ps)) (hB : RowT w 9 B (strs ps)) (hl : ps.length ≤ 1000) :
    Calls Try.prog 13 #[.slice A ps.length c, .slice B ps.length d] w (NilR w (.bool true)) := by
  have M0 := Mem.start w
  go_enter Try.func13, Try.ntmps13
  go_wp2_with fail
  go_loopw [5] (fun n wr => ∃ i : Nat, i ≤ ps.length ∧ n = .int .i64 i ∧ Mem w [] wr []) (fun n _ => ps.length - (intOf n).toNat)
  case atStart => exact ⟨0, by omega, rfl, M0⟩
  case round =>
    obtain ⟨i, hi, rfl, Mi⟩ := hrel
    clear M0
    by_cases hlt : i < ps.length
    · have hltI : (i : Int) < (ps.length : Int) := by omega
      obtain ⟨p, hp⟩ : ∃ p, ps[i]? = some p := ⟨ps[i], List.getElem?_eq_getElem hlt⟩
      obtain ⟨b1, o1, rfl, hc1⟩ := hA.cell (strs_get hp)
      obtain ⟨b2, o2, rfl, hc2⟩ := hB.cell (strs_get hp)
      have HC1 := hid hc1
      have HC2 := hid hc2
      clear hc1 hc2 hp hA hB
      go_wp2_with fail
      refine wp_region_planT (.free 0 (.free 1 (.free 2 (.free 3 (.free 4 (.free 5 (.free 6 (.free 7 (.free 8 (.done)))))))))) (by kernel_rfl) (by kernel_rfl) (fun _ _ _ _ _ h => h) Mi (fun w1 M1 => ?_)
      clear Mi
      iterate 3 (refine wpT_free rfl rfl (.inl ⟨rfl, fun w _ => by go_simp; rfl⟩) (by assumption) ?_; (conv => arg 6; simp only [Act.put, List.setIfInBounds_toArray, List.set_cons_succ, List.set_cons_zero]))
      refine wpT_free rfl rfl (.inl ⟨rfl, fun w hw => run_ld1 Try.underlying9 rfl rfl rfl (hw.cell0 HC1.out)⟩) (by assumption) ?_; (conv => arg 6; simp only [Act.put, List.setIfInBounds_toArray, List.set_cons_succ, List.set_cons_zero])
      iterate 3 (refine wpT_free rfl rfl (.inl ⟨rfl, fun w _ => by go_simp; rfl⟩) (by assumption) ?_; (conv => arg 6; simp only [Act.put, List.setIfInBounds_toArray, List.set_cons_succ, List.set_cons_zero]))
      refine wpT_free rfl rfl (.inl ⟨rfl, fun w hw => run_ld1 Try.underlying9 rfl rfl rfl (hw.cell0 HC2.out)⟩) (by assumption) ?_; (conv => arg 6; simp only [Act.put, List.setIfInBounds_toArray, List.set_cons_succ, List.set_cons_zero])
      (refine wpT_free rfl rfl (.inl ⟨rfl, fun w _ => by go_simp; rfl⟩) (by assumption) ?_; (conv => arg 6; simp only [Act.put, List.setIfInBounds_toArray, List.set_cons_succ, List.set_cons_zero]))
      refine wpT_done ?_
      go_wp2_with fail
      go_roundw
      case rel => exact ⟨i + 1, by omega, by go_num, M1⟩
      case measure => simp [intOf]; omega
    · obtain rfl : i = ps.length := by omega
      go_wp2_with fail
      go_ret
      exact ⟨rfl, Mi⟩
end Go.Proofs.Ytbofobkpplncaaa
