/- Walks of the relay layer: the reference's methods. -/
import Derived.Test.YtbofobkpplncaaaB4
set_option linter.unusedVariables false
set_option linter.unusedSimpArgs false
namespace Go.Proofs.Ytbofobkpplncaaa
open Go.RowKit
theorem Has19_out (g : Nat) (to i : Int) (w : World) (h : to < 0 ∨ 8 ≤ to) : Calls Try.prog 19 #[.pointer (some ⟨g, 0, none⟩), .int .i64 to, .int .i64 i] w (NilR w (.bool false)) := by
  have M0 := Mem.start w
  rcases h with h | h
  · have h2 : decide (0 ≤ to) = false := decide_eq_false (by omega)
    go_enter Try.func19, Try.ntmps19
    go_wp2_with fail
    go_ret
    exact ⟨rfl, M0⟩
  · have h2 : decide (0 ≤ to) = true := decide_eq_true (by omega)
    have h3 : decide (to < 8) = false := decide_eq_false (by omega)
    go_enter Try.func19, Try.ntmps19
    go_wp2_with fail
    go_ret
    exact ⟨rfl, M0⟩
theorem Has19 (g k n c : Nat) (vs : List Value) (A : Option Addr) (i : Int) (w : World) (hk : k < 8) (hg : w.heap[g]? = some (cellsO 31 vs)) (hv : vs[k]? = some (Value.slice A n c)) :
    Calls Try.prog 19 #[.pointer (some ⟨g, 0, none⟩), .int .i64 k, .int .i64 i] w (NilR w (.bool (decide (0 ≤ i ∧ i < n)))) := by
  have M0 := Mem.start w
  have hkI : (k : Int) < 8 := by omega
  have hcell : w.cell? ⟨g, k, none⟩ = some (Value.slice A n c) := RS.cell hg hv
  clear hg hv
  by_cases h0 : 0 ≤ i
  · rw [show decide (0 ≤ i ∧ i < (n : Int)) = decide (i < (n : Int)) from by simp [h0]]
    have h0d : decide (0 ≤ i) = true := decide_eq_true h0
    go_enter Try.func19, Try.ntmps19
    go_wp2_with (apply wpList_wantLd; (· rfl))
    go_ret
    exact ⟨rfl, M0⟩
  · rw [decide_eq_false (fun h => h0 h.1)]
    have h0d : decide (0 ≤ i) = false := decide_eq_false h0
    go_enter Try.func19, Try.ntmps19
    go_wp2_with fail
    go_ret
    exact ⟨rfl, M0⟩
theorem add_block (ad : Addr) (k : Nat) : (ad.add k).block = ad.block := by
  unfold Addr.add
  split <;> rfl
theorem lowA_none {A : Option Addr} {c k size : Nat} (h : A = none → c = 0) : lowA A c k size = none → c - k = 0 := by
  unfold lowA
  split
  · intro hA
    have := h hA
    omega
  · cases A with
    | none => intro _; have := h rfl; omega
    | some a => intro hA; cases hA
theorem lowA_block {A : Option Addr} {c k size n : Nat} (h : ∀ ad, A = some ad → n ≤ ad.block) : ∀ ad, lowA A c k size = some ad → n ≤ ad.block := by
  unfold lowA
  split
  · exact h
  · intro ad hA
    cases A with
    | none => cases hA
    | some a =>
      simp only [Option.map_some, Option.some.injEq] at hA
      rw [← hA, add_block]
      exact h a rfl
theorem Mem.vec_new {w w' : World} {g : Nat} {L : List Item} (M : Mem w [g] w' L) {A : Option Addr} {n cap size : Nat} {t : TypeId} {cs : List Value} (hin : .vec A n cap t size cs ∈ L) {arr : Array Value} {t' : TypeId} {m : Nat × Nat} (h0 : w'.heap[g]? = some (.cells arr t' m)) (ht : t' ≠ t) : ∀ ad, A = some ad → w.heap.size ≤ ad.block := fun ad hA => by
  subst hA
  rcases M.fresh _ hin ad.block rfl with h | h
  · exfalso
    have h1 : ad.block = g := by simpa using h
    have hh : w'.ownsRow 0 t size (.slice (some ad) n cap) n cs := M.holds _ hin
    rcases hh.2 with ⟨h', _⟩ | ⟨b, cap', cur, h', _, hb, _⟩
    · cases h'
    · injection h' with h2 _ _
      injection h2 with h2
      subst h2
      simp only at h1
      subst h1
      rw [h0] at hb
      injection hb with hb
      injection hb with _ hb _
      exact ht hb
  · exact h
set_option maxRecDepth 100000 in
set_option maxHeartbeats 1000000 in
theorem Post8_in (g k : Nat) (s : ByteArray) (Ls : List (List ByteArray)) (vs : List Value) (w : World) (h : RS w g 31 Ls vs) (hk : k < 8) :
    Calls Try.prog 8 #[.pointer (some ⟨g, 0, none⟩), .int .i64 k, .string s] w (ActR w g 31 vs (Ls.set k (postL (Ls.getD k []) s)) (.int .i64 0)) := by
  obtain ⟨L, A, c, hL, hv, hc, hA, hr, h40⟩ := h.at hk
  rw [List.getD_eq_getElem?_getD, hL, Option.getD_some]
  have HS := hid h
  have hcell := RS.cell h.1 hv
  have HR := hid hr
  have M0 := Mem.start1 h.1
  have hkl : k < vs.length := (List.getElem?_eq_some_iff.1 hv).1
  have hkI : ¬ (7 : Int) < (k : Int) := by omega
  have hkI0 : ¬ (k : Int) < 0 := by omega
  have hkI8 : (k : Int) < 8 := by omega
  obtain ⟨ps, hps⟩ : ∃ x, x = L ++ [s] := ⟨_, rfl⟩
  have hpl : ps.length = L.length + 1 := by rw [hps]; simp
  have hpost : postL L s = if 40 < L.length + 1 then ps.drop 1 else ps := by rw [postL, ← hps]
  rw [hpost]
  have HPS := hid (show strs L ++ strs [s] = strs ps from by rw [hps, strs_append])
  have HPL := hid hpl
  clear hps hpl hpost hL hv hA h hr
  by_cases h41 : 40 < L.length + 1
  · rw [if_pos h41]
    obtain ⟨qs, hqs⟩ : ∃ x, x = ps.drop 1 := ⟨_, rfl⟩
    rw [← hqs]
    have hql : qs.length = L.length := by rw [hqs, List.length_drop, HPL.out]; omega
    have HQL := hid hql
    have HQS := hid (show strs qs = (strs ps).drop (1 * 1) from by rw [hqs, strs_drop])
    clear hqs hql
    have h41I : (40 : Int) < (L.length : Int) + 1 := by omega
    go_enter Try.func8, Try.ntmps8
    go_wp2_with (first | (refine wpList_appS0 Try.underlying25 i9 rfl (by decide) rfl rfl rfl rfl M0 (HR.out) (by rw [strs_length, Nat.mul_one]) (strs_one L) (by omega) (by omega) (fun A1 c1 w1 M1 => ?_); clear hcell; (conv => arg 5; simp only [Act.put, List.setIfInBounds_toArray, List.set_cons_succ, List.set_cons_zero])) | (apply wpList_bsT1 24; (· rfl); (· rfl); (· rfl); (· rfl); (· exact M1); intro b24 w2 M2; (conv => arg 5; simp only [Act.put, List.setIfInBounds_toArray, List.set_cons_succ, List.set_cons_zero])) | (refine wpList_appS Try.underlying25 i9 rfl (by decide) rfl rfl rfl rfl M2 (fun A' cap' => Swap.tail Swap.head) (M2.blkT List.mem_cons_self) rfl (strs_one [s]) (by omega) (by omega) (fun A2 c2 w3 M3 => ?_); (conv => arg 5; simp only [Act.put, List.setIfInBounds_toArray, List.set_cons_succ, List.set_cons_zero]); rw [HPS.out] at M3) | (refine wpList_slLowM 1 Try.underlying25 sz9 rfl rfl rfl rfl rfl (by omega) (M3.vec_cap (List.mem_cons_of_mem _ List.mem_cons_self)) ?_; (conv => arg 5; simp only [Act.put, List.setIfInBounds_toArray, List.set_cons_succ, List.set_cons_zero])) | (refine wpList_stG rfl rfl s25 rfl rfl rfl M3 (Swap.tail (Swap.tail Swap.head)) hkl (fun w4 M4 hgr => ?_); (conv => arg 5; simp only [Act.put, List.setIfInBounds_toArray, List.set_cons_succ, List.set_cons_zero])))
    go_ret
    have hin := List.mem_cons_of_mem (.blk b24 (cellsO 9 (strs [s]))) (List.mem_cons_self (a := Item.vec A2 (L.length + 1) c2 9 1 (strs ps)) (l := [.blk g (cellsO 31 (vs.set k (.slice (lowA A2 c2 1 1) (L.length + 1 - 1) (c2 - 1))))]))
    have hg4 : w4.heap[g]? = some (cellsO 31 (vs.set k (.slice (lowA A2 c2 1 1) (L.length + 1 - 1) (c2 - 1)))) := M4.holds _ (List.mem_cons_of_mem _ (List.mem_cons_of_mem _ List.mem_cons_self))
    have hcap := M4.vec_cap hin
    have hrow := (M4.vecT hin).low (c := c2) (low := 1) (size := 1) (by rw [strs_length, HPL.out]; omega)
    rw [← HQS.out] at hrow
    have hnew := M4.vec_new hin hg4 (by decide)
    have hnil := M4.vec_nil hin
    rw [show L.length + 1 - 1 = qs.length from by rw [HQL.out]; omega] at hg4
    exact ⟨_, rfl, HS.out.set hk (by decide) M4.grown1 hg4 (by rw [HQL.out]; omega) (lowA_none hnil) hrow (by rw [HQL.out]; exact h40), M4.grown1, FreshV.set (lowA_block hnew)⟩
  · rw [if_neg h41]
    have h41I : ¬ (40 : Int) < (L.length : Int) + 1 := by omega
    go_enter Try.func8, Try.ntmps8
    go_wp2_with (first | (refine wpList_appS0 Try.underlying25 i9 rfl (by decide) rfl rfl rfl rfl M0 (HR.out) (by rw [strs_length, Nat.mul_one]) (strs_one L) (by omega) (by omega) (fun A1 c1 w1 M1 => ?_); clear hcell; (conv => arg 5; simp only [Act.put, List.setIfInBounds_toArray, List.set_cons_succ, List.set_cons_zero])) | (apply wpList_bsT1 24; (· rfl); (· rfl); (· rfl); (· rfl); (· exact M1); intro b24 w2 M2; (conv => arg 5; simp only [Act.put, List.setIfInBounds_toArray, List.set_cons_succ, List.set_cons_zero])) | (refine wpList_appS Try.underlying25 i9 rfl (by decide) rfl rfl rfl rfl M2 (fun A' cap' => Swap.tail Swap.head) (M2.blkT List.mem_cons_self) rfl (strs_one [s]) (by omega) (by omega) (fun A2 c2 w3 M3 => ?_); (conv => arg 5; simp only [Act.put, List.setIfInBounds_toArray, List.set_cons_succ, List.set_cons_zero]); rw [HPS.out] at M3) | (refine wpList_slLowM 1 Try.underlying25 sz9 rfl rfl rfl rfl rfl (by omega) (M3.vec_cap (List.mem_cons_of_mem _ List.mem_cons_self)) ?_; (conv => arg 5; simp only [Act.put, List.setIfInBounds_toArray, List.set_cons_succ, List.set_cons_zero])) | (refine wpList_stG rfl rfl s25 rfl rfl rfl M3 (Swap.tail (Swap.tail Swap.head)) hkl (fun w4 M4 hgr => ?_); (conv => arg 5; simp only [Act.put, List.setIfInBounds_toArray, List.set_cons_succ, List.set_cons_zero])))
    go_ret
    have hin := List.mem_cons_of_mem (.blk b24 (cellsO 9 (strs [s]))) (List.mem_cons_self (a := Item.vec A2 (L.length + 1) c2 9 1 (strs ps)) (l := [.blk g (cellsO 31 (vs.set k (.slice A2 (L.length + 1) c2)))]))
    have hg4 : w4.heap[g]? = some (cellsO 31 (vs.set k (.slice A2 (L.length + 1) c2))) := M4.holds _ (List.mem_cons_of_mem _ (List.mem_cons_of_mem _ List.mem_cons_self))
    have hcap := M4.vec_cap hin
    have hrow := M4.vecT hin
    have hnew := M4.vec_new hin hg4 (by decide)
    have hnil := M4.vec_nil hin
    rw [← HPL.out] at hg4
    exact ⟨_, rfl, HS.out.set hk (by decide) M4.grown1 hg4 (by rw [HPL.out]; omega) hnil hrow (by rw [HPL.out]; omega), M4.grown1, FreshV.set hnew⟩
theorem Post8_out (g : Nat) (to : Int) (s : ByteArray) (Ls : List (List ByteArray)) (vs : List Value) (w : World) (h : RS w g 31 Ls vs) (hto : to < 0 ∨ 8 ≤ to) :
    Calls Try.prog 8 #[.pointer (some ⟨g, 0, none⟩), .int .i64 to, .string s] w (ActR w g 31 vs Ls (.int .i64 1)) := by
  have HS := hid h
  have M0 := Mem.start w
  clear h
  rcases hto with hto | hto
  · go_enter Try.func8, Try.ntmps8
    go_wp2_with fail
    go_ret
    exact ActR.same HS.out M0
  · have h0 : ¬ to < 0 := by omega
    have h7 : 7 < to := by omega
    clear hto
    go_enter Try.func8, Try.ntmps8
    go_wp2_with fail
    go_ret
    exact ActR.same HS.out M0
set_option maxRecDepth 100000 in
set_option maxHeartbeats 1000000 in
theorem Take9_in (g k i : Nat) (s : ByteArray) (Ls : List (List ByteArray)) (vs : List Value) (w : World) (h : RS w g 31 Ls vs) (hk : k < 8) (hi : (Ls.getD k [])[i]? = some s) :
    Calls Try.prog 9 #[.pointer (some ⟨g, 0, none⟩), .int .i64 k, .int .i64 i] w (ActR w g 31 vs (Ls.set k (takeL (Ls.getD k []) i)) (.tuple #[.string s, .int .i64 0])) := by
  obtain ⟨L, A, c, hL, hv, hc, hA, hr, h40⟩ := h.at hk
  rw [List.getD_eq_getElem?_getD, hL, Option.getD_some] at hi ⊢
  have hil : i < L.length := (List.getElem?_eq_some_iff.1 hi).1
  have HS := hid h
  have HH := hid (Has19 g k L.length c vs A i w hk h.1 hv)
  rw [show decide ((0 : Int) ≤ (i : Int) ∧ (i : Int) < (L.length : Int)) = true from decide_eq_true ⟨by omega, by omega⟩] at HH
  have HR := hid hr
  have HV := hid hv
  have HG := hid h.1
  have hkl : k < vs.length := (List.getElem?_eq_some_iff.1 hv).1
  have hkI8 : (k : Int) < 8 := by omega
  have htl := takeL_length L i hil
  have hilI : (i : Int) < (L.length : Int) := by omega
  obtain ⟨b, off, hAe, hcs⟩ := hr.cell (strs_get hi)
  subst hAe
  have HCS := hid hcs
  obtain ⟨ps, hps⟩ : ∃ x, x = takeL L i := ⟨_, rfl⟩
  rw [← hps] at htl ⊢
  have HPS := hid (show (strs L).take i ++ (strs L).drop ((i + 1) * 1) = strs ps from by rw [hps, takeL, strs_append, strs_take, strs_drop, Nat.mul_one])
  have hpl := hid (show i + (L.length - (i + 1)) = ps.length from by omega)
  have hp40 : ps.length ≤ 40 := by omega
  have hd := hid (show ((strs L).drop ((i + 1) * 1)).length = (L.length - (i + 1)) * 1 from by rw [List.length_drop, strs_length]; omega)
  have ht := hid (show ((strs L).take i).length = i * 1 from by rw [List.length_take, strs_length]; omega)
  have hone1 := hid (fun (v : Value) (hv : v ∈ (strs L).take i) => strs_one L v (List.mem_of_mem_take hv))
  have hone2 := hid (fun (v : Value) (hv : v ∈ (strs L).drop ((i + 1) * 1)) => strs_one L v (List.mem_of_mem_drop hv))
  clear hps htl hL hv hA h hi hcs hr
  go_enter Try.func9, Try.ntmps9
  go_wp2_with (first | (go_at_call 19; refine HH.out.mono ?_; rintro e w1 ⟨rfl, M1⟩; have hs1 := M1.holds; have HS1 := hid (HS.out.below M1.below); have M2 := Mem.start1 HS1.out.1; have hcell := M2.cell List.mem_cons_self HV.out; have hcell2 := M1.cell0 HCS.out) | (refine wpList_slHighM i Try.underlying25 sz9 rfl rfl rfl rfl rfl (by omega) ?_; (conv => arg 5; simp only [Act.put, List.setIfInBounds_toArray, List.set_cons_succ, List.set_cons_zero])) | (refine wpList_appS0 Try.underlying25 i9 rfl (by decide) rfl rfl rfl rfl M2 ((HR.out.below M1.below).take i) ht.out hone1.out (by omega) (by omega) (fun A1 c1 w2 M3 => ?_); clear hcell hcell2; (conv => arg 5; simp only [Act.put, List.setIfInBounds_toArray, List.set_cons_succ, List.set_cons_zero]); have hcell := M3.cell (List.mem_cons_of_mem _ List.mem_cons_self) HV.out; have hrow := ((HR.out.below M1.below).memE (M3.sub (List.nil_sublist _)) HS1.out.1 (by decide)).low (c := c) (low := i + 1) (size := 1) (by rw [strs_length]; omega)) | (refine wpList_slLowM (i + 1) Try.underlying25 sz9 rfl rfl rfl rfl (by omega) (by omega) (by omega) ?_; (conv => arg 5; simp only [Act.put, List.setIfInBounds_toArray, List.set_cons_succ, List.set_cons_zero])) | (refine wpList_appS Try.underlying25 i9 rfl (by decide) rfl rfl rfl rfl M3 (fun A' cap' => Swap.head) hrow hd.out hone2.out (by omega) (by omega) (fun A2 c2 w3 M4 => ?_); clear hcell hrow; (conv => arg 5; simp only [Act.put, List.setIfInBounds_toArray, List.set_cons_succ, List.set_cons_zero]); rw [HPS.out, hpl.out] at M4; rw [hpl.out]) | (refine wpList_stG rfl rfl s25 rfl rfl rfl M4 (Swap.tail Swap.head) hkl (fun w4 M5 hgr => ?_); (conv => arg 5; simp only [Act.put, List.setIfInBounds_toArray, List.set_cons_succ, List.set_cons_zero])))
  go_ret2
  have hin : Item.vec A2 ps.length c2 9 1 (strs ps) ∈ [Item.vec A2 ps.length c2 9 1 (strs ps), .blk g (cellsO 31 (vs.set k (.slice A2 ps.length c2)))] := List.mem_cons_self
  have hg4 : w4.heap[g]? = some (cellsO 31 (vs.set k (.slice A2 ps.length c2))) := M5.holds _ (List.mem_cons_of_mem _ List.mem_cons_self)
  exact ActR.after M1 ⟨_, rfl, HS1.out.set hk (by decide) M5.grown1 hg4 (M5.vec_cap hin) (M5.vec_nil hin) (M5.vecT hin) hp40, M5.grown1, FreshV.set (M5.vec_new hin hg4 (by decide))⟩
theorem Has19_no (g : Nat) (to i : Int) (Ls : List (List ByteArray)) (vs : List Value) (w : World) (h : RS w g 31 Ls vs) (hn : ¬ hasA Ls to i) :
    Calls Try.prog 19 #[.pointer (some ⟨g, 0, none⟩), .int .i64 to, .int .i64 i] w (NilR w (.bool false)) := by
  by_cases hto : 0 ≤ to ∧ to < 8
  · obtain ⟨k, rfl⟩ := Int.eq_ofNat_of_zero_le hto.1
    have hk : k < 8 := by omega
    obtain ⟨L, A, c, hL, hv, hc, hA, hr, h40⟩ := h.at hk
    have hb := Has19 g k L.length c vs A i w hk h.1 hv
    have hf : ¬ (0 ≤ i ∧ i < (L.length : Int)) := fun hh => hn ⟨by omega, by omega, hh.1, by
      rw [Int.toNat_natCast, List.getD_eq_getElem?_getD, hL]
      exact hh.2⟩
    rw [decide_eq_false hf] at hb
    exact hb
  · exact Has19_out g to i w (by omega)
theorem Has19_yes (g k i : Nat) (s : ByteArray) (Ls : List (List ByteArray)) (vs : List Value) (w : World) (h : RS w g 31 Ls vs) (hk : k < 8) (hi : (Ls.getD k [])[i]? = some s) :
    Calls Try.prog 19 #[.pointer (some ⟨g, 0, none⟩), .int .i64 k, .int .i64 i] w (NilR w (.bool true)) := by
  obtain ⟨L, A, c, hL, hv, hc, hA, hr, h40⟩ := h.at hk
  rw [List.getD_eq_getElem?_getD, hL, Option.getD_some] at hi
  have hil : i < L.length := (List.getElem?_eq_some_iff.1 hi).1
  have HH := Has19 g k L.length c vs A i w hk h.1 hv
  rw [show decide ((0 : Int) ≤ (i : Int) ∧ (i : Int) < (L.length : Int)) = true from decide_eq_true ⟨by omega, by omega⟩] at HH
  exact HH
theorem Take9_no (g : Nat) (to i : Int) (Ls : List (List ByteArray)) (vs : List Value) (w : World) (h : RS w g 31 Ls vs) (hn : ¬ hasA Ls to i) :
    Calls Try.prog 9 #[.pointer (some ⟨g, 0, none⟩), .int .i64 to, .int .i64 i] w (ActR w g 31 vs Ls (.tuple #[.string ⟨#[]⟩, .int .i64 22])) := by
  have HS := hid h
  have HB := hid (Has19_no g to i Ls vs w h hn)
  clear hn h
  go_enter Try.func9, Try.ntmps9
  go_wp2_with (go_at_call 19; refine HB.out.mono ?_; rintro e w1 ⟨rfl, M1⟩)
  go_ret2
  exact ActR.same HS.out M1
theorem Double10_no (g : Nat) (to i : Int) (Ls : List (List ByteArray)) (vs : List Value) (w : World) (h : RS w g 31 Ls vs) (hn : ¬ hasA Ls to i) :
    Calls Try.prog 10 #[.pointer (some ⟨g, 0, none⟩), .int .i64 to, .int .i64 i] w (ActR w g 31 vs Ls (.int .i64 22)) := by
  have HS := hid h
  have HB := hid (Has19_no g to i Ls vs w h hn)
  clear hn h
  go_enter Try.func10, Try.ntmps10
  go_wp2_with (go_at_call 19; refine HB.out.mono ?_; rintro e w1 ⟨rfl, M1⟩)
  go_ret
  exact ActR.same HS.out M1
set_option maxRecDepth 100000 in
theorem Double10_in (g k i : Nat) (s : ByteArray) (Ls : List (List ByteArray)) (vs : List Value) (w : World) (h : RS w g 31 Ls vs) (hk : k < 8) (hi : (Ls.getD k [])[i]? = some s) :
    Calls Try.prog 10 #[.pointer (some ⟨g, 0, none⟩), .int .i64 k, .int .i64 i] w (ActR w g 31 vs (Ls.set k (postL (Ls.getD k []) s)) (.int .i64 0)) := by
  have HP := hid (fun w' (h' : RS w' g 31 Ls vs) => Post8_in g k s Ls vs w' h' hk)
  have HB := hid (Has19_yes g k i s Ls vs w h hk hi)
  obtain ⟨L, A, c, hL, hv, hc, hA, hr, h40⟩ := h.at hk
  rw [List.getD_eq_getElem?_getD, hL, Option.getD_some] at hi
  have hil : i < L.length := (List.getElem?_eq_some_iff.1 hi).1
  have HS := hid h
  have HC := hid (RS.cell h.1 hv)
  have hilI : (i : Int) < (L.length : Int) := by omega
  have hkI8 : (k : Int) < 8 := by omega
  obtain ⟨b, off, rfl, hcs⟩ := hr.cell (strs_get hi)
  have HCS := hid hcs
  clear hL hv hA h hi hcs hr
  go_enter Try.func10, Try.ntmps10
  go_wp2_with ((first | (go_at_call 19; refine HB.out.mono ?_; rintro e w1 ⟨rfl, M1⟩; have hcell := M1.cell0 HC.out; have hcell2 := M1.cell0 HCS.out) | (go_at_call 8; refine (HP.out _ (HS.out.below M1.below)).mono ?_; rintro e w3 ⟨vs', rfl, h1, h2, h3⟩; clear hcell hcell2)))
  go_ret
  exact ActR.after M1 ⟨vs', rfl, h1, h2, h3⟩
theorem Move11_no (g : Nat) (to i k : Int) (Ls : List (List ByteArray)) (vs : List Value) (w : World) (h : RS w g 31 Ls vs) (hn : ¬ hasA Ls to i) :
    Calls Try.prog 11 #[.pointer (some ⟨g, 0, none⟩), .int .i64 to, .int .i64 i, .int .i64 k] w (ActR w g 31 vs Ls (.int .i64 22)) := by
  have HS := hid h
  have HB := hid (Has19_no g to i Ls vs w h hn)
  clear hn h
  go_enter Try.func11, Try.ntmps11
  go_wp2_with (go_at_call 19; refine HB.out.mono ?_; rintro e w1 ⟨rfl, M1⟩)
  go_ret
  exact ActR.same HS.out M1
theorem Move11_far (g m i : Nat) (k : Int) (s : ByteArray) (Ls : List (List ByteArray)) (vs : List Value) (w : World) (h : RS w g 31 Ls vs) (hm : m < 8) (hi : (Ls.getD m [])[i]? = some s) (hk : k < 0 ∨ ((Ls.getD m []).length : Int) ≤ k) :
    Calls Try.prog 11 #[.pointer (some ⟨g, 0, none⟩), .int .i64 m, .int .i64 i, .int .i64 k] w (ActR w g 31 vs Ls (.int .i64 1)) := by
  have HS := hid h
  have HB := hid (Has19_yes g m i s Ls vs w h hm hi)
  have HN := hid (fun w' (h' : RS w' g 31 Ls vs) => Has19_no g m k Ls vs w' h' (fun hh => by
    obtain ⟨_, _, h3, h4⟩ := hh
    rw [Int.toNat_natCast] at h4
    omega))
  clear hk hi h
  go_enter Try.func11, Try.ntmps11
  go_wp2_with (go_at_call 19; first | (refine HB.out.mono ?_; rintro e w1 ⟨rfl, M1⟩; clear HB) | (refine (HN.out _ (HS.out.below M1.below)).mono ?_; rintro e w2 ⟨rfl, M2⟩))
  go_ret
  exact ActR.after M1 (ActR.same (HS.out.below M1.below) M2)
end Go.Proofs.Ytbofobkpplncaaa
