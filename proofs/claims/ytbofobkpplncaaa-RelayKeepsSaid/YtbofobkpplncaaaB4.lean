/- Walks of the relay layer: the program's other methods, and what a law does by an act. -/
import Derived.Test.YtbofobkpplncaaaB3
import Derived.Lib.SliceRun
set_option linter.unusedVariables false
set_option linter.unusedSimpArgs false
namespace Go.Proofs.Ytbofobkpplncaaa
open Go.RowKit
theorem ActR.after {w w1 w' : World} {g : Nat} {t : TypeId} {vs : List Value} {Ls : List (List ByteArray)} {v : Value} {e : Ending} {L : List Item} (M : Mem w [] w1 L) (h : ActR w1 g t vs Ls v e w') : ActR w g t vs Ls v e w' := by
  obtain ⟨vs', h1, h2, h3, h4⟩ := h
  exact ⟨vs', h1, h2, (grown_of_mem M _).trans h3, fun i v hv => (h4 i v hv).imp id (fun h A m c e ad hA => Nat.le_trans M.size (h A m c e ad hA))⟩
theorem Drop17_in (g k i : Nat) (s : ByteArray) (Ls : List (List ByteArray)) (vs : List Value) (w : World) (h : RS w g 28 Ls vs) (hk : k < 8) (hi : (Ls.getD k [])[i]? = some s) :
    Calls Try.prog 17 #[.pointer (some ⟨g, 0, none⟩), .int .i64 k, .int .i64 i] w (ActR w g 28 vs (Ls.set k (takeL (Ls.getD k []) i)) (.int .i64 0)) := by
  have HB := hid (Take16_in g k i s Ls vs w h hk hi)
  clear hi h
  go_enter Try.func17, Try.ntmps17
  go_wp2_with (go_at_call 16; refine HB.out.mono ?_; rintro e w1 ⟨vs', rfl, h1, h2, h3⟩)
  go_ret
  exact ⟨vs', rfl, h1, h2, h3⟩
theorem Drop17_no (g : Nat) (to i : Int) (Ls : List (List ByteArray)) (vs : List Value) (w : World) (h : RS w g 28 Ls vs) (hn : ¬ hasA Ls to i) :
    Calls Try.prog 17 #[.pointer (some ⟨g, 0, none⟩), .int .i64 to, .int .i64 i] w (ActR w g 28 vs Ls (.int .i64 22)) := by
  have HB := hid (Take16_no g to i Ls vs w h hn)
  clear hn h
  go_enter Try.func17, Try.ntmps17
  go_wp2_with (go_at_call 16; refine HB.out.mono ?_; rintro e w1 ⟨vs', rfl, h1, h2, h3⟩)
  go_ret
  exact ⟨vs', rfl, h1, h2, h3⟩
theorem Drop17_nil (to i : Int) (w : World) : Calls Try.prog 17 #[.pointer none, .int .i64 to, .int .i64 i] w (NilR w (.int .i64 22)) := by
  have HB := hid (Take16_nil to i w)
  go_enter Try.func17, Try.ntmps17
  go_wp2_with (go_at_call 16; refine HB.out.mono ?_; rintro e w1 ⟨rfl, M1⟩)
  go_ret
  exact ⟨rfl, M1⟩
set_option maxRecDepth 100000 in
theorem Double18_in (g k i : Nat) (s : ByteArray) (Ls : List (List ByteArray)) (vs : List Value) (w : World) (h : RS w g 28 Ls vs) (hk : k < 8) (hi : (Ls.getD k [])[i]? = some s) :
    Calls Try.prog 18 #[.pointer (some ⟨g, 0, none⟩), .int .i64 k, .int .i64 i] w (ActR w g 28 vs (Ls.set k (postL (Ls.getD k []) s)) (.int .i64 0)) := by
  have HP := hid (fun w' (h' : RS w' g 28 Ls vs) => Post14_in g k s Ls vs w' h' hk)
  obtain ⟨L, A, c, hL, hv, hc, hA, hr, h40⟩ := h.at hk
  rw [List.getD_eq_getElem?_getD, hL, Option.getD_some] at hi
  have hil : i < L.length := (List.getElem?_eq_some_iff.1 hi).1
  have HS := hid h
  have HB := hid (fun w' (h' : w'.heap[g]? = some (cellsO 28 vs)) => Box20 g k L.length c 28 vs A i w' hk h' hv)
  rw [show decide ((0 : Int) ≤ (i : Int) ∧ (i : Int) < (L.length : Int)) = true from decide_eq_true ⟨by omega, by omega⟩] at HB
  have HC := hid (RS.cell h.1 hv)
  have hilI : (i : Int) < (L.length : Int) := by omega
  obtain ⟨b, off, rfl, hcs⟩ := hr.cell (strs_get hi)
  have HCS := hid hcs
  clear hL hv hA h hi hcs hr
  go_enter Try.func18, Try.ntmps18
  go_wp2_with ((first | (go_at_call 20; refine (HB.out _ HS.out.1).mono ?_; rintro e w1 ⟨rfl, M1⟩; have hcell := M1.cell0 HC.out; have hcell2 := M1.cell0 HCS.out) | (go_at_call 14; refine (HP.out _ (HS.out.below M1.below)).mono ?_; rintro e w3 ⟨vs', rfl, h1, h2, h3⟩; clear hcell hcell2)))
  go_ret
  exact ActR.after M1 ⟨vs', rfl, h1, h2, h3⟩
theorem Double18_no (g : Nat) (to i : Int) (Ls : List (List ByteArray)) (vs : List Value) (w : World) (h : RS w g 28 Ls vs) (hn : ¬ hasA Ls to i) :
    Calls Try.prog 18 #[.pointer (some ⟨g, 0, none⟩), .int .i64 to, .int .i64 i] w (ActR w g 28 vs Ls (.int .i64 22)) := by
  have HS := hid h
  obtain ⟨v, hb⟩ := Box20_no g to i Ls vs w h hn
  have HB := hid hb
  clear hb hn h
  go_enter Try.func18, Try.ntmps18
  go_wp2_with (go_at_call 20; refine HB.out.mono ?_; rintro e w1 ⟨rfl, M1⟩)
  go_ret
  exact ActR.same HS.out M1
theorem Double18_nil (to i : Int) (w : World) : Calls Try.prog 18 #[.pointer none, .int .i64 to, .int .i64 i] w (NilR w (.int .i64 22)) := by
  have HB := hid (Box20_nil to i w)
  go_enter Try.func18, Try.ntmps18
  go_wp2_with (go_at_call 20; refine HB.out.mono ?_; rintro e w1 ⟨rfl, M1⟩)
  go_ret
  exact ⟨rfl, M1⟩
theorem Move15_no (g : Nat) (to i k : Int) (Ls : List (List ByteArray)) (vs : List Value) (w : World) (h : RS w g 28 Ls vs) (hn : ¬ hasA Ls to i) :
    Calls Try.prog 15 #[.pointer (some ⟨g, 0, none⟩), .int .i64 to, .int .i64 i, .int .i64 k] w (ActR w g 28 vs Ls (.int .i64 22)) := by
  have HS := hid h
  obtain ⟨v, hb⟩ := Box20_no g to i Ls vs w h hn
  have HB := hid hb
  clear hb hn h
  go_enter Try.func15, Try.ntmps15
  go_wp2_with (go_at_call 20; refine HB.out.mono ?_; rintro e w1 ⟨rfl, M1⟩)
  go_ret
  exact ActR.same HS.out M1
theorem Move15_nil (to i k : Int) (w : World) : Calls Try.prog 15 #[.pointer none, .int .i64 to, .int .i64 i, .int .i64 k] w (NilR w (.int .i64 22)) := by
  have HB := hid (Box20_nil to i w)
  go_enter Try.func15, Try.ntmps15
  go_wp2_with (go_at_call 20; refine HB.out.mono ?_; rintro e w1 ⟨rfl, M1⟩)
  go_ret
  exact ⟨rfl, M1⟩
set_option maxRecDepth 100000 in
theorem Move15_far (g m i : Nat) (k : Int) (s : ByteArray) (Ls : List (List ByteArray)) (vs : List Value) (w : World) (h : RS w g 28 Ls vs) (hm : m < 8) (hi : (Ls.getD m [])[i]? = some s) (hk : k < 0 ∨ ((Ls.getD m []).length : Int) ≤ k) :
    Calls Try.prog 15 #[.pointer (some ⟨g, 0, none⟩), .int .i64 m, .int .i64 i, .int .i64 k] w (ActR w g 28 vs Ls (.int .i64 1)) := by
  obtain ⟨L, A, c, hL, hv, hc, hA, hr, h40⟩ := h.at hm
  rw [List.getD_eq_getElem?_getD, hL, Option.getD_some] at hi hk
  have hil : i < L.length := (List.getElem?_eq_some_iff.1 hi).1
  have HS := hid h
  have HB := hid (fun w' (h' : w'.heap[g]? = some (cellsO 28 vs)) => Box20 g m L.length c 28 vs A i w' hm h' hv)
  rw [show decide ((0 : Int) ≤ (i : Int) ∧ (i : Int) < (L.length : Int)) = true from decide_eq_true ⟨by omega, by omega⟩] at HB
  have HC := hid (RS.cell h.1 hv)
  clear hL hv hA h hi hr
  rcases hk with hk | hk
  · go_enter Try.func15, Try.ntmps15
    go_wp2_with ((first | (go_at_call 20; refine (HB.out _ HS.out.1).mono ?_; rintro e w1 ⟨rfl, M1⟩; have hcell := M1.cell0 HC.out)))
    go_ret
    exact ActR.same HS.out M1
  · have hk0 : ¬ k < 0 := by omega
    go_enter Try.func15, Try.ntmps15
    go_wp2_with ((first | (go_at_call 20; refine (HB.out _ HS.out.1).mono ?_; rintro e w1 ⟨rfl, M1⟩; have hcell := M1.cell0 HC.out) | (apply wpList_wantLd; (· rfl))))
    go_ret
    exact ActR.same HS.out M1
set_option maxRecDepth 100000 in
set_option maxHeartbeats 1000000 in
theorem Move15_in (g m i k : Nat) (s : ByteArray) (Ls : List (List ByteArray)) (vs : List Value) (w : World) (h : RS w g 28 Ls vs) (hm : m < 8) (hi : (Ls.getD m [])[i]? = some s) (hk : k < (Ls.getD m []).length) :
    Calls Try.prog 15 #[.pointer (some ⟨g, 0, none⟩), .int .i64 m, .int .i64 i, .int .i64 k] w (ActR w g 28 vs (Ls.set m (insL (takeL (Ls.getD m []) i) k s)) (.int .i64 0)) := by
  have HT := hid (fun w' (h' : RS w' g 28 Ls vs) => Take16_in g m i s Ls vs w' h' hm hi)
  obtain ⟨L, A, c, hL, hv, hc, hA, hr, h40⟩ := h.at hm
  rw [List.getD_eq_getElem?_getD, hL, Option.getD_some] at hi hk HT ⊢
  have hil : i < L.length := (List.getElem?_eq_some_iff.1 hi).1
  have htl := takeL_length L i hil
  have HS := hid h
  have HB := hid (fun w' (h' : w'.heap[g]? = some (cellsO 28 vs)) => Box20 g m L.length c 28 vs A i w' hm h' hv)
  rw [show decide ((0 : Int) ≤ (i : Int) ∧ (i : Int) < (L.length : Int)) = true from decide_eq_true ⟨by omega, by omega⟩] at HB
  have HC := hid (RS.cell h.1 hv)
  have hkI : ¬ (L.length : Int) ≤ (k : Int) := by omega
  obtain ⟨L1, hL1⟩ : ∃ x, x = takeL L i := ⟨_, rfl⟩
  rw [← hL1] at HT htl ⊢
  have hll : m < Ls.length := by rw [h.2.2.1]; exact hm
  have hget := hid (show (Ls.set m L1)[m]? = some L1 from List.getElem?_set_self hll)
  have hkl : k ≤ L1.length := by omega
  have hL1l : L1.length ≤ 39 := by omega
  have hil2 := insL_length L1 k s hkl
  clear hL hv hA h hi hr hL1 htl
  go_enter Try.func15, Try.ntmps15
  go_wp2_with ((first | (go_at_call 20; refine (HB.out _ HS.out.1).mono ?_; rintro e w1 ⟨rfl, M1⟩; have hcell := M1.cell0 HC.out) | (apply wpList_wantLd; (· rfl)) | (go_at_call 16; refine (HT.out _ (HS.out.below M1.below)).mono ?_; rintro e w2 ⟨vs2, rfl, h1, h2, h3⟩; clear hcell) | (apply wpList_bsT1 44; (· rfl); (· rfl); (· rfl); (· rfl); (· exact Mem.start _); intro b44 w3 M3; (conv => arg 5; simp only [Act.put, List.setIfInBounds_toArray, List.set_cons_succ, List.set_cons_zero]))))
  obtain ⟨A1, c1, hv1, hc1, hn1, hr1, _⟩ := h1.2.2.2 m L1 hget.out
  refine (Turn22 g m 28 vs2 A1 (some ⟨b44, 0, none⟩) c1 1 k 0 L1 [s] _ (h1.below M3.below).1 (by decide) hv1 hc1 (hr1.below M3.below) (M3.blkT List.mem_cons_self) (by omega) (by omega) (by simp)).mono ?_
  rintro e w4 ⟨A', c', rfl, hg', hc', hn', hr', hgr, hf⟩
  have e1 : L1.take k ++ ([s] ++ L1.drop (k + 0)) = insL L1 k s := by simp [insL]
  rw [e1] at hg' hc' hr'
  go_wp2_with fail
  go_ret
  have hfin := (h1.below M3.below).set hm (by decide) hgr hg' hc' hn' hr' (by omega)
  rw [List.set_set] at hfin
  have hsz := h2.size
  exact ActR.after M1 ⟨_, rfl, hfin, h2.trans ((grown_of_mem M3 _).trans hgr), h3.trans (FreshV.set hf) (Nat.le_trans hsz M3.size)⟩
/-! ### Mail -/
theorem RowT.none_nil {w : World} {t : TypeId} {cs : List Value} (h : RowT w t none cs) : cs = [] := by
  cases cs with
  | nil => rfl
  | cons v cs =>
    obtain ⟨b, off, arr, m, hA, _⟩ := h 0 v rfl
    cases hA
theorem Clone21 (A : Option Addr) (c : Nat) (L : List ByteArray) (w : World) (hr : RowT w 9 A (strs L)) (hn : A = none → c = 0) (hl : L.length ≤ 1000) :
    Calls Try.prog 21 #[.slice A L.length c] w (CatR w L) := by
  have M0 := Mem.start w
  cases A with
  | none =>
    obtain rfl := hn rfl
    have hL : L = [] := by
      have := hr.none_nil
      simpa [strs] using this
    subst hL
    clear hn hr
    show Calls Try.prog 21 #[.slice none 0 0] w (CatR w [])
    have heq : ∀ w' : World, (binOp .eql 25 (.slice none 0 0) (.slice none 0 0)).run Try.prog w' = .ok (.bool true) w' := fun w' => Lib.run_eql_slice_nil w' 25 9 none 0 0 0 0 Try.underlying25
    go_enter Try.func21, Try.ntmps21
    go_wp2_with fail
    go_ret
    exact (M0.nil 9 1).catR (ps := []) List.mem_cons_self
  | some ad =>
    have HR := hid hr
    clear hn hr
    have heq : ∀ w' : World, (binOp .eql 25 (.slice (some ad) L.length c) (.slice none 0 0)).run Try.prog w' = .ok (.bool false) w' := fun w' => Lib.run_eql_slice_nil w' 25 9 (some ad) L.length c 0 0 Try.underlying25
    go_enter Try.func21, Try.ntmps21
    go_wp2_with (first | (apply wpList_bs0 Try.underlying25 iz9 5; (· rfl); (· rfl); (· rfl); (· exact M0); intro b5 w1 M1; (conv => arg 5; simp only [Act.put, List.setIfInBounds_toArray, List.set_cons_succ, List.set_cons_zero])) | (refine wpList_appS Try.underlying25 i9 rfl (by decide) rfl rfl rfl rfl M1 (fun A' cap' => Swap.head) (HR.out.mem M1) (by rw [strs_length, Nat.mul_one]) (strs_one L) (by omega) (by omega) (fun A' cap' w2 M2 => ?_); (conv => arg 5; simp only [Act.put, List.setIfInBounds_toArray, List.set_cons_succ, List.set_cons_zero])))
    simp only [Nat.zero_add, List.nil_append] at M2 ⊢
    go_wp2_with fail
    go_ret
    exact M2.catR List.mem_cons_self
def MailR (w : World) (L : List ByteArray) (e : Ending) (w' : World) : Prop := CatR w L e w'
theorem Mail12_in (g k : Nat) (Ls : List (List ByteArray)) (vs : List Value) (w : World) (h : RS w g 28 Ls vs) (hk : k < 8) :
    Calls Try.prog 12 #[.pointer (some ⟨g, 0, none⟩), .int .i64 k] w (MailR w (Ls.getD k [])) := by
  obtain ⟨L, A, c, hL, hv, hc, hA, hr, h40⟩ := h.at hk
  rw [List.getD_eq_getElem?_getD, hL, Option.getD_some]
  have HB := hid (Box20 g k L.length c 28 vs A 0 w hk h.1 hv)
  have HC := hid (RS.cell h.1 hv)
  have HL := hid (fun w' (M : Mem w [] w' []) => Clone21 A c L w' (hr.mem M) hA (by omega))
  clear hL hv hA h hr
  go_enter Try.func12, Try.ntmps12
  go_wp2_with ((first | (go_at_call 20; refine HB.out.mono ?_; rintro e w1 ⟨rfl, M1⟩; have hcell := M1.cell0 HC.out) | (go_at_call 21; refine (HL.out _ M1).mono ?_; rintro e w2 ⟨A2, c2, rfl, h1, h2, h3, h4, h5⟩; clear hcell)))
  go_ret
  exact ⟨A2, c2, rfl, h1, h2, h3, (M1.call h4).below, fun ad hA => Nat.le_trans M1.size (h5 ad hA)⟩
theorem Mail12_out (p : Option Addr) (to : Int) (w : World) (h : to < 0 ∨ 8 ≤ to) : Calls Try.prog 12 #[.pointer p, .int .i64 to] w (MailR w []) := by
  have HB := hid (Box20_out p to 0 w h)
  clear h
  go_enter Try.func12, Try.ntmps12
  go_wp2_with (go_at_call 20; refine HB.out.mono ?_; rintro e w1 ⟨rfl, M1⟩)
  go_ret
  exact (M1.nil 9 1).catR (ps := []) List.mem_cons_self
theorem Mail12_nil (to : Int) (w : World) : Calls Try.prog 12 #[.pointer none, .int .i64 to] w (MailR w []) := by
  have HB := hid (Box20_nil to 0 w)
  go_enter Try.func12, Try.ntmps12
  go_wp2_with (go_at_call 20; refine HB.out.mono ?_; rintro e w1 ⟨rfl, M1⟩)
  go_ret
  exact (M1.nil 9 1).catR (ps := []) List.mem_cons_self
end Go.Proofs.Ytbofobkpplncaaa
