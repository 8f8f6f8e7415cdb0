/- Walks of the relay layer: the program's methods. -/
import Derived.Test.YtbofobkpplncaaaB2
set_option linter.unusedVariables false
set_option linter.unusedSimpArgs false
namespace Go.Proofs.Ytbofobkpplncaaa
open Go.RowKit
/-! ### What is done to a list -/
def postL (L : List ByteArray) (s : ByteArray) : List ByteArray := if 40 < L.length + 1 then (L ++ [s]).drop 1 else L ++ [s]
def takeL (L : List ByteArray) (i : Nat) : List ByteArray := L.take i ++ L.drop (i + 1)
def insL (L : List ByteArray) (k : Nat) (s : ByteArray) : List ByteArray := L.take k ++ (s :: L.drop k)
theorem postL_length (L : List ByteArray) (s : ByteArray) (h : L.length ≤ 40) : (postL L s).length ≤ 40 := by
  unfold postL
  split <;> simp <;> omega
theorem takeL_length (L : List ByteArray) (i : Nat) (h : i < L.length) : (takeL L i).length = L.length - 1 := by
  unfold takeL
  simp
  omega
theorem insL_length (L : List ByteArray) (k : Nat) (s : ByteArray) (h : k ≤ L.length) : (insL L k s).length = L.length + 1 := by
  unfold insL
  simp
  omega
def FreshV (n : Nat) (vs vs' : List Value) : Prop := ∀ (i : Nat) (v : Value), vs'[i]? = some v → vs[i]? = some v ∨ ∀ A m c, v = .slice A m c → ∀ ad : Addr, A = some ad → n ≤ ad.block
theorem FreshV.refl (n : Nat) (vs : List Value) : FreshV n vs vs := fun i v h => .inl h
theorem FreshV.trans {n m : Nat} {a b c : List Value} (h1 : FreshV n a b) (h2 : FreshV m b c) (h : n ≤ m) : FreshV n a c := fun i v hv => by
  rcases h2 i v hv with h3 | h3
  · exact h1 i v h3
  · exact .inr fun A q cc e ad hA => Nat.le_trans h (h3 A q cc e ad hA)
theorem FreshV.set {n : Nat} {vs : List Value} {k m c : Nat} {A : Option Addr} (hf : ∀ ad, A = some ad → n ≤ ad.block) : FreshV n vs (vs.set k (.slice A m c)) := fun i v hv => by
  by_cases hik : k = i
  · subst hik
    rw [List.getElem?_set] at hv
    simp only [if_true] at hv
    split at hv
    · injection hv with hv
      subst hv
      refine .inr fun A' m' c' e ad hA => ?_
      injection e with e1 _ _
      subst e1
      exact hf ad hA
    · cases hv
  · rw [List.getElem?_set_ne hik] at hv
    exact .inl hv
/-- A method of a relay came back. -/
def ActR (w : World) (g : Nat) (t : TypeId) (vs : List Value) (Ls' : List (List ByteArray)) (v : Value) (e : Ending) (w' : World) : Prop :=
  ∃ vs', e = .returned v ∧ RS w' g t Ls' vs' ∧ w.grownBy w' (some g) ∧ FreshV w.heap.size vs vs'
theorem grown_of_mem {w w' : World} {L : List Item} (M : Mem w [] w' L) (row : Option Nat) : w.grownBy w' row := grown_of_below M.below row
theorem ActR.same {w w' : World} {g : Nat} {t : TypeId} {vs : List Value} {Ls : List (List ByteArray)} {v : Value} {L : List Item} (h : RS w g t Ls vs) (M : Mem w [] w' L) : ActR w g t vs Ls v (.returned v) w' :=
  ⟨vs, rfl, h.below M.below, grown_of_mem M _, FreshV.refl _ _⟩
theorem RS.cell {w : World} {g k : Nat} {t : TypeId} {vs : List Value} {v : Value} (hg : w.heap[g]? = some (cellsO t vs)) (hv : vs[k]? = some v) : w.cell? ⟨g, k, none⟩ = some v := by
  rw [cell_of_row w g k vs.toArray t (0, 0) hg]
  simpa using hv
set_option maxRecDepth 100000 in
set_option maxHeartbeats 1000000 in
theorem Post14_in (g k : Nat) (s : ByteArray) (Ls : List (List ByteArray)) (vs : List Value) (w : World) (h : RS w g 28 Ls vs) (hk : k < 8) :
    Calls Try.prog 14 #[.pointer (some ⟨g, 0, none⟩), .int .i64 k, .string s] w (ActR w g 28 vs (Ls.set k (postL (Ls.getD k []) s)) (.int .i64 0)) := by
  obtain ⟨L, A, c, hL, hv, hc, hA, hr, h40⟩ := h.at hk
  rw [List.getD_eq_getElem?_getD, hL, Option.getD_some]
  have HS := hid h
  have HB := hid (fun w' (h' : w'.heap[g]? = some (cellsO 28 vs)) => Box20 g k L.length c 28 vs A 0 w' hk h' hv)
  have HC := hid (RS.cell h.1 hv)
  have HT := hid (fun b w' (M : Mem w [] w' [.blk b (cellsO 9 (strs [s]))]) => Turn22 g k 28 vs A (some ⟨b, 0, none⟩) c 1 L.length 0 L [s] w' (h.below M.below).1 (by decide) hv hc (hr.below M.below) (M.blkT List.mem_cons_self) (by omega) (by omega) (by simp))
  rw [show L.take L.length ++ ([s] ++ L.drop (L.length + 0)) = L ++ [s] from by simp, show [s].length = 1 from rfl] at HT
  have HVK := hid (show k < vs.length from (List.getElem?_eq_some_iff.1 hv).1)
  obtain ⟨ps, hps⟩ : ∃ x, x = L ++ [s] := ⟨_, rfl⟩
  have hpl : ps.length = L.length + 1 := by rw [hps]; simp
  have hpost : postL L s = if 40 < L.length + 1 then ps.drop 1 else ps := by rw [postL, ← hps]
  rw [← hps] at HT
  rw [hpost]
  have HPL := hid hpl
  clear hps hpl hpost hL hv hA h
  by_cases h41 : 40 < L.length + 1
  · rw [if_pos h41]
    have h41p : 40 < ps.length := by rw [HPL.out]; exact h41
    have hps41 : ps.length ≤ 41 := by rw [HPL.out]; omega
    have HT2 := hid (fun (A' : Option Addr) (c' : Nat) w' (hg : w'.heap[g]? = some (cellsO 28 (vs.set k (.slice A' ps.length c')))) (hc : ps.length ≤ c') (hr : RowT w' 9 A' (strs ps)) =>
      Turn22 g k 28 (vs.set k (.slice A' ps.length c')) A' none c' 0 0 1 ps [] w' hg (by decide) (List.getElem?_set_self HVK.out) hc hr RowT.nil (by omega) (by omega) (by simp))
    rw [show ps.take 0 ++ ([] ++ ps.drop (0 + 1)) = ps.drop 1 from by simp] at HT2
    have hdl : (ps.drop 1).length ≤ 40 := by simp; omega
    go_enter Try.func14, Try.ntmps14
    go_wp2_with ((first | (go_at_call 20; refine (HB.out _ HS.out.1).mono ?_; rintro e w1 ⟨rfl, M1⟩; have hcell := M1.cell0 HC.out) | (apply wpList_bsT1 23; (· rfl); (· rfl); (· rfl); (· rfl); (· exact M1); intro b23 w' M2; (conv => arg 5; simp only [Act.put, List.setIfInBounds_toArray, List.set_cons_succ, List.set_cons_zero])) | (go_at_call 22; refine (HT.out _ _ M2).mono ?_; rintro e w3 ⟨A', c', rfl, hg', hc', hn', hr', hgr, hf⟩; clear hcell HT; have hcell := RS.cell hg' (List.getElem?_set_self HVK.out))))
    clear hcell
    refine (HT2.out _ _ _ hg' hc' hr').mono ?_
    rintro e w4 ⟨A2, c2, rfl, hg2, hc2, hn2, hr2, hgr2, hf2⟩
    rw [List.set_set] at hg2
    go_wp2_with fail
    go_ret
    have hgg := hgr.trans hgr2
    refine ⟨_, rfl, (HS.out.below M2.below).set hk (by decide) hgg hg2 hc2 hn2 hr2 hdl, (grown_of_mem M2 _).trans hgg, FreshV.set fun ad h => Nat.le_trans (Nat.le_trans M2.size hgr.size) (hf2 ad h)⟩
  · rw [if_neg h41]
    have h41p : ¬ 40 < ps.length := by rw [HPL.out]; exact h41
    go_enter Try.func14, Try.ntmps14
    go_wp2_with ((first | (go_at_call 20; refine (HB.out _ HS.out.1).mono ?_; rintro e w1 ⟨rfl, M1⟩; have hcell := M1.cell0 HC.out) | (apply wpList_bsT1 23; (· rfl); (· rfl); (· rfl); (· rfl); (· exact M1); intro b23 w' M2; (conv => arg 5; simp only [Act.put, List.setIfInBounds_toArray, List.set_cons_succ, List.set_cons_zero])) | (go_at_call 22; refine (HT.out _ _ M2).mono ?_; rintro e w3 ⟨A', c', rfl, hg', hc', hn', hr', hgr, hf⟩; clear hcell HT; have hcell := RS.cell hg' (List.getElem?_set_self HVK.out))))
    go_ret
    exact ⟨_, rfl, (HS.out.below M2.below).set hk (by decide) hgr hg' hc' hn' hr' (by rw [HPL.out]; omega), (grown_of_mem M2 _).trans hgr, FreshV.set fun ad h => Nat.le_trans M2.size (hf ad h)⟩
/-- No member, or no relay. -/
theorem Post14_out (g : Nat) (to : Int) (s : ByteArray) (Ls : List (List ByteArray)) (vs : List Value) (w : World) (h : RS w g 28 Ls vs) (hto : to < 0 ∨ 8 ≤ to) :
    Calls Try.prog 14 #[.pointer (some ⟨g, 0, none⟩), .int .i64 to, .string s] w (ActR w g 28 vs Ls (.int .i64 1)) := by
  have HS := hid h
  have HB := hid (fun w' => Box20_out (some ⟨g, 0, none⟩) to 0 w' hto)
  clear hto h
  go_enter Try.func14, Try.ntmps14
  go_wp2_with (go_at_call 20; refine (HB.out _).mono ?_; rintro e w1 ⟨rfl, M1⟩)
  go_ret
  exact ActR.same HS.out M1
def NilR (w : World) (v : Value) (e : Ending) (w' : World) : Prop := e = .returned v ∧ Mem w [] w' []
theorem Post14_nil (to : Int) (s : ByteArray) (w : World) : Calls Try.prog 14 #[.pointer none, .int .i64 to, .string s] w (NilR w (.int .i64 1)) := by
  have HB := hid (fun w' => Box20_nil to 0 w')
  go_enter Try.func14, Try.ntmps14
  go_wp2_with (go_at_call 20; refine (HB.out _).mono ?_; rintro e w1 ⟨rfl, M1⟩)
  go_ret
  exact ⟨rfl, M1⟩
/-! ### Take -/
def hasA (Ls : List (List ByteArray)) (to i : Int) : Prop := 0 ≤ to ∧ to < 8 ∧ 0 ≤ i ∧ i < ((Ls.getD to.toNat []).length : Nat)
set_option maxRecDepth 100000 in
theorem Take16_in (g k i : Nat) (s : ByteArray) (Ls : List (List ByteArray)) (vs : List Value) (w : World) (h : RS w g 28 Ls vs) (hk : k < 8) (hi : (Ls.getD k [])[i]? = some s) :
    Calls Try.prog 16 #[.pointer (some ⟨g, 0, none⟩), .int .i64 k, .int .i64 i] w (ActR w g 28 vs (Ls.set k (takeL (Ls.getD k []) i)) (.tuple #[.string s, .int .i64 0])) := by
  obtain ⟨L, A, c, hL, hv, hc, hA, hr, h40⟩ := h.at hk
  rw [List.getD_eq_getElem?_getD, hL, Option.getD_some] at hi ⊢
  have hil : i < L.length := (List.getElem?_eq_some_iff.1 hi).1
  have HS := hid h
  have HB := hid (fun w' (h' : w'.heap[g]? = some (cellsO 28 vs)) => Box20 g k L.length c 28 vs A i w' hk h' hv)
  rw [show decide ((0 : Int) ≤ (i : Int) ∧ (i : Int) < (L.length : Int)) = true from decide_eq_true ⟨by omega, by omega⟩] at HB
  have HC := hid (RS.cell h.1 hv)
  have HT := hid (fun w' (M : Mem w [] w' []) => Turn22 g k 28 vs A none c 0 i 1 L [] w' (h.below M.below).1 (by decide) hv hc (hr.below M.below) RowT.nil (by omega) (by omega) (by simp))
  rw [show L.take i ++ ([] ++ L.drop (i + 1)) = takeL L i from by simp [takeL], show ([] : List ByteArray).length = 0 from rfl] at HT
  have htl := takeL_length L i hil
  obtain ⟨ps, hps⟩ : ∃ x, x = takeL L i := ⟨_, rfl⟩
  rw [← hps] at HT htl ⊢
  have hp40 : ps.length ≤ 40 := by omega
  have hilI : (i : Int) < (L.length : Int) := by omega
  obtain ⟨b, off, rfl, hcs⟩ := hr.cell (strs_get hi)
  have HCS := hid hcs
  clear hps htl hL hv hA h hi hcs hr
  go_enter Try.func16, Try.ntmps16
  go_wp2_with ((first | (go_at_call 20; refine (HB.out _ HS.out.1).mono ?_; rintro e w1 ⟨rfl, M1⟩; have hcell := M1.cell0 HC.out; have hcell2 := M1.cell0 HCS.out) | (go_at_call 22; refine (HT.out _ M1).mono ?_; rintro e w3 ⟨A', c', rfl, hg', hc', hn', hr', hgr, hf⟩; clear hcell hcell2)))
  go_ret2
  exact ⟨_, rfl, (HS.out.below M1.below).set hk (by decide) hgr hg' hc' hn' hr' hp40, (grown_of_mem M1 _).trans hgr, FreshV.set fun ad h => Nat.le_trans M1.size (hf ad h)⟩
/-- The box is not there. -/
theorem Box20_no (g : Nat) (to i : Int) (Ls : List (List ByteArray)) (vs : List Value) (w : World) (h : RS w g 28 Ls vs) (hn : ¬ hasA Ls to i) :
    ∃ v, Calls Try.prog 20 #[.pointer (some ⟨g, 0, none⟩), .int .i64 to, .int .i64 i] w (BoxR w v false) := by
  by_cases hto : 0 ≤ to ∧ to < 8
  · obtain ⟨k, rfl⟩ := Int.eq_ofNat_of_zero_le hto.1
    have hk : k < 8 := by omega
    obtain ⟨L, A, c, hL, hv, hc, hA, hr, h40⟩ := h.at hk
    have hb := Box20 g k L.length c 28 vs A i w hk h.1 hv
    have hf : ¬ (0 ≤ i ∧ i < (L.length : Int)) := fun hh => hn ⟨by omega, by omega, hh.1, by
      rw [Int.toNat_natCast, List.getD_eq_getElem?_getD, hL]
      exact hh.2⟩
    rw [decide_eq_false hf] at hb
    exact ⟨_, hb⟩
  · exact ⟨_, Box20_out _ to i w (by omega)⟩
theorem Take16_no (g : Nat) (to i : Int) (Ls : List (List ByteArray)) (vs : List Value) (w : World) (h : RS w g 28 Ls vs) (hn : ¬ hasA Ls to i) :
    Calls Try.prog 16 #[.pointer (some ⟨g, 0, none⟩), .int .i64 to, .int .i64 i] w (ActR w g 28 vs Ls (.tuple #[.string ⟨#[]⟩, .int .i64 22])) := by
  have HS := hid h
  obtain ⟨v, hb⟩ := Box20_no g to i Ls vs w h hn
  have HB := hid hb
  clear hb hn h
  go_enter Try.func16, Try.ntmps16
  go_wp2_with (go_at_call 20; refine HB.out.mono ?_; rintro e w1 ⟨rfl, M1⟩)
  go_ret2
  exact ActR.same HS.out M1
theorem Take16_nil (to i : Int) (w : World) : Calls Try.prog 16 #[.pointer none, .int .i64 to, .int .i64 i] w (NilR w (.tuple #[.string ⟨#[]⟩, .int .i64 22])) := by
  have HB := hid (fun w' => Box20_nil to i w')
  go_enter Try.func16, Try.ntmps16
  go_wp2_with (go_at_call 20; refine (HB.out _).mono ?_; rintro e w1 ⟨rfl, M1⟩)
  go_ret2
  exact ⟨rfl, M1⟩
end Go.Proofs.Ytbofobkpplncaaa
