/- Walks of the reference of the onetime layer: Rest. -/
import Derived.Test.YtcjfpcajjhccaaaR5
import Derived.Laws.OwnMore
import Derived.Deep.LoopGhost
set_option linter.unusedVariables false
set_option linter.unusedSimpArgs false
namespace Go.Proofs.Ytcjfpcajjhccaaa
open Go.RowKit
section
variable {P : Program} {ops : Array Oper} {rest : List Oper} {o : Oper} {a : Act} {w w0 : World} {Q : Exit → Act → World → Prop} {E : List Nat} {L L' : List Item}
/-- A number of the call's own slice is written. -/
theorem wpList_stV {ty : TypeId} (hsz : (P.info? ty).map (·.size) = some 1) (hgd : o.guard = none) {x y : Operand} (ho : o.op = .store ty x y) {g i : Nat} (hx : a.eval x = .pointer (some ⟨g, i, none⟩))
    {k : IntKind} {v : Int} (hy : a.eval y = .int k v) (M : Mem w0 E w L) {n cap : Nat} {t : TypeId} {xs : List Int} (hs : Swap (.vec (some ⟨g, 0, none⟩) n cap t 1 (nums k xs)) (.vec (some ⟨g, 0, none⟩) n cap t 1 (nums k (xs.set i v))) L L') (hi : i < xs.length)
    (h : ∀ w', Mem w0 E w' L' → wpList P ops Q rest (a.put o.dst undef) w') : wpList P ops Q (o :: rest) a w := by
  have hown : w.ownsRow 0 t 1 (.slice (some ⟨g, 0, none⟩) n cap) n (nums k xs) := M.holds _ hs.mem
  have hn : n = xs.length := by have := hown.1; rw [nums_length] at this; omega
  have hc : w.cell? ⟨g, i, none⟩ = some (.int k (rd xs i)) := by rw [hown.cellAt i (by omega), nums_get k xs i hi]
  obtain ⟨h1, h2⟩ := hown.stored i (.int k v)
  rw [nums_set] at h1
  exact wpList_st hgd ho hsz hx hy rfl hc (hown.frozenAt i) (h _ (M.swap hs h2 (.inr rfl) h1 (fun b hb => .inl hb)))
end
/-- A slice that the call hands out, made by it or handed in. -/
def Got (k : IntKind) (w : World) (R : List Int → Prop) (e : Ending) (w' : World) : Prop :=
  ∃ Z cap zs, e = .returned (.slice Z (List.length zs) cap) ∧ Below w.heap.size w w' ∧ RowR k w' Z zs ∧ R zs
def hiL : List Int → List Int
  | [] => []
  | d :: ds => (d / 4 + rd ds 0 % 4 * 64) :: hiL ds
theorem hiL_length (ds : List Int) : (hiL ds).length = ds.length := by
  induction ds with
  | nil => rfl
  | cons d ds ih => simp [hiL, ih]
theorem hiL_rd (ds : List Int) (j : Nat) (h : j < ds.length) : rd (hiL ds) j = rd ds j / 4 + rd ds (j + 1) % 4 * 64 := by
  induction ds generalizing j with
  | nil => simp at h
  | cons d ds ih =>
    cases j with
    | zero => rfl
    | succ j =>
      have := ih j (by simpa using h)
      simpa [rd, hiL] using this
theorem dv_mod4 (ds : List Int) : dv 256 ds % 4 = rd ds 0 % 4 := by
  cases ds with
  | nil => rfl
  | cons d ds =>
    have : rd (d :: ds) 0 = d := rfl
    rw [dv, this]
    omega
theorem dv_hiL (ds : List Int) : dv 256 (hiL ds) = dv 256 ds / 4 := by
  induction ds with
  | nil => rfl
  | cons d ds ih =>
    have := dv_mod4 ds
    rw [hiL, dv, dv, ih]
    omega
theorem hiL_ok (ds : List Int) (h : digOk 256 ds) : digOk 256 (hiL ds) := by
  induction ds with
  | nil => exact h
  | cons d ds ih =>
    obtain ⟨hd, hs⟩ := digOk_cons h
    have := digOk_rd (B := 256) (by decide) hs 0
    intro x hx
    simp only [hiL, List.mem_cons] at hx
    rcases hx with rfl | hx
    · omega
    · exact ih hs x hx
theorem hiL_take_succ (ds : List Int) (j : Nat) (h : j < ds.length) : (hiL ds).take (j + 1) = (hiL ds).take j ++ [rd ds j / 4 + rd ds (j + 1) % 4 * 64] := by
  have h' : j < (hiL ds).length := by rw [hiL_length]; exact h
  rw [List.take_succ_eq_append_getElem h', ← hiL_rd ds j h]
  simp [rd, List.getD_eq_getElem?_getD, List.getElem?_eq_getElem h']
/-- The low bits. -/
def loL (ys : List Int) : List Int := ys.take 16 ++ [rd ys 16 % 4]
def loD (ys : List Int) (i : Nat) : Int := if i = 16 then rd ys 16 % 4 else rd ys i
theorem loL_length (ys : List Int) (h : 17 ≤ ys.length) : (loL ys).length = 17 := by simp [loL]; omega
theorem loL_take_succ (ys : List Int) (i : Nat) (h : 17 ≤ ys.length) (hi : i < 17) : (loL ys).take (i + 1) = (loL ys).take i ++ [loD ys i] := by
  have h' : i < (loL ys).length := by rw [loL_length _ h]; exact hi
  rw [List.take_succ_eq_append_getElem h']
  congr 2
  unfold loD
  split
  · subst_vars
    simp [loL, List.getElem_append]
    omega
  · have : i < 16 := by omega
    simp [loL, List.getElem_append, rd, List.getD_eq_getElem?_getD]
    rw [dif_pos (by omega), List.getElem?_eq_getElem (by omega)]
    rfl
theorem loL_ok (ys : List Int) (h : digOk 256 ys) : digOk 256 (loL ys) :=
  digOk_append (digOk_take h 16) (fun x hx => by simp at hx; omega)
/-- Both halves. -/
theorem lohi (ys : List Int) (h : 17 ≤ ys.length) : dv 256 ys = dv 256 (loL ys) + 256 ^ 16 * 4 * dv 256 (hiL (ys.drop 16)) := by
  have h1 := dv_split 256 ys 16 (by omega)
  have h2 := dv_mod4 (ys.drop 16)
  have e : rd (ys.drop 16) 0 = rd ys 16 := by simp [rd, List.getD_eq_getElem?_getD]
  rw [e] at h2
  rw [dv_hiL, loL, dv_append, List.length_take, Nat.min_eq_left (by omega), h1]
  simp only [dv]
  generalize (256 : Int) ^ 16 = P
  have h3 := Int.emod_add_mul_ediv (dv 256 (ys.drop 16)) 4
  rw [h2] at h3
  generalize dv 256 (ys.drop 16) / 4 = q at *
  generalize rd ys 16 % 4 = m at *
  rw [← h3]
  grind
def pp : Int := 2 ^ 130 - 5
theorem high_len (ys : List Int) (h : digOk 256 ys) (hh : highB ys = true) : 17 ≤ ys.length ∧ 1 ≤ dv 256 (hiL (ys.drop 16)) := by
  rw [highB, decide_eq_true_eq] at hh
  obtain ⟨j, h1, h2, _⟩ := (high_iff ys h).1 hh
  refine ⟨by omega, ?_⟩
  have hb := (dv_bound (B := 256) (by decide) _ (digOk_take h 16)).2
  rw [List.length_take, Nat.min_eq_left (by omega)] at hb
  have hs := dv_split 256 ys 16 (by omega)
  have hd := (dv_bound (B := 256) (by decide) _ (digOk_drop h 16)).1
  rw [dv_hiL]
  have e : (2 : Int) ^ 130 = 256 ^ 16 * 4 := by decide
  rw [e, hs] at hh
  have hp : (0 : Int) < 256 ^ 16 := by decide
  generalize (256 : Int) ^ 16 = P at *
  rcases Int.lt_or_le (dv 256 (ys.drop 16)) 4 with h3 | h3
  · exfalso
    have : P * dv 256 (ys.drop 16) ≤ P * 3 := Int.mul_le_mul_of_nonneg_left (by omega) (Int.le_of_lt hp)
    omega
  · omega
end Go.Proofs.Ytcjfpcajjhccaaa
