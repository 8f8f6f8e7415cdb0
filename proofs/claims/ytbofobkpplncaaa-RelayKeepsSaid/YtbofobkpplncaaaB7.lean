/- Walks of the relay layer's laws: an act; what every right program answers. -/
import Derived.Test.YtbofobkpplncaaaB6
set_option linter.unusedVariables false
set_option linter.unusedSimpArgs false
namespace Go.Proofs.Ytbofobkpplncaaa
open Go.RowKit
def actC (kind to i k : Int) (s : ByteArray) : List Value := [.int .i64 kind, .int .i64 to, .int .i64 i, .int .i64 k, .string s]
/-- What an act does, by the methods' contracts. -/
def MethR (v : Value) (R : World → Prop) (e : Ending) (w' : World) : Prop := e = .returned v ∧ R w'
section
variable (p : Option Addr) (kind to i k : Int) (s : ByteArray) (w : World) (R : World → Prop)
theorem box33 : ∀ v ∈ actC kind to i k s, v.oneCell' = true := by simp [actC, Value.oneCell']
theorem do7_k0 {er : Int} (hk : kind.tmod 5 = 0) (h : ∀ w', Below w.heap.size w w' → Calls Try.prog 14 #[.pointer p, .int .i64 to, .string s] w' (MethR (.int .i64 er) R)) :
    Calls Try.prog 7 #[.pointer p, .agg (actC kind to i k s).toArray] w (MethR (.tuple #[.string ⟨#[]⟩, .int .i64 er]) R) := by
  have H := hid h
  clear h
  have M0 := Mem.start w
  go_enter Try.func7, Try.ntmps7
  go_wp2_with ((first | (refine wpList_bx rfl rfl M0 rfl (cs := actC kind to i k s) rfl (fun b3 w1 M1 => ?_); (conv => arg 5; simp only [Act.put, List.setIfInBounds_toArray, List.set_cons_succ, List.set_cons_zero]); have c0 := M1.cell (i := 0) List.mem_cons_self rfl; have c1 := M1.cell (i := 1) List.mem_cons_self rfl; have c2 := M1.cell (i := 2) List.mem_cons_self rfl; have c3 := M1.cell (i := 3) List.mem_cons_self rfl; have c4 := M1.cell (i := 4) List.mem_cons_self rfl) | (refine (H.out _ M1.below).mono ?_; rintro e w2 ⟨rfl, hR⟩)))
  go_ret2
  exact ⟨rfl, hR⟩
theorem do7_k1 {er : Int} {o : ByteArray} (hk : kind.tmod 5 = 1) (h : ∀ w', Below w.heap.size w w' → Calls Try.prog 16 #[.pointer p, .int .i64 to, .int .i64 i] w' (MethR (.tuple #[.string o, .int .i64 er]) R)) :
    Calls Try.prog 7 #[.pointer p, .agg (actC kind to i k s).toArray] w (MethR (.tuple #[.string o, .int .i64 er]) R) := by
  have H := hid h
  clear h
  have M0 := Mem.start w
  go_enter Try.func7, Try.ntmps7
  go_wp2_with ((first | (refine wpList_bx rfl rfl M0 rfl (cs := actC kind to i k s) rfl (fun b3 w1 M1 => ?_); (conv => arg 5; simp only [Act.put, List.setIfInBounds_toArray, List.set_cons_succ, List.set_cons_zero]); have c0 := M1.cell (i := 0) List.mem_cons_self rfl; have c1 := M1.cell (i := 1) List.mem_cons_self rfl; have c2 := M1.cell (i := 2) List.mem_cons_self rfl; have c3 := M1.cell (i := 3) List.mem_cons_self rfl; have c4 := M1.cell (i := 4) List.mem_cons_self rfl) | (refine (H.out _ M1.below).mono ?_; rintro e w2 ⟨rfl, hR⟩)))
  go_ret2
  exact ⟨rfl, hR⟩
theorem do7_k2 {er : Int} (hk : kind.tmod 5 = 2) (h : ∀ w', Below w.heap.size w w' → Calls Try.prog 17 #[.pointer p, .int .i64 to, .int .i64 i] w' (MethR (.int .i64 er) R)) :
    Calls Try.prog 7 #[.pointer p, .agg (actC kind to i k s).toArray] w (MethR (.tuple #[.string ⟨#[]⟩, .int .i64 er]) R) := by
  have H := hid h
  clear h
  have M0 := Mem.start w
  go_enter Try.func7, Try.ntmps7
  go_wp2_with ((first | (refine wpList_bx rfl rfl M0 rfl (cs := actC kind to i k s) rfl (fun b3 w1 M1 => ?_); (conv => arg 5; simp only [Act.put, List.setIfInBounds_toArray, List.set_cons_succ, List.set_cons_zero]); have c0 := M1.cell (i := 0) List.mem_cons_self rfl; have c1 := M1.cell (i := 1) List.mem_cons_self rfl; have c2 := M1.cell (i := 2) List.mem_cons_self rfl; have c3 := M1.cell (i := 3) List.mem_cons_self rfl; have c4 := M1.cell (i := 4) List.mem_cons_self rfl) | (refine (H.out _ M1.below).mono ?_; rintro e w2 ⟨rfl, hR⟩)))
  go_ret2
  exact ⟨rfl, hR⟩
theorem do7_k3 {er : Int} (hk : kind.tmod 5 = 3) (h : ∀ w', Below w.heap.size w w' → Calls Try.prog 18 #[.pointer p, .int .i64 to, .int .i64 i] w' (MethR (.int .i64 er) R)) :
    Calls Try.prog 7 #[.pointer p, .agg (actC kind to i k s).toArray] w (MethR (.tuple #[.string ⟨#[]⟩, .int .i64 er]) R) := by
  have H := hid h
  clear h
  have M0 := Mem.start w
  go_enter Try.func7, Try.ntmps7
  go_wp2_with ((first | (refine wpList_bx rfl rfl M0 rfl (cs := actC kind to i k s) rfl (fun b3 w1 M1 => ?_); (conv => arg 5; simp only [Act.put, List.setIfInBounds_toArray, List.set_cons_succ, List.set_cons_zero]); have c0 := M1.cell (i := 0) List.mem_cons_self rfl; have c1 := M1.cell (i := 1) List.mem_cons_self rfl; have c2 := M1.cell (i := 2) List.mem_cons_self rfl; have c3 := M1.cell (i := 3) List.mem_cons_self rfl; have c4 := M1.cell (i := 4) List.mem_cons_self rfl) | (refine (H.out _ M1.below).mono ?_; rintro e w2 ⟨rfl, hR⟩)))
  go_ret2
  exact ⟨rfl, hR⟩
theorem do7_k4 {er : Int} (hk : kind.tmod 5 = 4) (h : ∀ w', Below w.heap.size w w' → Calls Try.prog 15 #[.pointer p, .int .i64 to, .int .i64 i, .int .i64 k] w' (MethR (.int .i64 er) R)) :
    Calls Try.prog 7 #[.pointer p, .agg (actC kind to i k s).toArray] w (MethR (.tuple #[.string ⟨#[]⟩, .int .i64 er]) R) := by
  have H := hid h
  clear h
  have M0 := Mem.start w
  go_enter Try.func7, Try.ntmps7
  go_wp2_with ((first | (refine wpList_bx rfl rfl M0 rfl (cs := actC kind to i k s) rfl (fun b3 w1 M1 => ?_); (conv => arg 5; simp only [Act.put, List.setIfInBounds_toArray, List.set_cons_succ, List.set_cons_zero]); have c0 := M1.cell (i := 0) List.mem_cons_self rfl; have c1 := M1.cell (i := 1) List.mem_cons_self rfl; have c2 := M1.cell (i := 2) List.mem_cons_self rfl; have c3 := M1.cell (i := 3) List.mem_cons_self rfl; have c4 := M1.cell (i := 4) List.mem_cons_self rfl) | (refine (H.out _ M1.below).mono ?_; rintro e w2 ⟨rfl, hR⟩)))
  go_ret2
  exact ⟨rfl, hR⟩
theorem do7_no (hk : kind.tmod 5 < 0) (h : ∀ w', Below w.heap.size w w' → R w') :
    Calls Try.prog 7 #[.pointer p, .agg (actC kind to i k s).toArray] w (MethR (.tuple #[.string ⟨#[]⟩, .int .i64 0]) R) := by
  have H := hid h
  have M0 := Mem.start w
  have h0 : (kind.tmod 5 == 0) = false := by rw [beq_eq_false_iff_ne]; omega
  have h1 : (kind.tmod 5 == 1) = false := by rw [beq_eq_false_iff_ne]; omega
  have h2 : (kind.tmod 5 == 2) = false := by rw [beq_eq_false_iff_ne]; omega
  have h3 : (kind.tmod 5 == 3) = false := by rw [beq_eq_false_iff_ne]; omega
  have h4 : (kind.tmod 5 == 4) = false := by rw [beq_eq_false_iff_ne]; omega
  clear h
  go_enter Try.func7, Try.ntmps7
  go_wp2_with ((first | (refine wpList_bx rfl rfl M0 rfl (cs := actC kind to i k s) rfl (fun b3 w1 M1 => ?_); (conv => arg 5; simp only [Act.put, List.setIfInBounds_toArray, List.set_cons_succ, List.set_cons_zero]); have c0 := M1.cell (i := 0) List.mem_cons_self rfl)))
  go_ret2
  exact ⟨rfl, H.out _ M1.below⟩
end
end Go.Proofs.Ytbofobkpplncaaa
