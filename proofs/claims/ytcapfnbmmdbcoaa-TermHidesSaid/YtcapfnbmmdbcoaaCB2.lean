/- TermMeets: what its steps come to; the whole law. -/
import Derived.Test.YtcapfnbmmdbcoaaCB
set_option linter.unusedVariables false
set_option linter.unusedSimpArgs false
namespace Go.Proofs.Ytcapfnbmmdbcoaa
open Go.RowKit
def pairA (i j : Nat) : Tm := ⟨4, ⟨#[]⟩, [kn i, kn j]⟩
theorem tmw_any {t : Tm} (h3 : t.kind ≠ 3) (h4 : t.kind ≠ 4) (h6 : t.kind ≠ 6) : TmW t := ⟨fun h => absurd h h3, fun h => h.elim (fun h => absurd h h4) (fun h => absurd h h6)⟩
theorem tmw_pub (k : List Int) : TmW (pubT k) := ⟨fun _ => by simp [pubT], fun h => (by rcases h with h | h <;> exact absurd h (by simp [pubT]))⟩
theorem tmw_pair (i j : Nat) : TmW (pairA i j) := ⟨fun h => absurd h (by simp [pairA]), fun _ => by simp [pairA]⟩
theorem tmw_atom (a : ByteArray) : TmW (atomT a) := tmw_any (by simp [atomT]) (by simp [atomT]) (by simp [atomT])
theorem hasK {bs : List Bool} {n i : Nat} {b : Bool} (hl : bs.length = n) (hi : i < n) (hn : n ≤ 1000000) (h : bs.getD i false = b) : hasM bs (kn i) = b := by
  rw [hasM_kn (by omega) (by omega), h]
def mAll (a b : ByteArray) : List Tm := [atomT a, atomT b, pubT (kn 0), pubT (kn 1), pairA 0 1]
theorem meetS_ne (a b : ByteArray) (h : a ≠ b) : MeetS a b (kn 0) (kn 1) (kn 2) (kn 3) (kn 4) [atomT a] [atomT a, atomT b] [atomT a, atomT b, pubT (kn 0)] [atomT a, atomT b, pubT (kn 0), pubT (kn 1)] (mAll a b) (pairA 0 1) where
  kx := kn_ok 0
  ky := kn_ok 1
  ku := kn_ok 2
  kv := kn_ok 3
  kk := kn_ok 4
  uz := kn_zK 2
  vz := kn_zK 3
  p1 := nm_new (by simp)
  p2 := nm_new (by simp [atomT, Ne.symm h])
  p3 := nm_new (by simp [atomT, pubT])
  p4 := nm_new (by simp [atomT, pubT, kn_ne 1 0])
  a1 := by kernel_rfl
  p5 := nm_new (by simp [atomT, pubT, pairA])
  a2 := by kernel_rfl
  p6 := nm_old (i := 4) rfl (by simp [mAll, atomT, pubT, pairA, h, kn_ne 0 1])
  w4 := by
    intro t ht
    simp only [List.mem_cons, List.not_mem_nil, or_false] at ht
    rcases ht with rfl | rfl | rfl | rfl
    · exact tmw_atom a
    · exact tmw_atom b
    · exact tmw_pub _
    · exact tmw_pub _
  w5 := by
    intro t ht
    simp only [mAll, List.mem_cons, List.not_mem_nil, or_false] at ht
    rcases ht with rfl | rfl | rfl | rfl | rfl
    · exact tmw_atom a
    · exact tmw_atom b
    · exact tmw_pub _
    · exact tmw_pub _
    · exact tmw_pair _ _
  l := by simp [mAll]
  f1 bs F := hasK F.len (by simp [mAll]) (by simp [mAll]) (F.yes [true, false, true, true, true] (by kernel_rfl) rfl)
  f2 bs F := hasK F.len (by simp [mAll]) (by simp [mAll]) (F.yes [false, true, true, true, true] (by kernel_rfl) rfl)
  f3 bs F := hasK F.len (by simp [mAll]) (by simp [mAll]) (F.not [false, false, true, true, false] rfl (by kernel_rfl) (by kernel_rfl) rfl)
  f4 bs F := by
    rw [decide_eq_true h]
    exact hasK F.len (by simp [mAll]) (by simp [mAll]) (F.not [true, false, true, false, false] rfl (by kernel_rfl) (by kernel_rfl) rfl)
def mOne (a : ByteArray) : List Tm := [atomT a, pubT (kn 0), pairA 0 0]
theorem meetS_eq (a : ByteArray) : MeetS a a (kn 0) (kn 0) (kn 1) (kn 1) (kn 2) [atomT a] [atomT a] [atomT a, pubT (kn 0)] [atomT a, pubT (kn 0)] (mOne a) (pairA 0 0) where
  kx := kn_ok 0
  ky := kn_ok 0
  ku := kn_ok 1
  kv := kn_ok 1
  kk := kn_ok 2
  uz := kn_zK 1
  vz := kn_zK 1
  p1 := nm_new (by simp)
  p2 := nm_old (i := 0) rfl (by simp)
  p3 := nm_new (by simp [atomT, pubT])
  p4 := nm_old (i := 1) rfl (by simp [atomT, pubT])
  a1 := by kernel_rfl
  p5 := nm_new (by simp [atomT, pubT, pairA])
  a2 := by kernel_rfl
  p6 := nm_old (i := 2) rfl (by simp [mOne, atomT, pubT, pairA])
  w4 := by
    intro t ht
    simp only [List.mem_cons, List.not_mem_nil, or_false] at ht
    rcases ht with rfl | rfl
    · exact tmw_atom a
    · exact tmw_pub _
  w5 := by
    intro t ht
    simp only [mOne, List.mem_cons, List.not_mem_nil, or_false] at ht
    rcases ht with rfl | rfl | rfl
    · exact tmw_atom a
    · exact tmw_pub _
    · exact tmw_pair _ _
  l := by simp [mOne]
  f1 bs F := hasK F.len (by simp [mOne]) (by simp [mOne]) (F.yes [true, true, true] (by kernel_rfl) rfl)
  f2 bs F := hasK F.len (by simp [mOne]) (by simp [mOne]) (F.yes [true, true, true] (by kernel_rfl) rfl)
  f3 bs F := hasK F.len (by simp [mOne]) (by simp [mOne]) (F.not [false, true, false] rfl (by kernel_rfl) (by kernel_rfl) rfl)
  f4 bs F := by
    rw [show decide (a ≠ a) = false from decide_eq_false (fun h => h rfl)]
    exact hasK F.len (by simp [mOne]) (by simp [mOne]) (F.yes [true, true, true] (by kernel_rfl) rfl)
set_option maxRecDepth 100000 in
theorem meets_great (a b : ByteArray) (w : World) (h : 300 < a.size ∨ 300 < b.size) (ha : a.size ≤ maxLen) (hb : b.size ≤ maxLen) : Calls Try.prog 5 #[.string a, .string b] w (TrueR w) := by
  by_cases h1 : 300 < a.size
  · have h1' : (300 : Int) < (a.size : Int) := by omega
    clear h
    go_enter Try.func5, Try.ntmps5
    go_wp2_with (first | (apply wpList_want; (· rfl)) | (go_at_call 10; refine (alive10 _).mono ?_; rintro e w1 ⟨rfl, M1⟩; have M2 := (Mem.start w).call M1.below; clear M1) | (go_at_call 10; refine (alive10 _).mono ?_; rintro e w3 ⟨rfl, M3⟩; have M4 := M2.call M3.below; clear M3))
    go_ret
    exact ⟨rfl, M4⟩
  · have h2 : 300 < b.size := h.resolve_left h1
    have h1' : ¬ (300 : Int) < (a.size : Int) := by omega
    have h2' : (300 : Int) < (b.size : Int) := by omega
    clear h
    go_enter Try.func5, Try.ntmps5
    go_wp2_with (first | (apply wpList_want; (· rfl)) | (go_at_call 10; refine (alive10 _).mono ?_; rintro e w1 ⟨rfl, M1⟩; have M2 := (Mem.start w).call M1.below; clear M1) | (go_at_call 10; refine (alive10 _).mono ?_; rintro e w3 ⟨rfl, M3⟩; have M4 := M2.call M3.below; clear M3))
    go_ret
    exact ⟨rfl, M4⟩
theorem TermMeets5 (a b : ByteArray) (w : World) (ha : a.size ≤ maxLen) (hb : b.size ≤ maxLen) : Calls Try.prog 5 #[.string a, .string b] w fun e w' => e = .returned (.bool true) ∧ Below w.heap.size w w' := by
  refine Calls.mono (R := TrueR w) ?_ fun e w' ⟨he, M⟩ => ⟨he, M.below⟩
  by_cases h1 : a.size ≤ 300
  · by_cases h2 : b.size ≤ 300
    · by_cases h : a = b
      · subst h
        exact meets5 a a w h1 h2 (meetS_eq a)
      · exact meets5 a b w h1 h2 (meetS_ne a b h)
    · exact meets_great a b w (.inr (by omega)) ha hb
  · exact meets_great a b w (.inl (by omega)) ha hb
end Go.Proofs.Ytcapfnbmmdbcoaa
