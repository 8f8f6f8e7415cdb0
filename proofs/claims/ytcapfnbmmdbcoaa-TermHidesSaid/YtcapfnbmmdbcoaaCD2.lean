/- TermHides: the whole law. -/
import Derived.Test.YtcapfnbmmdbcoaaCD
set_option linter.unusedVariables false
set_option linter.unusedSimpArgs false
namespace Go.Proofs.Ytcapfnbmmdbcoaa
open Go.RowKit
set_option maxRecDepth 100000 in
theorem hides_great (a b t : ByteArray) (w : World) (h : 300 < a.size ∨ 300 < b.size ∨ 300 < t.size ∨ a = b) : Calls Try.prog 3 #[.string a, .string b, .string t] w (TrueR w) := by
  by_cases h1 : 300 < a.size
  · have h1' : (300 : Int) < (a.size : Int) := by omega
    clear h
    go_enter Try.func3, Try.ntmps3
    go_wp2_with (first | (apply wpList_want; (· rfl)) | (go_at_call 10; refine (alive10 _).mono ?_; rintro e w1 ⟨rfl, M1⟩; have M2 := (Mem.start w).call M1.below; clear M1) | (go_at_call 10; refine (alive10 _).mono ?_; rintro e w3 ⟨rfl, M3⟩; have M4 := M2.call M3.below; clear M3))
    go_ret
    exact ⟨rfl, M4⟩
  · have h1' : ¬ (300 : Int) < (a.size : Int) := by omega
    by_cases h2 : 300 < b.size
    · have h2' : (300 : Int) < (b.size : Int) := by omega
      clear h
      go_enter Try.func3, Try.ntmps3
      go_wp2_with (first | (apply wpList_want; (· rfl)) | (go_at_call 10; refine (alive10 _).mono ?_; rintro e w1 ⟨rfl, M1⟩; have M2 := (Mem.start w).call M1.below; clear M1) | (go_at_call 10; refine (alive10 _).mono ?_; rintro e w3 ⟨rfl, M3⟩; have M4 := M2.call M3.below; clear M3))
      go_ret
      exact ⟨rfl, M4⟩
    · have h2' : ¬ (300 : Int) < (b.size : Int) := by omega
      by_cases h3 : 300 < t.size
      · have h3' : (300 : Int) < (t.size : Int) := by omega
        clear h
        go_enter Try.func3, Try.ntmps3
        go_wp2_with (first | (apply wpList_want; (· rfl)) | (go_at_call 10; refine (alive10 _).mono ?_; rintro e w1 ⟨rfl, M1⟩; have M2 := (Mem.start w).call M1.below; clear M1) | (go_at_call 10; refine (alive10 _).mono ?_; rintro e w3 ⟨rfl, M3⟩; have M4 := M2.call M3.below; clear M3))
        go_ret
        exact ⟨rfl, M4⟩
      · have h3' : ¬ (300 : Int) < (t.size : Int) := by omega
        have h4 : a = b := ((h.resolve_left h1).resolve_left h2).resolve_left h3
        subst h4
        have heq : (a.toList == a.toList) = true := by simp
        clear h
        go_enter Try.func3, Try.ntmps3
        go_wp2_with (first | (apply wpList_want; (· rfl)) | (go_at_call 10; refine (alive10 _).mono ?_; rintro e w1 ⟨rfl, M1⟩; have M2 := (Mem.start w).call M1.below; clear M1) | (go_at_call 10; refine (alive10 _).mono ?_; rintro e w3 ⟨rfl, M3⟩; have M4 := M2.call M3.below; clear M3))
        go_ret
        exact ⟨rfl, M4⟩
theorem TermHides3 (a b t : ByteArray) (w : World) : Calls Try.prog 3 #[.string a, .string b, .string t] w fun e w' => e = .returned (.bool true) ∧ Below w.heap.size w w' := by
  refine Calls.mono (R := TrueR w) ?_ fun e w' ⟨he, M⟩ => ⟨he, M.below⟩
  by_cases h1 : 300 < a.size ∨ 300 < b.size ∨ 300 < t.size ∨ a = b
  · exact hides_great a b t w h1
  · refine hides3 a b t w ?_ ?_ ?_ (fun h => h1 (.inr (.inr (.inr h))))
    · exact Nat.le_of_not_lt fun h => h1 (.inl h)
    · exact Nat.le_of_not_lt fun h => h1 (.inr (.inl h))
    · exact Nat.le_of_not_lt fun h => h1 (.inr (.inr (.inl h)))
end Go.Proofs.Ytcapfnbmmdbcoaa
