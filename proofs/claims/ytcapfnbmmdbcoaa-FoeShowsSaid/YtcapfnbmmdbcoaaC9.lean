/- Walks of the term layer: do all keys follow? -/
import Derived.Test.YtcapfnbmmdbcoaaC8
set_option linter.unusedVariables false
set_option linter.unusedSimpArgs false
namespace Go.Proofs.Ytcapfnbmmdbcoaa
open Go.RowKit
theorem hmf (fn : Fn) (first cap : Array Value) (w : World) : (Instr.makeFunc fn first cap).run Try.prog w = .ok (.func fn first cap) w := rfl
set_option maxRecDepth 100000 in
set_option maxHeartbeats 1000000 in
theorem not83 (pb f g kb c : Nat) (A : Option Addr) (bs : List Bool) (k : List Int) (w : World) (hp : w.cell? ⟨pb, 0, none⟩ = some (.pointer (some ⟨f, 0, none⟩))) (h : FP w f g kb A c bs) (hk : KeyOk k) (hn : bs.length ≤ 1000000) :
    Calls Try.prog 83 #[.agg (nums .u8 k).toArray, .pointer (some ⟨pb, 0, none⟩)] w (BoolR (!hasM bs k) w) := by
  have M0 := Mem.start w
  have H := hid h
  have HP := hid hp
  have HK := hid hk
  clear h hp hk
  go_enter Try.func83, Try.ntmps83
  go_wp2_with (first | (refine wpList_bxN 2 rfl rfl rfl rfl M0 (fun b3 w1 M1 => ?_); clear M0; have cp := M1.cell0 HP.out; (conv => arg 5; simp only [Act.put, List.setIfInBounds_toArray, List.set_cons_succ, List.set_cons_zero])) | (refine wpList_ldrowN Try.underlying26 s26 rfl rfl rfl rfl M1 List.mem_cons_self HK.out.1 ?_; (conv => arg 5; simp only [Act.put, List.setIfInBounds_toArray, List.set_cons_succ, List.set_cons_zero])) | (go_at_call 42; refine (has42 f g kb c A bs k _ (H.out.below M1.below) HK.out hn).mono ?_; rintro e w2 ⟨rfl, M2⟩; have M3 := M1.call M2.below; clear M1 M2))
  go_ret
  exact ⟨rfl, M3.sub (List.nil_sublist _)⟩
def IndexR (w : World) (b : Bool) (e : Ending) (w' : World) : Prop := ∃ i : Int, e = .returned (.int .i64 i) ∧ decide (0 ≤ i) = b ∧ Mem w [] w' []
theorem all_take {bs : List Bool} {ks : List (List Int)} {i : Nat} {k : List Int} (h : (ks.take i).all (hasM bs) = true) (hk : ks[i]? = some k) (hb : hasM bs k = true) : (ks.take (i + 1)).all (hasM bs) = true := by
  obtain ⟨hl, rfl⟩ := List.getElem?_eq_some_iff.1 hk
  rw [List.take_succ_eq_append_getElem hl, List.all_append, h]
  simp [hb]
theorem all_not {bs : List Bool} {ks : List (List Int)} {i : Nat} {k : List Int} (hk : ks[i]? = some k) (hb : hasM bs k = false) : ks.all (hasM bs) = false := by
  rw [List.all_eq_false]
  exact ⟨k, List.mem_of_getElem? hk, by simp [hb]⟩
set_option maxRecDepth 100000 in
set_option maxHeartbeats 1000000 in
theorem Index78 (pb f g kb c d : Nat) (A B : Option Addr) (bs : List Bool) (ks : List (List Int)) (w : World) (hp : w.cell? ⟨pb, 0, none⟩ = some (.pointer (some ⟨f, 0, none⟩))) (h : FP w f g kb A c bs) (hk : ∀ k ∈ ks, KeyOk k) (hr : RowT w 26 B (nums .u8 ks.flatten)) (hn : bs.length ≤ 1000000) (hl : ks.length ≤ 1000) :
    Calls Try.prog 78 #[.slice B ks.length d, .func (.func 83) #[] #[.pointer (some ⟨pb, 0, none⟩)]] w (IndexR w (!(ks.all (hasM bs)))) := by
  have M0 := Mem.start w
  have H := hid h
  have HP := hid hp
  have HK := hid hk
  have HR := hid hr
  clear h hp hk hr
  go_enter Try.func78, Try.ntmps78
  go_wp2_with fail
  go_loopw [8] (fun n wr => ∃ i : Nat, i ≤ ks.length ∧ n = .int .i64 i ∧ Mem w [] wr [] ∧ Hid ((ks.take i).all (hasM bs) = true)) (fun n _ => ks.length - (intOf n).toNat)
  case atStart => exact ⟨0, by omega, rfl, M0, hid rfl⟩
  case round =>
    obtain ⟨i, hi, rfl, Mi, HA⟩ := hrel
    clear M0
    by_cases hlt : i < ks.length
    · have hltI : (i : Int) < (ks.length : Int) := by omega
      obtain ⟨k, hke⟩ : ∃ k, ks[i]? = some k := ⟨ks[i], List.getElem?_eq_getElem hlt⟩
      obtain ⟨bk, off, rfl, hcells⟩ := keys_at HK.out (HR.out.mem Mi) hke
      have hkk := HK.out k (List.mem_of_getElem? hke)
      have HKE := hid hke
      have HKK := hid hkk
      have hsz := hid (show (Try.prog.info? 26).map (·.size) = some (nums .u8 k).length from by rw [nums_length, hkk.1]; exact s26)
      clear hke hkk
      cases hb : hasM bs k
      · go_wp2_with (first | (refine wpList_ldagg 15 rfl Try.underlying26 rfl rfl rfl rfl hcells hsz.out ?_; (conv => arg 5; simp only [Act.put, List.setIfInBounds_toArray, List.set_cons_succ, List.set_cons_zero])) | (go_at_call 83; refine (not83 pb f g kb c A bs k _ (Mi.cell0 HP.out) (H.out.below Mi.below) HKK.out hn).mono ?_; rintro e w2 ⟨rfl, M2⟩; have M3 := Mi.call M2.below; rw [hb]; clear M2 hcells))
        go_ret
        exact ⟨(i : Int), rfl, by rw [all_not HKE.out hb, decide_eq_true (by omega)]; rfl, M3⟩
      · go_wp2_with (first | (refine wpList_ldagg 15 rfl Try.underlying26 rfl rfl rfl rfl hcells hsz.out ?_; (conv => arg 5; simp only [Act.put, List.setIfInBounds_toArray, List.set_cons_succ, List.set_cons_zero])) | (go_at_call 83; refine (not83 pb f g kb c A bs k _ (Mi.cell0 HP.out) (H.out.below Mi.below) HKK.out hn).mono ?_; rintro e w2 ⟨rfl, M2⟩; have M3 := Mi.call M2.below; rw [hb]; clear M2 hcells))
        go_round
        case rel => exact ⟨i + 1, by omega, by go_num, M3, hid (all_take HA.out HKE.out hb)⟩
        case measure => simp [intOf]; omega
    · obtain rfl : i = ks.length := by omega
      go_wp2_with fail
      go_ret
      have := HA.out
      rw [List.take_of_length_le (Nat.le_refl _)] at this
      exact ⟨-1, rfl, by rw [this]; rfl, Mi⟩
set_option maxRecDepth 100000 in
set_option maxHeartbeats 1000000 in
theorem Contains63 (pb f g kb c d : Nat) (A B : Option Addr) (bs : List Bool) (ks : List (List Int)) (w : World) (hp : w.cell? ⟨pb, 0, none⟩ = some (.pointer (some ⟨f, 0, none⟩))) (h : FP w f g kb A c bs) (hk : ∀ k ∈ ks, KeyOk k) (hr : RowT w 26 B (nums .u8 ks.flatten)) (hn : bs.length ≤ 1000000) (hl : ks.length ≤ 1000) :
    Calls Try.prog 63 #[.slice B ks.length d, .func (.func 83) #[] #[.pointer (some ⟨pb, 0, none⟩)]] w (BoolR (!(ks.all (hasM bs))) w) := by
  have HI := hid (Index78 pb f g kb c d A B bs ks w hp h hk hr hn hl)
  clear h hp hk hr
  go_enter Try.func63, Try.ntmps63
  go_wp2_with (go_at_call 78; refine HI.out.mono ?_; rintro e w2 ⟨i, rfl, hi, M2⟩)
  go_ret
  rw [← hi]
  exact ⟨rfl, M2⟩
set_option maxRecDepth 100000 in
set_option maxHeartbeats 1000000 in
theorem all81 (f g kb c d : Nat) (A B : Option Addr) (bs : List Bool) (ks : List (List Int)) (w : World) (h : FP w f g kb A c bs) (hk : ∀ k ∈ ks, KeyOk k) (hr : RowT w 26 B (nums .u8 ks.flatten)) (hn : bs.length ≤ 1000000) (hl : ks.length ≤ 1000) :
    Calls Try.prog 81 #[.pointer (some ⟨f, 0, none⟩), .slice B ks.length d] w (BoolR (ks.all (hasM bs)) w) := by
  have M0 := Mem.start w
  have H := hid h
  have HK := hid hk
  have HR := hid hr
  clear h hk hr
  go_enter Try.func81, Try.ntmps81
  go_wp2_with (first | (refine wpList_bx (cs := [.pointer (some ⟨f, 0, none⟩)]) rfl rfl M0 rfl rfl (fun b2 w1 M1 => ?_); clear M0; (conv => arg 5; simp only [Act.put, List.setIfInBounds_toArray, List.set_cons_succ, List.set_cons_zero])) | (go_at_call 63; refine (Contains63 b2 f g kb c d A B bs ks _ (M1.cell List.mem_cons_self (i := 0) rfl) (H.out.below M1.below) HK.out (HR.out.mem M1) hn hl).mono ?_; rintro e w2 ⟨rfl, M2⟩; have M3 := M1.call M2.below; clear M1 M2))
  go_ret
  exact ⟨rfl, M3.sub (List.nil_sublist _)⟩
end Go.Proofs.Ytcapfnbmmdbcoaa
