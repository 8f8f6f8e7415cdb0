/- Walks of the term layer: can a term be made of what follows? -/
import Derived.Test.YtcapfnbmmdbcoaaC10
set_option linter.unusedVariables false
set_option linter.unusedSimpArgs false
namespace Go.Proofs.Ytcapfnbmmdbcoaa
open Go.RowKit
theorem run_ldK {P : Program} {o : Oper} {a : Act} {w : World} {ty : TypeId} {d : TypeDesc} (hu : P.underlying ty = some d) {x : Operand} (ho : o.op = .load ty x) (hd : d.isRow = true) {g off : Nat} (hx : a.eval x = .pointer (some ⟨g, off, none⟩)) {cs : List Value}
    (hc : ∀ (j : Nat) (v : Value), cs[j]? = some v → w.cell? ⟨g, off + j, none⟩ = some v) (hsz : (P.info? ty).map (·.size) = some cs.length) : (execOp a.eval o).run P w = .ok (.value (.agg cs.toArray)) w := by
  unfold execOp
  simp only [ho, hx, Instr.loadAt, Instr.sureAddr, Sem.run_bind, Sem.run_pure, Result.andThen_ok, run_loadVar_mid w g off ty cs d hc hu hd hsz]
def madeM (ts : List Tm) (bs : List Bool) (t : Tm) : Bool :=
  if t.kind = 1 then false else if t.kind = 4 then (hasM bs (t.keys.getD 0 []) && pubM ts bs (t.keys.getD 1 [])) || (hasM bs (t.keys.getD 1 []) && pubM ts bs (t.keys.getD 0 [])) else t.keys.all (hasM bs)
theorem s26k {k : List Int} (h : KeyOk k) : (Try.prog.info? 26).map (·.size) = some (nums .u8 k).length := by rw [nums_length, h.1]; exact s26
theorem Mem.cells0 {w0 w : World} {L : List Item} (M : Mem w0 [] w L) {g off : Nat} {cs : List Value} (h : ∀ (j : Nat) (v : Value), cs[j]? = some v → w0.cell? ⟨g, off + j, none⟩ = some v) : ∀ (j : Nat) (v : Value), cs[j]? = some v → w.cell? ⟨g, off + j, none⟩ = some v :=
  fun j v hj => M.cell0 (h j v hj)
set_option maxRecDepth 100000 in
set_option maxHeartbeats 16000000 in
theorem made67 (K : Nat → Prop) (f g mb kb c d : Nat) (A B : Option Addr) (ts : List Tm) (bs : List Bool) (t : Tm) (w : World) (T : TabP K w g mb A c ts) (h : FP w f g kb A c bs) (ht : TmOk t) (hr : RowT w 26 B (nums .u8 t.keys.flatten)) (h2 : t.kind = 4 → 2 ≤ t.keys.length) (hl : bs.length = ts.length) :
    Calls Try.prog 67 #[.pointer (some ⟨f, 0, none⟩), .agg #[.int .i64 t.kind, .string t.text, .slice B t.keys.length d]] w (BoolR (madeM ts bs t) w) := by
  have M0 := Mem.start w
  have hn : bs.length ≤ 1000000 := by rw [hl]; exact T.few
  have H := hid h
  have HT := hid T
  have HO := hid ht
  have HR := hid hr
  by_cases e1 : t.kind = 1
  · rw [show madeM ts bs t = false from by rw [madeM, if_pos e1], e1]
    clear T h ht hr h2
    go_enter Try.func67, Try.ntmps67
    go_wp2_with (refine wpList_bx (cs := [.int .i64 1, .string t.text, .slice B t.keys.length d]) rfl rfl M0 rfl rfl (fun b3 w1 M1 => ?_); clear M0; have ck := M1.cell (i := 0) List.mem_cons_self rfl; (conv => arg 5; simp only [Act.put, List.setIfInBounds_toArray, List.set_cons_succ, List.set_cons_zero]))
    go_ret
    exact ⟨rfl, M1.sub (List.nil_sublist _)⟩
  · by_cases e4 : t.kind = 4
    · have hk2 := h2 e4
      have q0 : t.keys[0]? = some (t.keys.getD 0 []) := by rw [List.getD_eq_getElem?_getD, List.getElem?_eq_getElem (by omega)]; rfl
      have q1 : t.keys[1]? = some (t.keys.getD 1 []) := by rw [List.getD_eq_getElem?_getD, List.getElem?_eq_getElem (by omega)]; rfl
      have HK0 := hid (ht.ks _ (List.mem_of_getElem? q0))
      have HK1 := hid (ht.ks _ (List.mem_of_getElem? q1))
      obtain ⟨bk, off, hB, hc0⟩ := keys_at ht.ks hr q0
      obtain ⟨bk', off', hB', hc1⟩ := keys_at ht.ks hr q1
      rw [hB] at hB'
      injection hB' with hB'
      injection hB' with hB1 hB2 _
      subst hB1 hB2 hB
      rw [show madeM ts bs t = ((hasM bs (t.keys.getD 0 []) && pubM ts bs (t.keys.getD 1 [])) || (hasM bs (t.keys.getD 1 []) && pubM ts bs (t.keys.getD 0 []))) from by rw [madeM, if_neg e1, if_pos e4], e4]
      generalize hk0 : t.keys.getD 0 [] = k0 at *
      generalize hk1 : t.keys.getD 1 [] = k1 at *
      have HC0 := hid hc0
      have HC1 := hid hc1
      have hk3 : (0 : Int) < (t.keys.length : Int) := by omega
      have hk4 : (1 : Int) < (t.keys.length : Int) := by omega
      clear T h ht hr h2 hc0 hc1 q0 q1 hk0 hk1 HR
      go_enter Try.func67, Try.ntmps67
      go_wp2_with (refine wpList_bx (cs := [.int .i64 4, .string t.text, .slice (some ⟨bk, off, none⟩) t.keys.length d]) rfl rfl M0 rfl rfl (fun b3 w1 M1 => ?_); clear M0; have ck := M1.cell (i := 0) List.mem_cons_self rfl; (conv => arg 5; simp only [Act.put, List.setIfInBounds_toArray, List.set_cons_succ, List.set_cons_zero]))
      clear ck
      refine wp_region_planT (.free 0 (.free 1 (.free 2 (.free 3 (.free 4 (.free 5 (.free 6 (.free 7 (.two 8 (.one 9 (.one 10 (.one 11 (.done)))) 9 (.one 8 (.one 10 (.one 11 (.done))))))))))))) (by kernel_rfl) (by kernel_rfl) (fun _ _ _ _ _ h => h) M1 (fun w2 M2 => ?_)
      clear M1
      (refine wpT_free rfl rfl (.inl ⟨rfl, fun w _ => by go_simp; rfl⟩) (by assumption) ?_; (conv => arg 6; simp only [Act.put, List.setIfInBounds_toArray, List.set_cons_succ, List.set_cons_zero]))
      refine wpT_free rfl rfl (.inl ⟨rfl, fun w hw => run_ld1 Try.underlying34 rfl rfl rfl (hw.cell (i := 2) List.mem_cons_self rfl)⟩) (by assumption) ?_; (conv => arg 6; simp only [Act.put, List.setIfInBounds_toArray, List.set_cons_succ, List.set_cons_zero])
      refine wpT_free (v := .pointer (some ⟨bk, off, none⟩)) rfl rfl (.inl ⟨rfl, fun w _ => by go_simp; intro hnil; rw [hnil] at hk2; simp at hk2⟩) (by assumption) ?_; (conv => arg 6; simp only [Act.put, List.setIfInBounds_toArray, List.set_cons_succ, List.set_cons_zero])
      refine wpT_free rfl rfl (.inl ⟨rfl, fun w hw => run_ldK Try.underlying26 rfl rfl rfl (hw.cells0 (off := off) (by simpa using HC0.out)) (s26k HK0.out)⟩) (by assumption) ?_; (conv => arg 6; simp only [Act.put, List.setIfInBounds_toArray, List.set_cons_succ, List.set_cons_zero])
      (refine wpT_free rfl rfl (.inl ⟨rfl, fun w _ => by go_simp; rfl⟩) (by assumption) ?_; (conv => arg 6; simp only [Act.put, List.setIfInBounds_toArray, List.set_cons_succ, List.set_cons_zero]))
      refine wpT_free rfl rfl (.inl ⟨rfl, fun w hw => run_ld1 Try.underlying34 rfl rfl rfl (hw.cell (i := 2) List.mem_cons_self rfl)⟩) (by assumption) ?_; (conv => arg 6; simp only [Act.put, List.setIfInBounds_toArray, List.set_cons_succ, List.set_cons_zero])
      refine wpT_free (v := .pointer (some ⟨bk, off + 32, none⟩)) rfl rfl (.inl ⟨rfl, fun w _ => by go_simp⟩) (by assumption) ?_; (conv => arg 6; simp only [Act.put, List.setIfInBounds_toArray, List.set_cons_succ, List.set_cons_zero])
      refine wpT_free rfl rfl (.inl ⟨rfl, fun w hw => run_ldK Try.underlying26 rfl rfl rfl (hw.cells0 (off := off + 32) (by simpa using HC1.out)) (s26k HK1.out)⟩) (by assumption) ?_; (conv => arg 6; simp only [Act.put, List.setIfInBounds_toArray, List.set_cons_succ, List.set_cons_zero])
      have M9 := M2
      refine wpT_two rfl rfl ?_ ?_
      · refine wpList_alN z26 5 rfl rfl rfl M2 (fun b5 w3 M3 => ?_); (conv => arg 5; simp only [Act.put, List.setIfInBounds_toArray, List.set_cons_succ, List.set_cons_zero])
        go_wp2_with fail
        refine PlanTQ.mk M3.tail (wpT_op rfl ?_)
        refine wpList_alN z26 6 rfl rfl rfl M3 (fun b6 w4 M4 => ?_); (conv => arg 5; simp only [Act.put, List.setIfInBounds_toArray, List.set_cons_succ, List.set_cons_zero])
        go_wp2_with fail
        clear M3 M2 M9
        refine PlanTQ.mk M4.tail.tail (wpT_op rfl ?_)
        refine wpList_strowN s26 rfl rfl rfl rfl M4 (Swap.tail Swap.head) (by simp) HK0.out.1 (fun w5 M5 => ?_); (conv => arg 5; simp only [Act.put, List.setIfInBounds_toArray, List.set_cons_succ, List.set_cons_zero])
        go_wp2_with fail
        clear M4
        refine PlanTQ.mk M5.tail.tail (wpT_op rfl ?_)
        refine wpList_strowN s26 rfl rfl rfl rfl M5 Swap.head (by simp) HK1.out.1 (fun w6 M6 => ?_); (conv => arg 5; simp only [Act.put, List.setIfInBounds_toArray, List.set_cons_succ, List.set_cons_zero])
        go_wp2_with fail
        clear M5
        refine PlanTQ.mk M6.tail.tail (wpT_done ?_)
        cases q0 : hasM bs k0
        · cases q2 : hasM bs k1
          ·
            go_wp2_with (first | (apply wpList_want; (· rfl)) | (refine wpList_ldrowN Try.underlying26 s26 rfl rfl rfl rfl M6 (by first | exact List.mem_cons_self | exact List.mem_cons_of_mem _ List.mem_cons_self) (by first | exact HK0.out.1 | exact HK1.out.1) ?_; (conv => arg 5; simp only [Act.put, List.setIfInBounds_toArray, List.set_cons_succ, List.set_cons_zero])) | (go_at_call 42; refine (has42 f g kb c A bs _ _ (H.out.below M6.below) (by first | exact HK0.out | exact HK1.out) hn).mono ?_; rintro e w7 ⟨rfl, M7⟩; replace M6 := M6.call M7.below; clear M7; first | rw [q0] | rw [q2]) | (go_at_call 80; refine (pub80 K f g mb kb c A ts bs _ _ (HT.out.below M6.below) (H.out.below M6.below) (by first | exact HK0.out | exact HK1.out) hl).mono ?_; rintro e w7 ⟨rfl, M7⟩; replace M6 := M6.call M7.below; clear M7; first | rw [q3] | rw [q1]))
            go_ret
            exact ⟨by simp [*], M6.sub (List.nil_sublist _)⟩
          · cases q3 : pubM ts bs k0
            ·
              go_wp2_with (first | (apply wpList_want; (· rfl)) | (refine wpList_ldrowN Try.underlying26 s26 rfl rfl rfl rfl M6 (by first | exact List.mem_cons_self | exact List.mem_cons_of_mem _ List.mem_cons_self) (by first | exact HK0.out.1 | exact HK1.out.1) ?_; (conv => arg 5; simp only [Act.put, List.setIfInBounds_toArray, List.set_cons_succ, List.set_cons_zero])) | (go_at_call 42; refine (has42 f g kb c A bs _ _ (H.out.below M6.below) (by first | exact HK0.out | exact HK1.out) hn).mono ?_; rintro e w7 ⟨rfl, M7⟩; replace M6 := M6.call M7.below; clear M7; first | rw [q0] | rw [q2]) | (go_at_call 80; refine (pub80 K f g mb kb c A ts bs _ _ (HT.out.below M6.below) (H.out.below M6.below) (by first | exact HK0.out | exact HK1.out) hl).mono ?_; rintro e w7 ⟨rfl, M7⟩; replace M6 := M6.call M7.below; clear M7; first | rw [q3] | rw [q1]))
              go_ret
              exact ⟨by simp [*], M6.sub (List.nil_sublist _)⟩
            ·
              go_wp2_with (first | (apply wpList_want; (· rfl)) | (refine wpList_ldrowN Try.underlying26 s26 rfl rfl rfl rfl M6 (by first | exact List.mem_cons_self | exact List.mem_cons_of_mem _ List.mem_cons_self) (by first | exact HK0.out.1 | exact HK1.out.1) ?_; (conv => arg 5; simp only [Act.put, List.setIfInBounds_toArray, List.set_cons_succ, List.set_cons_zero])) | (go_at_call 42; refine (has42 f g kb c A bs _ _ (H.out.below M6.below) (by first | exact HK0.out | exact HK1.out) hn).mono ?_; rintro e w7 ⟨rfl, M7⟩; replace M6 := M6.call M7.below; clear M7; first | rw [q0] | rw [q2]) | (go_at_call 80; refine (pub80 K f g mb kb c A ts bs _ _ (HT.out.below M6.below) (H.out.below M6.below) (by first | exact HK0.out | exact HK1.out) hl).mono ?_; rintro e w7 ⟨rfl, M7⟩; replace M6 := M6.call M7.below; clear M7; first | rw [q3] | rw [q1]))
              go_ret
              exact ⟨by simp [*], M6.sub (List.nil_sublist _)⟩
        · cases q1 : pubM ts bs k1
          · cases q2 : hasM bs k1
            ·
              go_wp2_with (first | (apply wpList_want; (· rfl)) | (refine wpList_ldrowN Try.underlying26 s26 rfl rfl rfl rfl M6 (by first | exact List.mem_cons_self | exact List.mem_cons_of_mem _ List.mem_cons_self) (by first | exact HK0.out.1 | exact HK1.out.1) ?_; (conv => arg 5; simp only [Act.put, List.setIfInBounds_toArray, List.set_cons_succ, List.set_cons_zero])) | (go_at_call 42; refine (has42 f g kb c A bs _ _ (H.out.below M6.below) (by first | exact HK0.out | exact HK1.out) hn).mono ?_; rintro e w7 ⟨rfl, M7⟩; replace M6 := M6.call M7.below; clear M7; first | rw [q0] | rw [q2]) | (go_at_call 80; refine (pub80 K f g mb kb c A ts bs _ _ (HT.out.below M6.below) (H.out.below M6.below) (by first | exact HK0.out | exact HK1.out) hl).mono ?_; rintro e w7 ⟨rfl, M7⟩; replace M6 := M6.call M7.below; clear M7; first | rw [q3] | rw [q1]))
              go_ret
              exact ⟨by simp [*], M6.sub (List.nil_sublist _)⟩
            · cases q3 : pubM ts bs k0
              ·
                go_wp2_with (first | (apply wpList_want; (· rfl)) | (refine wpList_ldrowN Try.underlying26 s26 rfl rfl rfl rfl M6 (by first | exact List.mem_cons_self | exact List.mem_cons_of_mem _ List.mem_cons_self) (by first | exact HK0.out.1 | exact HK1.out.1) ?_; (conv => arg 5; simp only [Act.put, List.setIfInBounds_toArray, List.set_cons_succ, List.set_cons_zero])) | (go_at_call 42; refine (has42 f g kb c A bs _ _ (H.out.below M6.below) (by first | exact HK0.out | exact HK1.out) hn).mono ?_; rintro e w7 ⟨rfl, M7⟩; replace M6 := M6.call M7.below; clear M7; first | rw [q0] | rw [q2]) | (go_at_call 80; refine (pub80 K f g mb kb c A ts bs _ _ (HT.out.below M6.below) (H.out.below M6.below) (by first | exact HK0.out | exact HK1.out) hl).mono ?_; rintro e w7 ⟨rfl, M7⟩; replace M6 := M6.call M7.below; clear M7; first | rw [q3] | rw [q1]))
                go_ret
                exact ⟨by simp [*], M6.sub (List.nil_sublist _)⟩
              ·
                go_wp2_with (first | (apply wpList_want; (· rfl)) | (refine wpList_ldrowN Try.underlying26 s26 rfl rfl rfl rfl M6 (by first | exact List.mem_cons_self | exact List.mem_cons_of_mem _ List.mem_cons_self) (by first | exact HK0.out.1 | exact HK1.out.1) ?_; (conv => arg 5; simp only [Act.put, List.setIfInBounds_toArray, List.set_cons_succ, List.set_cons_zero])) | (go_at_call 42; refine (has42 f g kb c A bs _ _ (H.out.below M6.below) (by first | exact HK0.out | exact HK1.out) hn).mono ?_; rintro e w7 ⟨rfl, M7⟩; replace M6 := M6.call M7.below; clear M7; first | rw [q0] | rw [q2]) | (go_at_call 80; refine (pub80 K f g mb kb c A ts bs _ _ (HT.out.below M6.below) (H.out.below M6.below) (by first | exact HK0.out | exact HK1.out) hl).mono ?_; rintro e w7 ⟨rfl, M7⟩; replace M6 := M6.call M7.below; clear M7; first | rw [q3] | rw [q1]))
                go_ret
                exact ⟨by simp [*], M6.sub (List.nil_sublist _)⟩
          ·
            go_wp2_with (first | (apply wpList_want; (· rfl)) | (refine wpList_ldrowN Try.underlying26 s26 rfl rfl rfl rfl M6 (by first | exact List.mem_cons_self | exact List.mem_cons_of_mem _ List.mem_cons_self) (by first | exact HK0.out.1 | exact HK1.out.1) ?_; (conv => arg 5; simp only [Act.put, List.setIfInBounds_toArray, List.set_cons_succ, List.set_cons_zero])) | (go_at_call 42; refine (has42 f g kb c A bs _ _ (H.out.below M6.below) (by first | exact HK0.out | exact HK1.out) hn).mono ?_; rintro e w7 ⟨rfl, M7⟩; replace M6 := M6.call M7.below; clear M7; first | rw [q0] | rw [q2]) | (go_at_call 80; refine (pub80 K f g mb kb c A ts bs _ _ (HT.out.below M6.below) (H.out.below M6.below) (by first | exact HK0.out | exact HK1.out) hl).mono ?_; rintro e w7 ⟨rfl, M7⟩; replace M6 := M6.call M7.below; clear M7; first | rw [q3] | rw [q1]))
            go_ret
            exact ⟨by simp [*], M6.sub (List.nil_sublist _)⟩
      · refine wpList_alN z26 6 rfl rfl rfl M2 (fun b6 w3 M3 => ?_); (conv => arg 5; simp only [Act.put, List.setIfInBounds_toArray, List.set_cons_succ, List.set_cons_zero])
        go_wp2_with fail
        refine PlanTQ.mk M3.tail (wpT_op rfl ?_)
        refine wpList_alN z26 5 rfl rfl rfl M3 (fun b5 w4 M4 => ?_); (conv => arg 5; simp only [Act.put, List.setIfInBounds_toArray, List.set_cons_succ, List.set_cons_zero])
        go_wp2_with fail
        clear M3 M2 M9
        refine PlanTQ.mk M4.tail.tail (wpT_op rfl ?_)
        refine wpList_strowN s26 rfl rfl rfl rfl M4 Swap.head (by simp) HK0.out.1 (fun w5 M5 => ?_); (conv => arg 5; simp only [Act.put, List.setIfInBounds_toArray, List.set_cons_succ, List.set_cons_zero])
        go_wp2_with fail
        clear M4
        refine PlanTQ.mk M5.tail.tail (wpT_op rfl ?_)
        refine wpList_strowN s26 rfl rfl rfl rfl M5 (Swap.tail Swap.head) (by simp) HK1.out.1 (fun w6 M6 => ?_); (conv => arg 5; simp only [Act.put, List.setIfInBounds_toArray, List.set_cons_succ, List.set_cons_zero])
        go_wp2_with fail
        clear M5
        refine PlanTQ.mk M6.tail.tail (wpT_done ?_)
        cases q0 : hasM bs k0
        · cases q2 : hasM bs k1
          ·
            go_wp2_with (first | (apply wpList_want; (· rfl)) | (refine wpList_ldrowN Try.underlying26 s26 rfl rfl rfl rfl M6 (by first | exact List.mem_cons_self | exact List.mem_cons_of_mem _ List.mem_cons_self) (by first | exact HK0.out.1 | exact HK1.out.1) ?_; (conv => arg 5; simp only [Act.put, List.setIfInBounds_toArray, List.set_cons_succ, List.set_cons_zero])) | (go_at_call 42; refine (has42 f g kb c A bs _ _ (H.out.below M6.below) (by first | exact HK0.out | exact HK1.out) hn).mono ?_; rintro e w7 ⟨rfl, M7⟩; replace M6 := M6.call M7.below; clear M7; first | rw [q0] | rw [q2]) | (go_at_call 80; refine (pub80 K f g mb kb c A ts bs _ _ (HT.out.below M6.below) (H.out.below M6.below) (by first | exact HK0.out | exact HK1.out) hl).mono ?_; rintro e w7 ⟨rfl, M7⟩; replace M6 := M6.call M7.below; clear M7; first | rw [q3] | rw [q1]))
            go_ret
            exact ⟨by simp [*], M6.sub (List.nil_sublist _)⟩
          · cases q3 : pubM ts bs k0
            ·
              go_wp2_with (first | (apply wpList_want; (· rfl)) | (refine wpList_ldrowN Try.underlying26 s26 rfl rfl rfl rfl M6 (by first | exact List.mem_cons_self | exact List.mem_cons_of_mem _ List.mem_cons_self) (by first | exact HK0.out.1 | exact HK1.out.1) ?_; (conv => arg 5; simp only [Act.put, List.setIfInBounds_toArray, List.set_cons_succ, List.set_cons_zero])) | (go_at_call 42; refine (has42 f g kb c A bs _ _ (H.out.below M6.below) (by first | exact HK0.out | exact HK1.out) hn).mono ?_; rintro e w7 ⟨rfl, M7⟩; replace M6 := M6.call M7.below; clear M7; first | rw [q0] | rw [q2]) | (go_at_call 80; refine (pub80 K f g mb kb c A ts bs _ _ (HT.out.below M6.below) (H.out.below M6.below) (by first | exact HK0.out | exact HK1.out) hl).mono ?_; rintro e w7 ⟨rfl, M7⟩; replace M6 := M6.call M7.below; clear M7; first | rw [q3] | rw [q1]))
              go_ret
              exact ⟨by simp [*], M6.sub (List.nil_sublist _)⟩
            ·
              go_wp2_with (first | (apply wpList_want; (· rfl)) | (refine wpList_ldrowN Try.underlying26 s26 rfl rfl rfl rfl M6 (by first | exact List.mem_cons_self | exact List.mem_cons_of_mem _ List.mem_cons_self) (by first | exact HK0.out.1 | exact HK1.out.1) ?_; (conv => arg 5; simp only [Act.put, List.setIfInBounds_toArray, List.set_cons_succ, List.set_cons_zero])) | (go_at_call 42; refine (has42 f g kb c A bs _ _ (H.out.below M6.below) (by first | exact HK0.out | exact HK1.out) hn).mono ?_; rintro e w7 ⟨rfl, M7⟩; replace M6 := M6.call M7.below; clear M7; first | rw [q0] | rw [q2]) | (go_at_call 80; refine (pub80 K f g mb kb c A ts bs _ _ (HT.out.below M6.below) (H.out.below M6.below) (by first | exact HK0.out | exact HK1.out) hl).mono ?_; rintro e w7 ⟨rfl, M7⟩; replace M6 := M6.call M7.below; clear M7; first | rw [q3] | rw [q1]))
              go_ret
              exact ⟨by simp [*], M6.sub (List.nil_sublist _)⟩
        · cases q1 : pubM ts bs k1
          · cases q2 : hasM bs k1
            ·
              go_wp2_with (first | (apply wpList_want; (· rfl)) | (refine wpList_ldrowN Try.underlying26 s26 rfl rfl rfl rfl M6 (by first | exact List.mem_cons_self | exact List.mem_cons_of_mem _ List.mem_cons_self) (by first | exact HK0.out.1 | exact HK1.out.1) ?_; (conv => arg 5; simp only [Act.put, List.setIfInBounds_toArray, List.set_cons_succ, List.set_cons_zero])) | (go_at_call 42; refine (has42 f g kb c A bs _ _ (H.out.below M6.below) (by first | exact HK0.out | exact HK1.out) hn).mono ?_; rintro e w7 ⟨rfl, M7⟩; replace M6 := M6.call M7.below; clear M7; first | rw [q0] | rw [q2]) | (go_at_call 80; refine (pub80 K f g mb kb c A ts bs _ _ (HT.out.below M6.below) (H.out.below M6.below) (by first | exact HK0.out | exact HK1.out) hl).mono ?_; rintro e w7 ⟨rfl, M7⟩; replace M6 := M6.call M7.below; clear M7; first | rw [q3] | rw [q1]))
              go_ret
              exact ⟨by simp [*], M6.sub (List.nil_sublist _)⟩
            · cases q3 : pubM ts bs k0
              ·
                go_wp2_with (first | (apply wpList_want; (· rfl)) | (refine wpList_ldrowN Try.underlying26 s26 rfl rfl rfl rfl M6 (by first | exact List.mem_cons_self | exact List.mem_cons_of_mem _ List.mem_cons_self) (by first | exact HK0.out.1 | exact HK1.out.1) ?_; (conv => arg 5; simp only [Act.put, List.setIfInBounds_toArray, List.set_cons_succ, List.set_cons_zero])) | (go_at_call 42; refine (has42 f g kb c A bs _ _ (H.out.below M6.below) (by first | exact HK0.out | exact HK1.out) hn).mono ?_; rintro e w7 ⟨rfl, M7⟩; replace M6 := M6.call M7.below; clear M7; first | rw [q0] | rw [q2]) | (go_at_call 80; refine (pub80 K f g mb kb c A ts bs _ _ (HT.out.below M6.below) (H.out.below M6.below) (by first | exact HK0.out | exact HK1.out) hl).mono ?_; rintro e w7 ⟨rfl, M7⟩; replace M6 := M6.call M7.below; clear M7; first | rw [q3] | rw [q1]))
                go_ret
                exact ⟨by simp [*], M6.sub (List.nil_sublist _)⟩
              ·
                go_wp2_with (first | (apply wpList_want; (· rfl)) | (refine wpList_ldrowN Try.underlying26 s26 rfl rfl rfl rfl M6 (by first | exact List.mem_cons_self | exact List.mem_cons_of_mem _ List.mem_cons_self) (by first | exact HK0.out.1 | exact HK1.out.1) ?_; (conv => arg 5; simp only [Act.put, List.setIfInBounds_toArray, List.set_cons_succ, List.set_cons_zero])) | (go_at_call 42; refine (has42 f g kb c A bs _ _ (H.out.below M6.below) (by first | exact HK0.out | exact HK1.out) hn).mono ?_; rintro e w7 ⟨rfl, M7⟩; replace M6 := M6.call M7.below; clear M7; first | rw [q0] | rw [q2]) | (go_at_call 80; refine (pub80 K f g mb kb c A ts bs _ _ (HT.out.below M6.below) (H.out.below M6.below) (by first | exact HK0.out | exact HK1.out) hl).mono ?_; rintro e w7 ⟨rfl, M7⟩; replace M6 := M6.call M7.below; clear M7; first | rw [q3] | rw [q1]))
                go_ret
                exact ⟨by simp [*], M6.sub (List.nil_sublist _)⟩
          ·
            go_wp2_with (first | (apply wpList_want; (· rfl)) | (refine wpList_ldrowN Try.underlying26 s26 rfl rfl rfl rfl M6 (by first | exact List.mem_cons_self | exact List.mem_cons_of_mem _ List.mem_cons_self) (by first | exact HK0.out.1 | exact HK1.out.1) ?_; (conv => arg 5; simp only [Act.put, List.setIfInBounds_toArray, List.set_cons_succ, List.set_cons_zero])) | (go_at_call 42; refine (has42 f g kb c A bs _ _ (H.out.below M6.below) (by first | exact HK0.out | exact HK1.out) hn).mono ?_; rintro e w7 ⟨rfl, M7⟩; replace M6 := M6.call M7.below; clear M7; first | rw [q0] | rw [q2]) | (go_at_call 80; refine (pub80 K f g mb kb c A ts bs _ _ (HT.out.below M6.below) (H.out.below M6.below) (by first | exact HK0.out | exact HK1.out) hl).mono ?_; rintro e w7 ⟨rfl, M7⟩; replace M6 := M6.call M7.below; clear M7; first | rw [q3] | rw [q1]))
            go_ret
            exact ⟨by simp [*], M6.sub (List.nil_sublist _)⟩
    · rw [show madeM ts bs t = t.keys.all (hasM bs) from by rw [madeM, if_neg e1, if_neg e4]]
      clear T h ht hr h2
      go_enter Try.func67, Try.ntmps67
      go_wp2_with (first | (refine wpList_bx (cs := [.int .i64 t.kind, .string t.text, .slice B t.keys.length d]) rfl rfl M0 rfl rfl (fun b3 w1 M1 => ?_); clear M0; have ck := M1.cell (i := 0) List.mem_cons_self rfl; have ck2 := M1.cell (i := 2) List.mem_cons_self rfl; (conv => arg 5; simp only [Act.put, List.setIfInBounds_toArray, List.set_cons_succ, List.set_cons_zero])) | (go_at_call 81; refine (all81 f g kb c d A B bs t.keys _ (H.out.below M1.below) HO.out.ks (HR.out.mem M1) hn HO.out.kl).mono ?_; rintro e w2 ⟨rfl, M2⟩; have M3 := M1.call M2.below))
      go_ret
      exact ⟨rfl, M3.sub (List.nil_sublist _)⟩
end Go.Proofs.Ytcapfnbmmdbcoaa
