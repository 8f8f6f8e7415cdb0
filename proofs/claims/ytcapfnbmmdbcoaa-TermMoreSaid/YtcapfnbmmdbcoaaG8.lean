/- A play opens a box on both tables. -/
import Derived.Test.YtcapfnbmmdbcoaaG5
set_option linter.unusedVariables false
set_option linter.unusedSimpArgs false
namespace Go.Proofs.Ytcapfnbmmdbcoaa
open Go.RowKit
def OpnR (K : Nat → Prop) (p g m : Nat) (ts : List Tm) (keys : List (List Int)) (w : World) (e : Ending) (w' : World) : Prop :=
  ∃ ks, e = .returned (.bool true) ∧ ks.length ≤ 10 ∧ TF K (playS p g m ts (keys ++ ks)) w w' []
theorem wpN_stC {P : Program} {ops : Array Oper} {rest : List Oper} {o : Oper} {a : Act} {w w0 : World} {Q : Exit → Act → World → Prop} {E : List Nat} {L L' : List Item} (hd : o.dst = none) (hgd : o.guard = none) {ty : TypeId} {x y : Operand} (ho : o.op = .store ty x y) {g : Nat} (hx : a.eval x = .pointer (some ⟨g, 0, none⟩)) {vs : List Value} (hy : a.eval y = .agg vs.toArray)
    (M : Mem w0 E w L) {t : TypeId} {cs : List Value} (hs : Swap (.blk g (cellsO t cs)) (.blk g (cellsO t vs)) L L') (hsz : (P.info? ty).map (·.size) = some vs.length) (hl : cs.length = vs.length) (h1 : ∀ v ∈ vs, v.oneCell' = true)
    (h : ∀ w', Mem w0 E w' L' → wpList P ops Q rest a w') : wpList P ops Q (o :: rest) a w :=
  wpList_strow hgd ho hx hy M hs hsz hl h1 fun w' M => by rw [hd]; exact h w' M
theorem wpN_alC {P : Program} {ops : Array Oper} {rest : List Oper} {o : Oper} {a : Act} {w w0 : World} {Q : Exit → Act → World → Prop} {E : List Nat} {L : List Item} (m : Nat) (hm : o.dst = some m) (hgd : o.guard = none) {ty : TypeId} (ho : o.op = .alloc ty) (M : Mem w0 E w L) {z : Value} {cs : List Value} (hz : (P.info? ty).map (·.zero) = some (some z)) (hzc : z.cells = cs.toArray)
    (h : ∀ b w', Mem w0 E w' (.blk b (cellsO ty cs) :: L) → wpList P ops Q rest (a.put (some m) (.pointer (some ⟨b, 0, none⟩))) w') : wpList P ops Q (o :: rest) a w :=
  wpList_al hgd ho M hz hzc (by rw [hm]; exact h)
theorem str_eq (s : ByteArray) : (s.toList == s.toList) = true := by simp
set_option maxRecDepth 100000 in
set_option maxHeartbeats 8000000 in
theorem open55 {K : Nat → Prop} {w : World} {p g m n : Nat} {ts : List Tm} {keys : List (List Int)} {c : Sp} {I : Option Addr} {ic : Nat} (h : DoP K w p g m n ts keys c I ic) :
    Calls Try.prog 55 #[.pointer (some ⟨p, 0, none⟩), .agg (spCells c I ic).toArray] w (OpnR K p g m ts keys w) := by
  have H := TF.start h.res h.lt
  have hs := hid h
  obtain ⟨ka, hka⟩ : ∃ k, k = atK keys c.at_ := ⟨_, rfl⟩
  obtain ⟨kb, hkb⟩ : ∃ k, k = atK keys (c.keys.getD 0 0) := ⟨_, rfl⟩
  obtain ⟨kz, hkz⟩ : ∃ k, k = atK keys ((keys.length : Int) - 1) := ⟨_, rfl⟩
  have EA := hid hka.symm
  have EB := hid hkb.symm
  have EZ := hid hkz.symm
  have HA := hid (show KeyOk ka from by rw [hka]; exact h.at _)
  have HB := hid (show KeyOk kb from by rw [hkb]; exact h.at _)
  have HZ := hid (show KeyOk kz from by rw [hkz]; exact h.at _)
  have HAT := hid (fun i => h.at i)
  have HRAW := hid h.raw
  have HTW := hid h.pi.tw
  have HKL := hid h.pi.kl
  have hkl1 := h.pi.k1
  have hkl := h.hl
  have htl : ts.length ≤ 900000 := by have := h.tl; omega
  clear h hka hkb hkz
  go_enter Try.func55, Try.ntmps55
  go_upto_if 33 with (first | (refine wpF_bxC (cs := spCells c I ic) 3 H (ok3 _ _ _ _ _ _) rfl rfl rfl rfl (fun b3 w1 H1 => ?_); clear H; rename TF _ _ _ _ _ => H; have c35 := H.reb.cell (i := 35) (g := b3) (v := .slice I c.keys.length ic) (by (repeat (first | exact List.mem_cons_self | refine List.mem_cons_of_mem _ ?_))) (sp_keys HRAW.out); obtain ⟨_, _, cp⟩ := H.playCell2; (conv => arg 5; simp only [Act.put, List.setIfInBounds_toArray, List.set_cons_succ, List.set_cons_zero])) | (refine wpList_ldagg 18 rfl Try.underlying66 rfl rfl rfl rfl (H.cellC (by (repeat (first | exact List.mem_cons_self | refine List.mem_cons_of_mem _ ?_)))) (sz66 HRAW.out) ?_; (conv => arg 5; simp only [Act.put, List.setIfInBounds_toArray, List.set_cons_succ, List.set_cons_zero])) | (go_at_call 51; refine (two51N hs.out H EA.out EB.out).mono ?_; rintro e wn ⟨rfl, M⟩; replace H := H.call0 (ok3 _ _ _ _ _ _) M; clear M; clear c35 cp; have c35 := H.reb.cell (i := 35) (g := b3) (v := .slice I c.keys.length ic) (by (repeat (first | exact List.mem_cons_self | refine List.mem_cons_of_mem _ ?_))) (sp_keys HRAW.out); obtain ⟨_, _, cp⟩ := H.playCell2) | (refine wpF_al 5 H (ok3 _ _ _ _ _ _) z26 rfl rfl rfl (fun b5 wn Hn => ?_); clear H; rename TF _ _ _ _ _ => H; clear c35 cp; have c35 := H.reb.cell (i := 35) (g := b3) (v := .slice I c.keys.length ic) (by (repeat (first | exact List.mem_cons_self | refine List.mem_cons_of_mem _ ?_))) (sp_keys HRAW.out); obtain ⟨_, _, cp⟩ := H.playCell2; (conv => arg 5; simp only [Act.put, List.setIfInBounds_toArray, List.set_cons_succ, List.set_cons_zero])) | (refine wpF_al 6 H (ok3 _ _ _ _ _ _) z26 rfl rfl rfl (fun b6 wn Hn => ?_); clear H; rename TF _ _ _ _ _ => H; clear c35 cp; have c35 := H.reb.cell (i := 35) (g := b3) (v := .slice I c.keys.length ic) (by (repeat (first | exact List.mem_cons_self | refine List.mem_cons_of_mem _ ?_))) (sp_keys HRAW.out); obtain ⟨_, _, cp⟩ := H.playCell2; (conv => arg 5; simp only [Act.put, List.setIfInBounds_toArray, List.set_cons_succ, List.set_cons_zero])) | (refine wpF_al 7 H (ok3 _ _ _ _ _ _) z26 rfl rfl rfl (fun b7 wn Hn => ?_); clear H; rename TF _ _ _ _ _ => H; clear c35 cp; have c35 := H.reb.cell (i := 35) (g := b3) (v := .slice I c.keys.length ic) (by (repeat (first | exact List.mem_cons_self | refine List.mem_cons_of_mem _ ?_))) (sp_keys HRAW.out); obtain ⟨_, _, cp⟩ := H.playCell2; (conv => arg 5; simp only [Act.put, List.setIfInBounds_toArray, List.set_cons_succ, List.set_cons_zero])) | (refine wpF_st0 (ys := ka) rfl H (ok3 _ _ _ _ _ _) s26 rfl rfl rfl rfl (by (repeat (first | exact Swap.head | apply Swap.tail))) (by first | simp | exact HZ.out.1) (by exact HA.out.1) (fun wn Hn => ?_); clear H; rename TF _ _ _ _ _ => H; clear c35 cp; have c35 := H.reb.cell (i := 35) (g := b3) (v := .slice I c.keys.length ic) (by (repeat (first | exact List.mem_cons_self | refine List.mem_cons_of_mem _ ?_))) (sp_keys HRAW.out); obtain ⟨_, _, cp⟩ := H.playCell2; (try (conv => arg 5; simp only [Act.put, List.setIfInBounds_toArray, List.set_cons_succ, List.set_cons_zero]))) | (refine wpF_st0 (ys := kb) rfl H (ok3 _ _ _ _ _ _) s26 rfl rfl rfl rfl (by (repeat (first | exact Swap.head | apply Swap.tail))) (by first | simp | exact HZ.out.1) (by exact HB.out.1) (fun wn Hn => ?_); clear H; rename TF _ _ _ _ _ => H; clear c35 cp; have c35 := H.reb.cell (i := 35) (g := b3) (v := .slice I c.keys.length ic) (by (repeat (first | exact List.mem_cons_self | refine List.mem_cons_of_mem _ ?_))) (sp_keys HRAW.out); obtain ⟨_, _, cp⟩ := H.playCell2; (try (conv => arg 5; simp only [Act.put, List.setIfInBounds_toArray, List.set_cons_succ, List.set_cons_zero]))) | (go_at_call 31; refine (at31N hs.out H EZ.out).mono ?_; rintro e wn ⟨rfl, M⟩; replace H := H.call0 (ok3 _ _ _ _ _ _) M; clear M; clear c35 cp; have c35 := H.reb.cell (i := 35) (g := b3) (v := .slice I c.keys.length ic) (by (repeat (first | exact List.mem_cons_self | refine List.mem_cons_of_mem _ ?_))) (sp_keys HRAW.out); obtain ⟨_, _, cp⟩ := H.playCell2) | (refine wpF_st0 (ys := kz) rfl H (ok3 _ _ _ _ _ _) s26 rfl rfl rfl rfl (by (repeat (first | exact Swap.head | apply Swap.tail))) (by first | simp | exact HZ.out.1) (by exact HZ.out.1) (fun wn Hn => ?_); clear H; rename TF _ _ _ _ _ => H; clear c35 cp; have c35 := H.reb.cell (i := 35) (g := b3) (v := .slice I c.keys.length ic) (by (repeat (first | exact List.mem_cons_self | refine List.mem_cons_of_mem _ ?_))) (sp_keys HRAW.out); obtain ⟨_, _, cp⟩ := H.playCell2; (try (conv => arg 5; simp only [Act.put, List.setIfInBounds_toArray, List.set_cons_succ, List.set_cons_zero]))))
  clear c35 cp
  go_cut [30] from 31 (fun _ wx => ∃ kx, KeyOk kx ∧ TF K (playS p g m ts keys) w wx [.blk b7 (rowO .u8 26 kx), .blk b6 (rowO .u8 26 kb), .blk b5 (rowO .u8 26 ka), .blk b3 (cellsO 66 (spCells c I ic))])
  case first =>
    have c35 := H.reb.cell (i := 35) (g := b3) (v := .slice I c.keys.length ic) (by (repeat (first | exact List.mem_cons_self | refine List.mem_cons_of_mem _ ?_))) (sp_keys HRAW.out)
    by_cases hk : 1 < c.keys.length
    · have hkI : (1 : Int) < (c.keys.length : Int) := by omega
      obtain ⟨a1, ha1⟩ : ∃ a, c.keys[1]? = some a := ⟨_, List.getElem?_eq_getElem hk⟩
      obtain ⟨bi, oi, hIe, hcell⟩ := (H.rowC hs.out.row hs.out.out).cell (i := 1) (v := .int .i64 a1) (by simp [nums, ha1])
      subst hIe
      obtain ⟨k1, hk1⟩ : ∃ k, k = atK keys a1 := ⟨_, rfl⟩
      have E1 := hid hk1.symm
      have H1 := hid (show KeyOk k1 from by rw [hk1]; exact HAT.out _)
      clear hk1 ha1
      go_wp2_with (first | (go_at_call 31; refine (at31N hs.out H E1.out).mono ?_; rintro e wn ⟨rfl, M⟩; replace H := H.call0 (ok3 _ _ _ _ _ _) M; clear M hcell c35) | (refine wpF_st0 (ys := k1) rfl H (ok3 _ _ _ _ _ _) s26 rfl rfl rfl rfl (by (repeat (first | exact Swap.head | apply Swap.tail))) HZ.out.1 H1.out.1 (fun wn Hn => ?_); clear H; rename TF _ _ _ _ _ => H; (try (conv => arg 5; simp only [Act.put, List.setIfInBounds_toArray, List.set_cons_succ, List.set_cons_zero]))))
      go_meet
      exact ⟨k1, H1.out, H⟩
    · have hkI : ¬ (1 : Int) < (c.keys.length : Int) := by omega
      go_wp2_with fail
      go_meet
      exact ⟨kz, HZ.out, H⟩
  case rest =>
    clear H
    obtain ⟨kx, hkx, H⟩ := hcut
    have HX := hid hkx
    clear hkx
    go_wp2_with fail
    go_cut [8, 40] from 41 (fun s8 _ wx => ∃ (b8 : Nat) (B : Option Addr) (d : Nat) (t : Tm), s8 = .pointer (some ⟨b8, 0, none⟩) ∧ (∀ q ∈ t.keys, KeyOk q) ∧ RowA wx B (nums .u8 t.keys.flatten) (.blk b8 (cellsO 95 [.int .i64 t.kind, .string t.text, .slice B t.keys.length d]) :: [.blk b7 (rowO .u8 26 kx), .blk b6 (rowO .u8 26 kb), .blk b5 (rowO .u8 26 ka), .blk b3 (cellsO 66 (spCells c I ic))]) ∧ TF K (playS p g m ts keys) w wx (.blk b8 (cellsO 95 [.int .i64 t.kind, .string t.text, .slice B t.keys.length d]) :: [.blk b7 (rowO .u8 26 kx), .blk b6 (rowO .u8 26 kb), .blk b5 (rowO .u8 26 ka), .blk b3 (cellsO 66 (spCells c I ic))]))
    case first =>
      have HLK := hid (H.lookOk HX.out).1
      refine wp_region_planTP [.blk b7 (rowO .u8 26 kx)] (PlayC p g m) (.free 0 (.free 1 (.free 2 (.free 3 (.free 4 (.two 5 (.one 6 (.one 7 (.done))) 6 (.one 5 (.one 7 (.done))))))))) (by kernel_rfl) (by kernel_rfl) (fun _ _ _ _ _ h => h) H (ok3 _ _ _ _ _ _) ?_
      clear H
      intro ops Q HO HQ wr H _
      have hops := HO.out
      subst hops
      (refine wpT_free rfl rfl (.inl ⟨rfl, fun w _ => by go_simp; rfl⟩) (by exact H.stP (by (repeat (first | exact List.Sublist.refl _ | apply List.Sublist.cons_cons | apply List.Sublist.cons)))) ?_; (conv => arg 6; simp only [Act.put, List.setIfInBounds_toArray, List.set_cons_succ, List.set_cons_zero]))
      (refine wpT_free rfl rfl (.inl ⟨rfl, fun w _ => by go_simp; rfl⟩) (by exact H.stP (by (repeat (first | exact List.Sublist.refl _ | apply List.Sublist.cons_cons | apply List.Sublist.cons)))) ?_; (conv => arg 6; simp only [Act.put, List.setIfInBounds_toArray, List.set_cons_succ, List.set_cons_zero]))
      (refine wpT_free rfl rfl (.inl ⟨rfl, fun w _ => by go_simp; rfl⟩) (by exact H.stP (by (repeat (first | exact List.Sublist.refl _ | apply List.Sublist.cons_cons | apply List.Sublist.cons)))) ?_; (conv => arg 6; simp only [Act.put, List.setIfInBounds_toArray, List.set_cons_succ, List.set_cons_zero]))
      (refine wpT_free rfl rfl (.inl ⟨rfl, fun w hw => run_ld1 Try.underlying44 rfl rfl rfl hw.2.2⟩) (by exact H.stP (by (repeat (first | exact List.Sublist.refl _ | apply List.Sublist.cons_cons | apply List.Sublist.cons)))) ?_; (conv => arg 6; simp only [Act.put, List.setIfInBounds_toArray, List.set_cons_succ, List.set_cons_zero]))
      (refine wpT_free rfl rfl (.inl ⟨rfl, fun w hw => by obtain ⟨⟨_, _, M⟩, _⟩ := hw; exact run_ldrowN (xs := kx) Try.underlying26 s26 rfl rfl rfl M (by (repeat (first | exact List.mem_cons_self | refine List.mem_cons_of_mem _ ?_))) HX.out.1⟩) (by exact H.stP (by (repeat (first | exact List.Sublist.refl _ | apply List.Sublist.cons_cons | apply List.Sublist.cons)))) ?_; (conv => arg 6; simp only [Act.put, List.setIfInBounds_toArray, List.set_cons_succ, List.set_cons_zero]))
      refine wpT_two rfl rfl ?_ ?_
      · go_wp2_with (go_at_call 58; refine (LookRA H HX.out).mono ?_; rintro e wn ⟨B, d, rfl, hr, M⟩; replace H := H.call0 (ok3 _ _ _ _ _ _) M; clear M; have HR := hid hr; clear hr)
        refine PlanTQ.mk (by exact H.stP (by (repeat (first | exact List.Sublist.refl _ | apply List.Sublist.cons_cons | apply List.Sublist.cons)))) ?_
        refine wpT_op rfl ?_
        go_wp2_with (refine wpN_alC 8 rfl rfl rfl H.reb z95 rfl (fun b8 wn Nn => ?_); replace HR := hid (HR.out.step Nn); replace H := H.step (ok3 _ _ _ _ _ _) Nn; clear Nn; (conv => arg 5; simp only [Act.put, List.setIfInBounds_toArray, List.set_cons_succ, List.set_cons_zero]))
        refine PlanTQ.mk (by exact H.stP (by (repeat (first | exact List.Sublist.refl _ | apply List.Sublist.cons_cons | apply List.Sublist.cons)))) ?_
        refine wpT_op rfl ?_
        go_wp2_with (refine wpN_stC (vs := [.int .i64 (lookT ts kx).kind, .string (lookT ts kx).text, .slice B (lookT ts kx).keys.length d]) rfl rfl rfl rfl rfl H.reb Swap.head sz95 rfl (by simp [Value.oneCell']) (fun wn Nn => ?_); replace HR := hid (HR.out.step Nn); replace H := H.step (ok3 _ _ _ _ _ _) Nn; clear Nn; (try (conv => arg 5; simp only [Act.put, List.setIfInBounds_toArray, List.set_cons_succ, List.set_cons_zero])))
        refine PlanTQ.mk (by exact H.stP (by (repeat (first | exact List.Sublist.refl _ | apply List.Sublist.cons_cons | apply List.Sublist.cons)))) ?_
        refine wpT_done ?_
        rw [HQ.out]
        go_wp2_with fail
        go_meet
        exact ⟨b8, B, d, lookT ts kx, rfl, HLK.out, HR.out, H⟩
      · go_wp2_with (refine wpN_alC 8 rfl rfl rfl H.reb z95 rfl (fun b8 wn Nn => ?_); replace H := H.step (ok3 _ _ _ _ _ _) Nn; clear Nn; (conv => arg 5; simp only [Act.put, List.setIfInBounds_toArray, List.set_cons_succ, List.set_cons_zero]))
        refine PlanTQ.mk (by exact H.stP (by (repeat (first | exact List.Sublist.refl _ | apply List.Sublist.cons_cons | apply List.Sublist.cons)))) ?_
        refine wpT_op rfl ?_
        go_wp2_with (go_at_call 58; refine (LookRA H HX.out).mono ?_; rintro e wn ⟨B, d, rfl, hr, M⟩; replace H := H.call0 (ok3 _ _ _ _ _ _) M; clear M; have HR := hid hr; clear hr)
        refine PlanTQ.mk (by exact H.stP (by (repeat (first | exact List.Sublist.refl _ | apply List.Sublist.cons_cons | apply List.Sublist.cons)))) ?_
        refine wpT_op rfl ?_
        go_wp2_with (refine wpN_stC (vs := [.int .i64 (lookT ts kx).kind, .string (lookT ts kx).text, .slice B (lookT ts kx).keys.length d]) rfl rfl rfl rfl rfl H.reb Swap.head sz95 rfl (by simp [Value.oneCell']) (fun wn Nn => ?_); replace HR := hid (HR.out.step Nn); replace H := H.step (ok3 _ _ _ _ _ _) Nn; clear Nn; (try (conv => arg 5; simp only [Act.put, List.setIfInBounds_toArray, List.set_cons_succ, List.set_cons_zero])))
        refine PlanTQ.mk (by exact H.stP (by (repeat (first | exact List.Sublist.refl _ | apply List.Sublist.cons_cons | apply List.Sublist.cons)))) ?_
        refine wpT_done ?_
        rw [HQ.out]
        go_wp2_with fail
        go_meet
        exact ⟨b8, B, d, lookT ts kx, rfl, HLK.out, HR.out, H⟩
    case rest =>
      clear H
      obtain ⟨b8, B, d, t, rfl, hto, hra, H⟩ := hcut
      have HTO := hid hto
      have HRA := hid hra
      clear hto hra
      go_upto_region 6 with fail
      go_cut [55] from 46 (fun s55 wx => s55 = .bool (decide (2 < c.keys.length) && decide (1 < t.keys.length)) ∧ wx = wc)
      case first =>
        have c35 := H.reb.cell (i := 35) (g := b3) (v := .slice I c.keys.length ic) (by (repeat (first | exact List.mem_cons_self | refine List.mem_cons_of_mem _ ?_))) (sp_keys HRAW.out)
        have c8 := H.reb.cell (i := 2) (g := b8) (v := .slice B t.keys.length d) (by (repeat (first | exact List.mem_cons_self | refine List.mem_cons_of_mem _ ?_))) rfl
        by_cases hk : 2 < c.keys.length
        · have hkI : (2 : Int) < (c.keys.length : Int) := by omega
          by_cases ht : 1 < t.keys.length
          · have htI : (1 : Int) < (t.keys.length : Int) := by omega
            go_wp2_with (first | (apply wpList_wantLd; (· rfl)))
            go_meet
            exact ⟨by simp [hk, ht], rfl⟩
          · have htI : ¬ (1 : Int) < (t.keys.length : Int) := by omega
            go_wp2_with (first | (apply wpList_wantLd; (· rfl)))
            go_meet
            exact ⟨by simp [hk, ht], rfl⟩
        · have hkI : ¬ (2 : Int) < (c.keys.length : Int) := by omega
          go_wp2_with (first | (apply wpList_wantLd; (· rfl)))
          go_meet
          exact ⟨by simp [hk], rfl⟩
      case rest =>
        obtain ⟨rfl, rfl⟩ := hcut
        go_upto_if 55 with fail
        go_cut [45] from 46 (fun _ wx => ∃ x y, KeyOk x ∧ KeyOk y ∧ TF K (playS p g m ts keys) w wx [.blk b7 (rowO .u8 26 kx), .blk b6 (rowO .u8 26 y), .blk b5 (rowO .u8 26 x), .blk b3 (cellsO 66 (spCells c I ic))])
        case first =>
          have c8 := H.reb.cell (i := 2) (g := b8) (v := .slice B t.keys.length d) (by (repeat (first | exact List.mem_cons_self | refine List.mem_cons_of_mem _ ?_))) rfl
          by_cases hk : 2 < c.keys.length ∧ 1 < t.keys.length
          · have hkb : (decide (2 < c.keys.length) && decide (1 < t.keys.length)) = true := by simp [hk.1, hk.2]
            have htI : (1 : Int) < (t.keys.length : Int) := by omega
            obtain ⟨x, hx⟩ : ∃ x, t.keys[0]? = some x := ⟨_, List.getElem?_eq_getElem (by omega)⟩
            obtain ⟨y, hy⟩ : ∃ y, t.keys[1]? = some y := ⟨_, List.getElem?_eq_getElem hk.2⟩
            have HKX := hid (HTO.out x (List.mem_of_getElem? hx))
            have HKY := hid (HTO.out y (List.mem_of_getElem? hy))
            obtain ⟨bB, oB, hBe, hc0⟩ := keys_at HTO.out HRA.out.1 hx
            subst hBe
            have HY := hid hy
            have HC0 := hid (show ∀ (j : Nat) (v : Value), (nums .u8 x)[j]? = some v → wc.cell? ⟨bB, oB + j, none⟩ = some v from fun j v hv => by have := hc0 j v hv; rwa [Nat.zero_mul, Nat.add_zero] at this)
            clear hc0 hx hy hk
            rw [hkb]
            clear hkb
            go_wp2_with (first
              | (refine wpList_ldagg 59 rfl Try.underlying26 rfl rfl rfl rfl HC0.out (s26k HKX.out) ?_; (conv => arg 5; simp only [Act.put, List.setIfInBounds_toArray, List.set_cons_succ, List.set_cons_zero]))
              | (refine wpList_strowN (ys := x) s26 rfl rfl rfl rfl H.reb (by (repeat (first | exact Swap.head | apply Swap.tail))) HA.out.1 HKX.out.1 (fun wn Nn => ?_); replace HRA := hid (HRA.out.step Nn); replace H := H.step (ok3 _ _ _ _ _ _) Nn; clear Nn HC0 c8; have c8 := H.reb.cell (i := 2) (g := b8) (v := .slice _ t.keys.length d) (by (repeat (first | exact List.mem_cons_self | refine List.mem_cons_of_mem _ ?_))) rfl; (try (conv => arg 5; simp only [Act.put, List.setIfInBounds_toArray, List.set_cons_succ, List.set_cons_zero])))
              | (refine wpList_ldagg 63 rfl Try.underlying26 rfl rfl rfl rfl (off := oB + 32) (fun j v hv => key_two HTO.out HRA.out.1 HY.out hv) (s26k HKY.out) ?_; (conv => arg 5; simp only [Act.put, List.setIfInBounds_toArray, List.set_cons_succ, List.set_cons_zero]))
              | (refine wpList_strowN (ys := y) s26 rfl rfl rfl rfl H.reb (by (repeat (first | exact Swap.head | apply Swap.tail))) HB.out.1 HKY.out.1 (fun wn Nn => ?_); replace H := H.step (ok3 _ _ _ _ _ _) Nn; clear Nn c8; (try (conv => arg 5; simp only [Act.put, List.setIfInBounds_toArray, List.set_cons_succ, List.set_cons_zero]))))
            go_meet
            exact ⟨x, y, HKX.out, HKY.out, H.sub (by (repeat (first | exact List.Sublist.refl _ | apply List.Sublist.cons_cons | apply List.Sublist.cons)))⟩
          · have hkb : (decide (2 < c.keys.length) && decide (1 < t.keys.length)) = false := by simpa using hk
            clear hk
            rw [hkb]
            clear hkb
            go_wp2_with fail
            go_meet
            exact ⟨ka, kb, HA.out, HB.out, H.sub (by (repeat (first | exact List.Sublist.refl _ | apply List.Sublist.cons_cons | apply List.Sublist.cons)))⟩
        case rest =>
          clear H HRA HTO
          obtain ⟨x, y, hkx, hky, H⟩ := hcut
          have HKX := hid hkx
          have HKY := hid hky
          clear hkx hky
          have c35 := H.reb.cell (i := 35) (g := b3) (v := .slice _ c.keys.length ic) (by (repeat (first | exact List.mem_cons_self | refine List.mem_cons_of_mem _ ?_))) (sp_keys HRAW.out)
          go_upto_if 69 with (first | (apply wpList_slW Try.underlying26 s5 (by decide); (· rfl); (· rfl); (· rfl); (conv => arg 5; simp only [Act.put, List.setIfInBounds_toArray, List.set_cons_succ, List.set_cons_zero])) | (refine wpList_cvS Try.underlying37 Try.underlying5 Try.underlying9 rfl rfl rfl H.reb (xs := kx) (by (repeat (first | exact List.mem_cons_self | refine List.mem_cons_of_mem _ ?_))) (by rw [HX.out.1]; decide) ?_; (conv => arg 5; simp only [Act.put, List.setIfInBounds_toArray, List.set_cons_succ, List.set_cons_zero])))
          clear c35
          go_cut [9] from 64 (fun s9 wx => ∃ s : ByteArray, s9 = .string s ∧ TF K (playS p g m ts keys) w wx [.blk b7 (rowO .u8 26 kx), .blk b6 (rowO .u8 26 y), .blk b5 (rowO .u8 26 x), .blk b3 (cellsO 66 (spCells c I ic))])
          case first =>
            have c2 := H.reb.cell (i := 2) (g := b3) (v := .string c.text) (by (repeat (first | exact List.mem_cons_self | refine List.mem_cons_of_mem _ ?_))) rfl
            by_cases hk : 4 < c.keys.length
            · have hkI : (4 : Int) < (c.keys.length : Int) := by omega
              go_wp2_with fail
              go_meet
              exact ⟨_, rfl, H⟩
            · have hkI : ¬ (4 : Int) < (c.keys.length : Int) := by omega
              go_wp2_with fail
              go_meet
              exact ⟨_, rfl, H⟩
          case rest =>
            clear H
            obtain ⟨s, rfl, H⟩ := hcut
            go_wp2_with fail
            refine wp_region_planTP [.blk b6 (rowO .u8 26 y), .blk b5 (rowO .u8 26 x)] (PlayC p g m) (.free 0 (.free 1 (.free 2 (.free 3 (.free 4 (.free 5 (.free 6 (.one 7 (.free 8 (.free 9 (.free 10 (.free 11 (.free 12 (.free 13 (.free 14 (.done)))))))))))))))) (by kernel_rfl) (by kernel_rfl) (fun _ _ _ _ _ h => h) H (ok3 _ _ _ _ _ _) ?_
            clear H
            intro ops Q HO HQ wr H _
            obtain ⟨A9, c9, cp⟩ := H.playCell2
            have CP := hid cp
            clear cp
            have hops := HO.out
            subst hops
            (refine wpT_free rfl rfl (.inl ⟨rfl, fun w _ => by go_simp; rfl⟩) (by exact H.stP (by (repeat (first | exact List.Sublist.refl _ | apply List.Sublist.cons_cons | apply List.Sublist.cons)))) ?_; (conv => arg 6; simp only [Act.put, List.setIfInBounds_toArray, List.set_cons_succ, List.set_cons_zero]))
            (refine wpT_free rfl rfl (.inl ⟨rfl, fun w _ => by go_simp; rfl⟩) (by exact H.stP (by (repeat (first | exact List.Sublist.refl _ | apply List.Sublist.cons_cons | apply List.Sublist.cons)))) ?_; (conv => arg 6; simp only [Act.put, List.setIfInBounds_toArray, List.set_cons_succ, List.set_cons_zero]))
            (refine wpT_free rfl rfl (.inl ⟨rfl, fun w _ => by go_simp; rfl⟩) (by exact H.stP (by (repeat (first | exact List.Sublist.refl _ | apply List.Sublist.cons_cons | apply List.Sublist.cons)))) ?_; (conv => arg 6; simp only [Act.put, List.setIfInBounds_toArray, List.set_cons_succ, List.set_cons_zero]))
            (refine wpT_free rfl rfl (.inl ⟨rfl, fun w hw => run_ld1 Try.underlying23 rfl rfl rfl hw.2.1⟩) (by exact H.stP (by (repeat (first | exact List.Sublist.refl _ | apply List.Sublist.cons_cons | apply List.Sublist.cons)))) ?_; (conv => arg 6; simp only [Act.put, List.setIfInBounds_toArray, List.set_cons_succ, List.set_cons_zero]))
            (refine wpT_free rfl rfl (.inl ⟨rfl, fun w hw => by obtain ⟨⟨_, _, M⟩, _⟩ := hw; exact run_ldrowN (xs := x) Try.underlying26 s26 rfl rfl rfl M (by (repeat (first | exact List.mem_cons_self | refine List.mem_cons_of_mem _ ?_))) HKX.out.1⟩) (by exact H.stP (by (repeat (first | exact List.Sublist.refl _ | apply List.Sublist.cons_cons | apply List.Sublist.cons)))) ?_; (conv => arg 6; simp only [Act.put, List.setIfInBounds_toArray, List.set_cons_succ, List.set_cons_zero]))
            (refine wpT_free rfl rfl (.inl ⟨rfl, fun w hw => by obtain ⟨⟨_, _, M⟩, _⟩ := hw; exact run_ldrowN (xs := y) Try.underlying26 s26 rfl rfl rfl M (by (repeat (first | exact List.mem_cons_self | refine List.mem_cons_of_mem _ ?_))) HKY.out.1⟩) (by exact H.stP (by (repeat (first | exact List.Sublist.refl _ | apply List.Sublist.cons_cons | apply List.Sublist.cons)))) ?_; (conv => arg 6; simp only [Act.put, List.setIfInBounds_toArray, List.set_cons_succ, List.set_cons_zero]))
            (refine wpT_free rfl rfl (.inl ⟨rfl, fun w _ => by go_simp; rfl⟩) (by exact H.stP (by (repeat (first | exact List.Sublist.refl _ | apply List.Sublist.cons_cons | apply List.Sublist.cons)))) ?_; (conv => arg 6; simp only [Act.put, List.setIfInBounds_toArray, List.set_cons_succ, List.set_cons_zero]))
            refine wpT_op rfl ?_
            go_wp2_with (go_at_call 17; refine (OpenPA H HTW.out HKX.out HKY.out CP.out).mono ?_; rintro e wn ⟨A, d, rfl, hr, ha, M⟩; replace H := H.call0 (ok3 _ _ _ _ _ _) M; replace CP := hid (M.cell0 CP.out); have HR := hid hr; have HW := hid ha; clear M hr ha)
            refine PlanTQ.mk (by exact H.stP (by (repeat (first | exact List.Sublist.refl _ | apply List.Sublist.cons_cons | apply List.Sublist.cons)))) ?_
            (refine wpT_free rfl rfl (.inl ⟨rfl, fun w _ => by go_simp; rfl⟩) (by exact H.stP (by (repeat (first | exact List.Sublist.refl _ | apply List.Sublist.cons_cons | apply List.Sublist.cons)))) ?_; (conv => arg 6; simp only [Act.put, List.setIfInBounds_toArray, List.set_cons_succ, List.set_cons_zero]))
            (refine wpT_free rfl rfl (.inl ⟨rfl, fun w _ => by go_simp; rfl⟩) (by exact H.stP (by (repeat (first | exact List.Sublist.refl _ | apply List.Sublist.cons_cons | apply List.Sublist.cons)))) ?_; (conv => arg 6; simp only [Act.put, List.setIfInBounds_toArray, List.set_cons_succ, List.set_cons_zero]))
            (refine wpT_free rfl rfl (.inl ⟨rfl, fun w _ => by go_simp; rfl⟩) (by exact H.stP (by (repeat (first | exact List.Sublist.refl _ | apply List.Sublist.cons_cons | apply List.Sublist.cons)))) ?_; (conv => arg 6; simp only [Act.put, List.setIfInBounds_toArray, List.set_cons_succ, List.set_cons_zero]))
            (refine wpT_free rfl rfl (.inl ⟨rfl, fun w _ => by go_simp; rfl⟩) (by exact H.stP (by (repeat (first | exact List.Sublist.refl _ | apply List.Sublist.cons_cons | apply List.Sublist.cons)))) ?_; (conv => arg 6; simp only [Act.put, List.setIfInBounds_toArray, List.set_cons_succ, List.set_cons_zero]))
            (refine wpT_free rfl rfl (.inl ⟨rfl, fun w _ => by go_simp; rfl⟩) (by exact H.stP (by (repeat (first | exact List.Sublist.refl _ | apply List.Sublist.cons_cons | apply List.Sublist.cons)))) ?_; (conv => arg 6; simp only [Act.put, List.setIfInBounds_toArray, List.set_cons_succ, List.set_cons_zero]))
            (refine wpT_free rfl rfl (.inl ⟨rfl, fun w _ => by go_simp; rfl⟩) (by exact H.stP (by (repeat (first | exact List.Sublist.refl _ | apply List.Sublist.cons_cons | apply List.Sublist.cons)))) ?_; (conv => arg 6; simp only [Act.put, List.setIfInBounds_toArray, List.set_cons_succ, List.set_cons_zero]))
            (refine wpT_free rfl rfl (.inl ⟨rfl, fun w _ => by go_simp; rfl⟩) (by exact H.stP (by (repeat (first | exact List.Sublist.refl _ | apply List.Sublist.cons_cons | apply List.Sublist.cons)))) ?_; (conv => arg 6; simp only [Act.put, List.setIfInBounds_toArray, List.set_cons_succ, List.set_cons_zero]))
            refine wpT_done ?_
            rw [HQ.out]
            go_wp2_with fail
            have HOK := hid (opK_ok H x y s)
            have HOL := hid (opK_len (k := x) (b := y) (s := s) HKL.out)
            obtain ⟨r, hr⟩ : ∃ r, r = openM ts x y s := ⟨_, rfl⟩
            have HRE := hid hr.symm
            rw [← hr] at HOK HOL HR HW ⊢
            clear hr
            refine wp_region_planTP [.blk b6 (rowO .u8 26 y), .blk b5 (rowO .u8 26 x)] (PlayC p g m) (.free 0 (.free 1 (.free 2 (.free 3 (.free 4 (.free 5 (.free 6 (.one 7 (.free 8 (.free 9 (.free 10 (.free 11 (.free 12 (.free 13 (.free 14 (.done)))))))))))))))) (by kernel_rfl) (by kernel_rfl) (fun _ _ _ _ _ h => h) H (ok3 _ _ _ _ _ _) ?_
            clear H
            intro ops Q HO HQ wr H MR
            replace CP := hid (MR.cell0 CP.out)
            replace HR := hid (HR.out.mem MR)
            clear MR
            have hops := HO.out
            subst hops
            (refine wpT_free rfl rfl (.inl ⟨rfl, fun w _ => by go_simp; rfl⟩) (by exact H.stP (by (repeat (first | exact List.Sublist.refl _ | apply List.Sublist.cons_cons | apply List.Sublist.cons)))) ?_; (conv => arg 6; simp only [Act.put, List.setIfInBounds_toArray, List.set_cons_succ, List.set_cons_zero]))
            (refine wpT_free rfl rfl (.inl ⟨rfl, fun w _ => by go_simp; rfl⟩) (by exact H.stP (by (repeat (first | exact List.Sublist.refl _ | apply List.Sublist.cons_cons | apply List.Sublist.cons)))) ?_; (conv => arg 6; simp only [Act.put, List.setIfInBounds_toArray, List.set_cons_succ, List.set_cons_zero]))
            (refine wpT_free rfl rfl (.inl ⟨rfl, fun w _ => by go_simp; rfl⟩) (by exact H.stP (by (repeat (first | exact List.Sublist.refl _ | apply List.Sublist.cons_cons | apply List.Sublist.cons)))) ?_; (conv => arg 6; simp only [Act.put, List.setIfInBounds_toArray, List.set_cons_succ, List.set_cons_zero]))
            (refine wpT_free rfl rfl (.inl ⟨rfl, fun w hw => run_ld1 Try.underlying44 rfl rfl rfl hw.2.2⟩) (by exact H.stP (by (repeat (first | exact List.Sublist.refl _ | apply List.Sublist.cons_cons | apply List.Sublist.cons)))) ?_; (conv => arg 6; simp only [Act.put, List.setIfInBounds_toArray, List.set_cons_succ, List.set_cons_zero]))
            (refine wpT_free rfl rfl (.inl ⟨rfl, fun w hw => by obtain ⟨⟨_, _, M⟩, _⟩ := hw; exact run_ldrowN (xs := x) Try.underlying26 s26 rfl rfl rfl M (by (repeat (first | exact List.mem_cons_self | refine List.mem_cons_of_mem _ ?_))) HKX.out.1⟩) (by exact H.stP (by (repeat (first | exact List.Sublist.refl _ | apply List.Sublist.cons_cons | apply List.Sublist.cons)))) ?_; (conv => arg 6; simp only [Act.put, List.setIfInBounds_toArray, List.set_cons_succ, List.set_cons_zero]))
            (refine wpT_free rfl rfl (.inl ⟨rfl, fun w hw => by obtain ⟨⟨_, _, M⟩, _⟩ := hw; exact run_ldrowN (xs := y) Try.underlying26 s26 rfl rfl rfl M (by (repeat (first | exact List.mem_cons_self | refine List.mem_cons_of_mem _ ?_))) HKY.out.1⟩) (by exact H.stP (by (repeat (first | exact List.Sublist.refl _ | apply List.Sublist.cons_cons | apply List.Sublist.cons)))) ?_; (conv => arg 6; simp only [Act.put, List.setIfInBounds_toArray, List.set_cons_succ, List.set_cons_zero]))
            (refine wpT_free rfl rfl (.inl ⟨rfl, fun w _ => by go_simp; rfl⟩) (by exact H.stP (by (repeat (first | exact List.Sublist.refl _ | apply List.Sublist.cons_cons | apply List.Sublist.cons)))) ?_; (conv => arg 6; simp only [Act.put, List.setIfInBounds_toArray, List.set_cons_succ, List.set_cons_zero]))
            refine wpT_op rfl ?_
            go_wp2_with (go_at_call 74; refine (OpenMA H HTW.out HKX.out HKY.out CP.out).mono ?_; rw [HRE.out]; rintro e wn ⟨A2, d2, rfl, hr, ha, M⟩; replace H := H.call0 (ok3 _ _ _ _ _ _) M; replace CP := hid (M.cell0 CP.out); replace HR := hid (HR.out.mem M); have HR2 := hid hr; have HW2 := hid ha; clear M hr ha)
            refine PlanTQ.mk (by exact H.stP (by (repeat (first | exact List.Sublist.refl _ | apply List.Sublist.cons_cons | apply List.Sublist.cons)))) ?_
            (refine wpT_free rfl rfl (.inl ⟨rfl, fun w _ => by go_simp; rfl⟩) (by exact H.stP (by (repeat (first | exact List.Sublist.refl _ | apply List.Sublist.cons_cons | apply List.Sublist.cons)))) ?_; (conv => arg 6; simp only [Act.put, List.setIfInBounds_toArray, List.set_cons_succ, List.set_cons_zero]))
            (refine wpT_free rfl rfl (.inl ⟨rfl, fun w _ => by go_simp; rfl⟩) (by exact H.stP (by (repeat (first | exact List.Sublist.refl _ | apply List.Sublist.cons_cons | apply List.Sublist.cons)))) ?_; (conv => arg 6; simp only [Act.put, List.setIfInBounds_toArray, List.set_cons_succ, List.set_cons_zero]))
            (refine wpT_free rfl rfl (.inl ⟨rfl, fun w _ => by go_simp; rfl⟩) (by exact H.stP (by (repeat (first | exact List.Sublist.refl _ | apply List.Sublist.cons_cons | apply List.Sublist.cons)))) ?_; (conv => arg 6; simp only [Act.put, List.setIfInBounds_toArray, List.set_cons_succ, List.set_cons_zero]))
            (refine wpT_free rfl rfl (.inl ⟨rfl, fun w _ => by go_simp; rfl⟩) (by exact H.stP (by (repeat (first | exact List.Sublist.refl _ | apply List.Sublist.cons_cons | apply List.Sublist.cons)))) ?_; (conv => arg 6; simp only [Act.put, List.setIfInBounds_toArray, List.set_cons_succ, List.set_cons_zero]))
            (refine wpT_free rfl rfl (.inl ⟨rfl, fun w _ => by go_simp; rfl⟩) (by exact H.stP (by (repeat (first | exact List.Sublist.refl _ | apply List.Sublist.cons_cons | apply List.Sublist.cons)))) ?_; (conv => arg 6; simp only [Act.put, List.setIfInBounds_toArray, List.set_cons_succ, List.set_cons_zero]))
            (refine wpT_free rfl rfl (.inl ⟨rfl, fun w _ => by go_simp; rfl⟩) (by exact H.stP (by (repeat (first | exact List.Sublist.refl _ | apply List.Sublist.cons_cons | apply List.Sublist.cons)))) ?_; (conv => arg 6; simp only [Act.put, List.setIfInBounds_toArray, List.set_cons_succ, List.set_cons_zero]))
            (refine wpT_free rfl rfl (.inl ⟨rfl, fun w _ => by go_simp; rfl⟩) (by exact H.stP (by (repeat (first | exact List.Sublist.refl _ | apply List.Sublist.cons_cons | apply List.Sublist.cons)))) ?_; (conv => arg 6; simp only [Act.put, List.setIfInBounds_toArray, List.set_cons_succ, List.set_cons_zero]))
            refine wpT_done ?_
            rw [HQ.out]
            obtain ⟨M, hclose⟩ := H.playOut3 (tabR_ok _ _) (refR_ok _ _) CP.out
            have HCL := hid hclose
            have hol := HOL.out
            have hofl : (nums .u8 (opK r).flatten).length = (opK r).length * 32 := by rw [nums_length]; exact flat_len HOK.out
            have cp := CP.out
            clear hclose H
            go_wp2_with (first | (apply wpList_want; (· rfl)) | (refine wpList_appSm 102 rfl Try.underlying34 i26' rfl (by decide) rfl rfl rfl rfl M (fun A' cap' => Swap.tail Swap.head) HR.out hofl (nums_one .u8 _) (by omega) (by omega) (fun A3 c3 wn Mn => ?_); clear M cp; rename Mem _ _ _ _ => M; (conv => arg 5; simp only [Act.put, List.setIfInBounds_toArray, List.set_cons_succ, List.set_cons_zero])) | (refine wpList_stM (v := .slice A3 (keys.length + (opK r).length) c3) rfl rfl s34 rfl rfl rfl M Swap.head (by simp) ?_; clear M; intro wz M; (try (conv => arg 5; simp only [Act.put, List.setIfInBounds_toArray, List.set_cons_succ, List.set_cons_zero]))) | (go_at_call 25; refine (same25 (ks := opK r) rfl rfl HOK.out (HR.out.elsewhere M (fun ad h1 h2 => HW.out ad h1 h2)) (HR2.out.elsewhere M (fun ad h1 h2 => HW2.out ad h1 h2)) (by omega)).mono ?_; rintro e wn ⟨rfl, M2⟩; have H := (HCL.out A3 c3 (opK r) _ HOK.out M).call0 (ok3 _ _ _ _ _ _) M2; clear M M2))
            go_ret
            exact ⟨opK r, rfl, hol, H.sub (List.nil_sublist _)⟩
theorem open55T {K : Nat → Prop} {w w1 : World} {L : List Item} {p g m n : Nat} {ts ts1 : List Tm} {keys : List (List Int)} {c : Sp} {I : Option Addr} {ic : Nat} (hs : DoP K w p g m n ts keys c I ic) (H : TF K (playS p g m ts1 keys) w w1 L) (pi : PI (n + 1) ts1 keys) (hn : n ≤ 60) :
    Calls Try.prog 55 #[.pointer (some ⟨p, 0, none⟩), .agg (spCells c I ic).toArray] w1 fun e w' => ∃ ks, e = .returned (.bool true) ∧ ks.length ≤ 10 ∧ TF K (playS p g m ts1 (keys ++ ks)) w w' L := by
  refine (H.go (Post := fun K' => OpnR K' p g m ts1 keys w1) fun K' hK hlt hnew _ => open55 ⟨hK, hlt, pi, by omega, hs.raw, H.rowC hs.row hs.out, fun hne ad hI hk => ?_⟩).mono fun e w' ⟨K', ⟨ks, he, hl, F⟩, hf⟩ => ⟨ks, he, hl, hf _ _ F⟩
  have h1 := row_lt hs.row hne hI
  rcases hnew _ hk with h | h
  · exact hs.out hne ad hI h
  · omega
end Go.Proofs.Ytcapfnbmmdbcoaa
