/- What a law that keeps all that was posted knows of memory; plain laws on what was posted. -/
import Derived.Test.YtbofobkpplncaaaB13
set_option linter.unusedVariables false
set_option linter.unusedSimpArgs false
namespace Go.Proofs.Ytbofobkpplncaaa
open Go.RowKit
/-- A region that draws its order, by a plan, under what holds in every world on the way. -/
theorem wp_region_planS {P : Program} {a : Act} {w : World} {Q : Exit → Act → World → Prop} {id : Nat} {ops : Array Oper} (S : World → Prop) (s : PlanT) (hm : P.follows .mixedOrders = true) (hB : (Region.noSelect ops && planTB .any ops s (Array.replicate ops.size false) && decide (s.depth ≤ ops.size)) = true)
    (hQ : ∀ c a (d : Tmp) v w, Q (.panic c) (Act.put a (some d) v) w → Q (.panic c) a w)
    (h : ∀ w1, Below w.heap.size w w1 → wpPlanT P ops S Q s a w1) : (Code.region id ops true).wp P Q a w := by
  simp only [Bool.and_eq_true, decide_eq_true_eq] at hB
  obtain ⟨⟨hs, hB⟩, hl⟩ := hB
  exact wp_region_held (S := S) hm (planT_any (P := P) (Q := Q) hs hQ s _ _ a _ hl hB (h _ ⟨rfl, rfl, rfl, Nat.le_refl _, fun _ _ => rfl⟩))
/-! ### 1. Plain laws -/
def SubA (X H : Boxes) : Prop := ∀ (t : Nat) (L G : List ByteArray), X[t]? = some L → H[t]? = some G → ∀ x ∈ L, x ∈ G
theorem sub_set {X H : Boxes} (h : SubA X H) (t : Nat) (L' : List ByteArray) (hL : ∀ G, H[t]? = some G → ∀ x ∈ L', x ∈ G) : SubA (X.set t L') H := fun u L G hX hH x hx => by
  by_cases htu : t = u
  · subst htu
    rw [List.getElem?_set] at hX
    simp only [if_true] at hX
    split at hX
    · injection hX with hX
      subst hX
      exact hL G hH x hx
    · cases hX
  · rw [List.getElem?_set_ne htu] at hX
    exact h u L G hX hH x hx
theorem sub_getD {X H : Boxes} (h : SubA X H) (t : Nat) (G : List ByteArray) (hG : H[t]? = some G) : ∀ x ∈ X.getD t [], x ∈ G := fun x hx => by
  rw [List.getD_eq_getElem?_getD] at hx
  cases hX : X[t]? with
  | none => rw [hX] at hx; simp at hx
  | some L => rw [hX] at hx; exact h t L G hX hG x hx
theorem mem_postL {L : List ByteArray} {s x : ByteArray} (h : x ∈ postL L s) : x ∈ L ∨ x = s := by
  unfold postL at h
  split at h
  · have := List.mem_of_mem_drop h
    simpa using this
  · simpa using h
theorem mem_takeL {L : List ByteArray} {i : Nat} {x : ByteArray} (h : x ∈ takeL L i) : x ∈ L := by
  unfold takeL at h
  rcases List.mem_append.1 h with h | h
  · exact List.mem_of_mem_take h
  · exact List.mem_of_mem_drop h
theorem mem_insL {L : List ByteArray} {k : Nat} {s x : ByteArray} (h : x ∈ insL L k s) : x ∈ L ∨ x = s := by
  unfold insL at h
  rcases List.mem_append.1 h with h | h
  · exact .inl (List.mem_of_mem_take h)
  · rcases List.mem_cons.1 h with h | h
    · exact .inr h
    · exact .inl (List.mem_of_mem_drop h)
theorem getA_mem {X : Boxes} {to i : Int} (h : hasA X to i) : getA X to i ∈ X.getD to.toNat [] := by
  obtain ⟨k, n, rfl, rfl, hk, hn, _⟩ := hasA_nat h
  rw [Int.toNat_natCast]
  exact List.mem_of_getElem? hn
theorem take_sub {X H : Boxes} (h : SubA X H) (to i : Int) : SubA (takeA X to i).1 H := by
  unfold takeA
  split
  · exact sub_set h _ _ fun G hG x hx => sub_getD h _ G hG x (mem_takeL hx)
  · exact h
theorem step_sub_no {X H : Boxes} (h : SubA X H) (kind to i k : Int) (s : ByteArray) (hno : ¬ (kind.tmod 5 = 0 ∧ inA to)) : SubA (stepA X kind to i k s).1 H := by
  unfold stepA
  split
  · rename_i h0
    have hin : ¬ inA to := fun hi => hno ⟨h0, hi⟩
    unfold postA
    rw [if_neg hin]
    exact h
  split
  · exact take_sub h to i
  split
  · exact take_sub h to i
  split
  · unfold doubleA
    split
    · rename_i hh
      exact sub_set h _ _ fun G hG x hx => by
        rcases mem_postL hx with hx | hx
        · exact sub_getD h _ G hG x hx
        · rw [hx]; exact sub_getD h _ G hG _ (getA_mem hh)
    · exact h
  split
  · unfold moveA
    split
    · rename_i hh
      split
      · exact sub_set h _ _ fun G hG x hx => by
          rcases mem_insL hx with hx | hx
          · exact sub_getD h _ G hG x (mem_takeL hx)
          · rw [hx]; exact sub_getD h _ G hG _ (getA_mem hh)
      · exact h
    · exact h
  · exact h
theorem step_post {X : Boxes} {kind to i k : Int} {s : ByteArray} (h0 : kind.tmod 5 = 0) (hi : inA to) : stepA X kind to i k s = (X.set to.toNat (postL (X.getD to.toNat []) s), ⟨#[]⟩, 0) := by
  unfold stepA
  rw [if_pos h0]
  unfold postA
  rw [if_pos hi]
theorem step_fail {X : Boxes} {kind to i k : Int} {s : ByteArray} (h0 : kind.tmod 5 = 0) (hi : ¬ inA to) : (stepA X kind to i k s).2.2 = 1 := by
  unfold stepA
  rw [if_pos h0]
  unfold postA
  rw [if_neg hi]
theorem step_sub_post {X H : Boxes} (h : SubA X H) (t : Nat) (G : List ByteArray) (s : ByteArray) (hG : H[t]? = some G) : SubA (X.set t (postL (X.getD t []) s)) (H.set t (G ++ [s])) := fun u L G' hX hH x hx => by
  by_cases htu : t = u
  · subst htu
    have hl : t < H.length := (List.getElem?_eq_some_iff.1 hG).1
    rw [List.getElem?_set_self hl] at hH
    injection hH with hH
    subst hH
    rw [List.getElem?_set] at hX
    simp only [if_true] at hX
    split at hX
    · injection hX with hX
      subst hX
      rcases mem_postL hx with hx | hx
      · exact List.mem_append_left _ (sub_getD h _ G hG x hx)
      · simp [hx]
    · cases hX
  · rw [List.getElem?_set_ne htu] at hX hH
    exact h u L G' hX hH x hx
theorem postL_last (L : List ByteArray) (s : ByteArray) : 0 < (postL L s).length ∧ (postL L s)[(postL L s).length - 1]? = some s := by
  unfold postL
  split
  · rename_i h
    refine ⟨by simp; omega, ?_⟩
    rw [List.getElem?_drop, List.length_drop, List.length_append]
    rw [List.getElem?_append_right (by simp; omega)]
    rw [show 1 + (L.length + [s].length - 1 - 1) - L.length = 0 from by simp; omega]
    rfl
  · simp
/-! ### 2. Memory -/
/-- Relay g with the lists X; block h has for each member all that was posted. -/
structure KeepS (n0 : Nat) (w : World) (g h : Nat) (X H : Boxes) (v1 hv : List Value) : Prop where
  rs : RS w g 28 X v1
  hh : w.heap[h]? = some (cellsO 26 hv)
  hl : hv.length = 8
  Hl : H.length = 8
  own : ∀ (i : Nat) (G : List ByteArray), H[i]? = some G → ∃ A c, hv[i]? = some (Value.slice A G.length c) ∧ w.ownsRow 0 9 1 (.slice A G.length c) G.length (strs G) ∧ ∀ ad, A = some ad → n0 ≤ ad.block
  sep : ∀ (i j : Nat) (v u : Value) (b : Nat), i ≠ j → hv[i]? = some v → hv[j]? = some u → v.ownBlock = some b → u.ownBlock ≠ some b
  sepM : ∀ (i j n c : Nat) (ad : Addr) (u : Value), v1[i]? = some (Value.slice (some ad) n c) → 0 < n → hv[j]? = some u → u.ownBlock ≠ some ad.block
theorem owns_lt {w : World} {A : Option Addr} {n m c size : Nat} {e : TypeId} {cs : List Value} (h : w.ownsRow 0 e size (.slice A n c) m cs) {ad : Addr} (hA : A = some ad) : ad.block < w.heap.size ∧ ∃ cur, w.heap[ad.block]? = some (.cells cur e (0, 0)) := by
  rcases h.2 with ⟨h', _⟩ | ⟨b, cap, cur, h', _, hb, _⟩
  · injection h' with h1 _ _
    rw [h1] at hA
    cases hA
  · injection h' with h1 _ _
    rw [h1] at hA
    injection hA with hA
    subst hA
    exact ⟨(Array.getElem?_eq_some_iff.1 hb).1, cur, hb⟩
theorem KeepS.below {n0 : Nat} {w w' : World} {g h : Nat} {X H : Boxes} {v1 hv : List Value} (K : KeepS n0 w g h X H v1 hv) (hb : Below w.heap.size w w') : KeepS n0 w' g h X H v1 hv := by
  refine ⟨K.rs.below hb, by rw [hb.block h (Array.getElem?_eq_some_iff.1 K.hh).1, K.hh], K.hl, K.Hl, fun i G hG => ?_, K.sep, K.sepM⟩
  obtain ⟨A, c, h1, h2, h3⟩ := K.own i G hG
  exact ⟨A, c, h1, World.ownsRow.kept h2 (grown_of_below hb none) (by cases h : Value.ownBlock (.slice A G.length c) <;> simp), h3⟩
theorem KeepS.act {n0 : Nat} {w w' : World} {g h : Nat} {X H X' : Boxes} {v1 hv : List Value} (K : KeepS n0 w g h X H v1 hv) (hne : h ≠ g) (ha : ActW w g 28 v1 X' w') : ∃ v1', KeepS n0 w' g h X' H v1' hv := by
  obtain ⟨v1', h1, h2, h3⟩ := ha
  refine ⟨v1', h1, by rw [h2.block h (Array.getElem?_eq_some_iff.1 K.hh).1 (by simpa using hne), K.hh], K.hl, K.Hl, fun i G hG => ?_, K.sep, fun i j n c ad u hv1 hn hu => ?_⟩
  · obtain ⟨A, c, e1, e2, e3⟩ := K.own i G hG
    refine ⟨A, c, e1, World.ownsRow.kept e2 h2 ?_, e3⟩
    cases A with
    | none => exact .inl rfl
    | some ad =>
      refine .inr fun e => ?_
      simp only [Value.ownBlock, Option.some.injEq] at e
      obtain ⟨_, cur, hc⟩ := owns_lt e2 rfl
      rw [e, K.rs.1] at hc
      injection hc with hc
      injection hc with _ hc _
      cases hc
  · rcases h3 i _ hv1 with hold | hnew
    · exact K.sepM i j n c ad u hold hn hu
    · have hlt := hnew _ _ _ rfl ad rfl
      obtain ⟨hj, hju⟩ := List.getElem?_eq_some_iff.1 hu
      have hjH : j < H.length := by rw [K.Hl]; rw [K.hl] at hj; exact hj
      obtain ⟨A, c', e1, e2, _⟩ := K.own j H[j] (List.getElem?_eq_getElem hjH)
      rw [hu] at e1
      injection e1 with e1
      subst e1
      cases A with
      | none => simp [Value.ownBlock]
      | some ad' =>
        intro e
        simp only [Value.ownBlock, Option.some.injEq] at e
        have := (owns_lt e2 rfl).1
        omega
def blkL (A : Option Addr) : List Nat := match A with | none => [] | some ad => [ad.block]
theorem Mem.startV {w : World} {A : Option Addr} {n c size : Nat} {e : TypeId} {cs : List Value} (h : w.ownsRow 0 e size (.slice A n c) n cs) : Mem w (blkL A) w [.vec A n c e size cs] :=
  ⟨rfl, rfl, rfl, Nat.le_refl _, fun _ _ _ => rfl, by simpa [Item.holds] using h, fun x hx b hb => by
    simp only [List.mem_singleton] at hx
    subst hx
    cases A with
    | none => simp [Item.block, Value.ownBlock] at hb
    | some ad =>
      simp only [Item.block, Value.ownBlock, Option.some.injEq] at hb
      simp [blkL, hb], by simp⟩
theorem owns_same {w w' : World} {A : Option Addr} {n m c size : Nat} {e : TypeId} {cs : List Value} (h : w.ownsRow 0 e size (.slice A n c) m cs) (hk : ∀ ad, A = some ad → w'.heap[ad.block]? = w.heap[ad.block]?) : w'.ownsRow 0 e size (.slice A n c) m cs := by
  refine ⟨h.1, ?_⟩
  rcases h.2 with h0 | ⟨b, cap, cur, h', h1, hb, rest⟩
  · exact .inl h0
  · refine .inr ⟨b, cap, cur, h', h1, ?_, rest⟩
    have hA : A = some ⟨b, 0, none⟩ := by injection h'
    have := hk _ hA
    rw [this]
    exact hb
theorem slot_lt {n0 : Nat} {w : World} {g h : Nat} {X H : Boxes} {v1 hv : List Value} (K : KeepS n0 w g h X H v1 hv) {j b : Nat} {u : Value} (hj : hv[j]? = some u) (hb : w.heap.size ≤ b) : u.ownBlock ≠ some b := by
  obtain ⟨hl, _⟩ := List.getElem?_eq_some_iff.1 hj
  have hjH : j < H.length := by rw [K.Hl]; rw [K.hl] at hl; exact hl
  obtain ⟨A, c, e1, e2, _⟩ := K.own j H[j] (List.getElem?_eq_getElem hjH)
  rw [hj] at e1
  injection e1 with e1
  subst e1
  cases A with
  | none => simp [Value.ownBlock]
  | some ad =>
    intro e
    simp only [Value.ownBlock, Option.some.injEq] at e
    have := (owns_lt e2 rfl).1
    omega
theorem KeepS.mail_lt {n0 : Nat} {w : World} {g h : Nat} {X H : Boxes} {v1 hv : List Value} (K : KeepS n0 w g h X H v1 hv) {i n c : Nat} {ad : Addr} (hv1 : v1[i]? = some (Value.slice (some ad) n c)) (hn : 0 < n) : ad.block < w.heap.size := by
  obtain ⟨hl, _⟩ := List.getElem?_eq_some_iff.1 hv1
  have hi : i < X.length := by rw [K.rs.2.2.1]; rw [K.rs.2.1] at hl; exact hl
  obtain ⟨A, c', e1, _, _, e4, _⟩ := K.rs.2.2.2 i X[i] (List.getElem?_eq_getElem hi)
  rw [hv1] at e1
  injection e1 with e1
  injection e1 with ea eb _
  subst ea
  have hpos : 0 < (strs X[i]).length := by rw [strs_length]; omega
  obtain ⟨b, off, arr, m, hA, hb, _⟩ := e4 0 _ (List.getElem?_eq_getElem hpos)
  injection hA with hA
  subst hA
  exact (Array.getElem?_eq_some_iff.1 hb).1
/-- A text was put behind those of a member. -/
theorem KeepS.put {n0 : Nat} {w w' w'' : World} {g h t : Nat} {X H : Boxes} {v1 hv : List Value} {G : List ByteArray} {s : ByteArray} {A A' : Option Addr} {c c' : Nat} {L : List Item} (K : KeepS n0 w g h X H v1 hv) (hne : h ≠ g) (hn0 : n0 ≤ w.heap.size)
    (hG : H[t]? = some G) (hA : hv[t]? = some (Value.slice A G.length c)) (M : Mem w (blkL A) w' L) (hin : .vec A' (G.length + 1) c' 9 1 (strs (G ++ [s])) ∈ L) (hgr : w'.grownBy w'' (some h)) (hh : w''.heap[h]? = some (cellsO 26 (hv.set t (.slice A' (G.length + 1) c')))) :
    KeepS n0 w'' g h X (H.set t (G ++ [s])) v1 (hv.set t (.slice A' (G.length + 1) c')) := by
  have htl : t < hv.length := (List.getElem?_eq_some_iff.1 hA).1
  have htH : t < H.length := (List.getElem?_eq_some_iff.1 hG).1
  obtain ⟨A0, c0, f1, f2, f3⟩ := K.own t G hG
  rw [hA] at f1
  injection f1 with f1
  injection f1 with f1a _ f1c
  subst f1a f1c
  -- a block that is there, not the row's, and not h, is as it was
  have keep : ∀ b, b < w.heap.size → (∀ ad, A = some ad → b ≠ ad.block) → b ≠ h → w''.heap[b]? = w.heap[b]? := fun b hb hnA hbh => by
    rw [hgr.block b (Nat.lt_of_lt_of_le hb M.size) (by simpa using hbh)]
    refine M.old b hb ?_
    cases A with
    | none => simp [blkL]
    | some ad => simpa [blkL] using hnA ad rfl
  have hhA : ∀ ad, A = some ad → ad.block ≠ h := fun ad hAd e => by
    obtain ⟨_, cur, hc⟩ := owns_lt f2 hAd
    rw [e, K.hh] at hc
    injection hc with hc
    injection hc with _ hc _
    cases hc
  have hgA : ∀ ad, A = some ad → ad.block ≠ g := fun ad hAd e => by
    obtain ⟨_, cur, hc⟩ := owns_lt f2 hAd
    rw [e, K.rs.1] at hc
    injection hc with hc
    injection hc with _ hc _
    cases hc
  have hnew : ∀ ad, A' = some ad → (∃ ad0, A = some ad0 ∧ ad.block = ad0.block) ∨ w.heap.size ≤ ad.block := fun ad hAd => by
    subst hAd
    rcases M.fresh _ hin ad.block rfl with h1 | h1
    · cases A with
      | none => simp [blkL] at h1
      | some ad0 => exact .inl ⟨ad0, rfl, by simpa [blkL] using h1⟩
    · exact .inr h1
  refine ⟨?_, hh, by simp [K.hl], by simp [K.Hl], fun i G' hG' => ?_, fun i j v u b hij hi hj hb => ?_, fun i j n cc ad u hv1 hn hu => ?_⟩
  · obtain ⟨h1, h2, h3, h4⟩ := K.rs
    refine ⟨by rw [keep g (Array.getElem?_eq_some_iff.1 h1).1 (fun ad hAd e => hgA ad hAd e.symm) (Ne.symm hne), h1], h2, h3, fun i Lx hL => ?_⟩
    obtain ⟨Ax, cx, e1, e2, e3, e4, e5⟩ := h4 i Lx hL
    refine ⟨Ax, cx, e1, e2, e3, ?_, e5⟩
    by_cases hLx : Lx = []
    · subst hLx
      exact RowT.nil
    · have hpos : 0 < Lx.length := List.length_pos_iff.2 hLx
      refine e4.same fun b off arr m hAx hb => ?_
      subst hAx
      refine keep b (Array.getElem?_eq_some_iff.1 hb).1 (fun ad hAd e => ?_) (fun e => ?_)
      · have := K.sepM i t _ _ _ _ e1 hpos hA
        subst hAd
        simp only [Value.ownBlock, ne_eq, Option.some.injEq] at this
        exact this e.symm
      · rw [e, K.hh] at hb
        injection hb with hb
        injection hb with _ hb _
        cases hb
  · by_cases hit : t = i
    · subst hit
      rw [List.getElem?_set_self htH] at hG'
      injection hG' with hG'
      subst hG'
      have hlen : (G ++ [s]).length = G.length + 1 := by simp
      refine ⟨A', c', by rw [hlen]; exact List.getElem?_set_self htl, ?_, fun ad hAd => ?_⟩
      · have hown : w'.ownsRow 0 9 1 (.slice A' (G.length + 1) c') (G.length + 1) (strs (G ++ [s])) := M.holds _ hin
        rw [hlen]
        refine World.ownsRow.kept hown hgr ?_
        cases A' with
        | none => exact .inl rfl
        | some ad =>
          refine .inr fun e => ?_
          simp only [Value.ownBlock, Option.some.injEq] at e
          obtain ⟨_, cur, hc⟩ := owns_lt hown rfl
          have hh' : w'.heap[h]? = some (cellsO 26 hv) := by
            rw [M.old h (Array.getElem?_eq_some_iff.1 K.hh).1 (by
              cases A with
              | none => simp [blkL]
              | some ad0 => simpa [blkL] using fun e => hhA ad0 rfl e.symm), K.hh]
          rw [e, hh'] at hc
          injection hc with hc
          injection hc with _ hc _
          cases hc
      · rcases hnew ad hAd with ⟨ad0, hA0, e⟩ | h1
        · rw [e]; exact f3 ad0 hA0
        · exact Nat.le_trans hn0 h1
    · rw [List.getElem?_set_ne hit] at hG'
      obtain ⟨A1, c1, e1, e2, e3⟩ := K.own i G' hG'
      refine ⟨A1, c1, by rw [List.getElem?_set_ne hit]; exact e1, owns_same e2 fun ad hAd => ?_, e3⟩
      obtain ⟨hlt, cur, hc⟩ := owns_lt e2 hAd
      refine keep _ hlt (fun ad0 hA0 e => ?_) (fun e => ?_)
      · subst hA0 hAd
        exact K.sep t i _ _ ad0.block hit hA e1 rfl (by simp [Value.ownBlock, e])
      · rw [e, K.hh] at hc
        injection hc with hc
        injection hc with _ hc _
        cases hc
  · by_cases hit : t = i
    · subst hit
      rw [List.getElem?_set_self htl] at hi
      injection hi with hi
      subst hi
      rw [List.getElem?_set_ne hij] at hj
      cases A' with
      | none => simp [Value.ownBlock] at hb
      | some ad =>
        simp only [Value.ownBlock, Option.some.injEq] at hb
        subst hb
        rcases hnew ad rfl with ⟨ad0, hA0, e⟩ | h1
        · subst hA0
          rw [e]
          exact K.sep t j _ _ ad0.block hij hA hj rfl
        · exact slot_lt K hj h1
    · rw [List.getElem?_set_ne hit] at hi
      by_cases hjt : t = j
      · subst hjt
        rw [List.getElem?_set_self htl] at hj
        injection hj with hj
        subst hj
        intro e
        cases A' with
        | none => simp [Value.ownBlock] at e
        | some ad =>
          simp only [Value.ownBlock, Option.some.injEq] at e
          subst e
          rcases hnew ad rfl with ⟨ad0, hA0, e⟩ | h1
          · subst hA0
            rw [e] at hb
            exact K.sep i t _ _ ad0.block hij hi hA hb rfl
          · exact slot_lt K hi h1 hb
      · rw [List.getElem?_set_ne hjt] at hj
        exact K.sep i j v u b hij hi hj hb
  · by_cases hjt : t = j
    · subst hjt
      rw [List.getElem?_set_self htl] at hu
      injection hu with hu
      subst hu
      intro e
      cases A' with
      | none => simp [Value.ownBlock] at e
      | some ad' =>
        simp only [Value.ownBlock, Option.some.injEq] at e
        rcases hnew ad' rfl with ⟨ad0, hA0, e0⟩ | h1
        · subst hA0
          exact K.sepM i t n cc ad _ hv1 hn hA (by simp [Value.ownBlock, ← e, e0])
        · have hlt := K.mail_lt hv1 hn
          omega
    · rw [List.getElem?_set_ne hjt] at hu
      exact K.sepM i j n cc ad u hv1 hn hu
theorem blk_not {w : World} {A : Option Addr} {n m c size b : Nat} {e t : TypeId} {cs : List Value} {arr : Array Value} {mk : Nat × Nat} (h : w.ownsRow 0 e size (.slice A n c) m cs) (hb : w.heap[b]? = some (.cells arr t mk)) (ht : t ≠ e) : b ∉ blkL A := by
  cases A with
  | none => simp [blkL]
  | some ad =>
    simp only [blkL, List.mem_singleton]
    rintro rfl
    obtain ⟨_, cur, hc⟩ := owns_lt h rfl
    rw [hb] at hc
    injection hc with hc
    injection hc with _ hc _
    exact ht hc
theorem actAt.row {w w' : World} {b n m c size : Nat} {e : TypeId} {a : ActV} {A : Option Addr} {cs : List Value} {L : List Item} (h : actAt w b a) (M : Mem w (blkL A) w' L) (hown : w.ownsRow 0 e size (.slice A n c) m cs) (he : (33 : TypeId) ≠ e) : actAt w' b a := by
  unfold actAt at *
  rw [M.old b (Array.getElem?_eq_some_iff.1 h).1 (blk_not hown h he), h]
theorem below_row {w0 w w' : World} {A : Option Addr} {L : List Item} (B : Below w0.heap.size w0 w) (M : Mem w (blkL A) w' L) (hA : ∀ ad, A = some ad → w0.heap.size ≤ ad.block) : Below w0.heap.size w0 w' := by
  refine ⟨M.os.trans B.os, M.tape.trans B.tape, M.output.trans B.output, Nat.le_trans B.size M.size, fun i hi => ?_⟩
  rw [M.old i (Nat.lt_of_lt_of_le hi B.size) (by
    cases A with
    | none => simp [blkL]
    | some ad =>
      have := hA ad rfl
      simp [blkL]
      omega)]
  exact B.block i hi
theorem owns_rowT {w : World} {A : Option Addr} {n m c size : Nat} {e : TypeId} {cs : List Value} (h : w.ownsRow 0 e size (.slice A n c) m cs) : RowT w e A cs := fun i v hi => by
  rcases h.2 with ⟨h', hn⟩ | ⟨g, cap', cur, h', _, hg, _, _, _, htk⟩
  · have hl := h.1
    rw [hn, Nat.zero_mul] at hl
    rw [List.eq_nil_of_length_eq_zero hl] at hi
    simp at hi
  · injection h' with hA _ _
    refine ⟨g, 0, cur, _, hA, hg, ?_⟩
    rw [← htk, List.getElem?_take] at hi
    split at hi
    · rw [Nat.zero_add]; simpa using hi
    · cases hi
/-- A store into a block that is known whole. -/
theorem wpList_stH {P : Program} {ops : Array Oper} {rest : List Oper} {o : Oper} {a : Act} {w : World} {Q : Exit → Act → World → Prop} (hgd : o.guard = none) {ty : TypeId} {x y : Operand} (ho : o.op = .store ty x y) (hsz : (P.info? ty).map (·.size) = some 1) {g i : Nat} (hx : a.eval x = .pointer (some ⟨g, i, none⟩))
    {v : Value} (hy : a.eval y = v) (hv : v.oneCell' = true) {t : TypeId} {cs : List Value} (hg : w.heap[g]? = some (cellsO t cs)) (hi : i < cs.length)
    (h : ∀ w', w.grownBy w' (some g) → w'.heap[g]? = some (cellsO t (cs.set i v)) → wpList P ops Q rest (a.put o.dst undef) w') : wpList P ops Q (o :: rest) a w :=
  wpList_st hgd ho hsz hx hy hv (u := cs[i]) (by rw [cell_of_row w g i cs.toArray t (0, 0) hg]; simp [hi]) (frozen_of_row w g i cs.toArray t hg) (h _ (grown_setCell w g i v) (heap_setCell_at w g i cs t v hg))
/-- append(v, x...), where the slot is named. -/
theorem wpList_appSm (mm : Nat) {P : Program} {ops : Array Oper} {rest : List Oper} {o : Oper} {a : Act} {w w0 : World} {Q : Exit → Act → World → Prop} {E : List Nat} {L : List Item} (hmm : o.dst = some mm) {t e : TypeId} {z : Value} {size bytes : Nat} (ht : P.underlying t = some (.slice e)) (hi : (P.info? e).map (fun i => (i.zero, i.size, i.bytes)) = some (some z, size, bytes)) (hz : z.cells.size = size) (hs0 : 0 < size) (hgd : o.guard = none) {s x : Operand}
    (ho : o.op = .call { callee := .builtin .append, args := #[s, x], argTypes := #[t, t] }) {A : Option Addr} {n cap m c : Nat} (hs : a.eval s = .slice A n cap) {A2 : Option Addr} (hx : a.eval x = .slice A2 m c)
    (M : Mem w0 E w L) {cs ds : List Value} {L' : Option Addr → Nat → List Item} (hsw : ∀ A' cap', Swap (.vec A n cap e size cs) (.vec A' (n + m) cap' e size (cs ++ ds)) L (L' A' cap')) {t2 : TypeId} (hr : RowT w t2 A2 ds) (hl : ds.length = m * size) (h1 : ∀ v ∈ ds, v.oneCell' = true)
    (hb : (n + m) * bytes ≤ 140737488355328) (hb2 : n + m ≤ 140737488355328)
    (h : ∀ A' cap' w', Mem w0 E w' (L' A' cap') → wpList P ops Q rest (a.put (some mm) (.slice A' (n + m) cap')) w') : wpList P ops Q (o :: rest) a w :=
  wpList_appS ht hi hz hs0 hgd ho hs hx M hsw hr hl h1 hb hb2 (fun A' cap' w' M' => by rw [hmm]; exact h A' cap' w' M')
end Go.Proofs.Ytbofobkpplncaaa
