/- A frame among the arguments. -/
import Derived.Test.YtcapfnbmmdbcoaaJ4
set_option linter.unusedVariables false
set_option linter.unusedSimpArgs false
namespace Go.Proofs.Ytcapfnbmmdbcoaa
open Go.RowKit Go.ChangeShapes Go.WideShapes Go.Deep
section
variable {H : Type} {enc : TypeId × Value → H} {W : World} {base fuel : Nat} {spare : Nat → Bool} {held : Bool} {cs : List Value} {x : DataW H × List MemPlace}
theorem open_fields {t : TypeId} {fs : Array Field} {offs : List (Nat × Nat)} (hu : Try.prog.underlying t = some (.struct fs)) (hfs : fs.toList.map (fun f => (f.offset, f.type)) = offs) (h : DataW.trod enc Try.prog W base spare held fuel t cs = some x) :
    cs.length = Try.prog.cellsOf t ∧ ∃ n', ∀ (j o ty : Nat), offs[j]? = some (o, ty) → ∃ y, DataW.trod enc Try.prog W base spare held n' ty ((cs.drop o).take (Try.prog.cellsOf ty)) = some y := by
  obtain ⟨ys, n', hn', hy, hlen, hyl, hf⟩ := DataW.trod_struct hu h
  have hfl : fs.size = offs.length := by
    have := congrArg List.length hfs
    simpa using this
  refine ⟨hlen, n', fun j o ty hj => ?_⟩
  have hat : (fs.toList.map (fun f => (f.offset, f.type)))[j]? = (fs[j]?).map (fun f => (f.offset, f.type)) := by simp
  rw [hfs, hj] at hat
  obtain ⟨f, hfj, he⟩ := Option.map_eq_some_iff.1 hat.symm
  injection he with he1 he2
  have h1 := hf j f hfj
  have hjl : j < fs.size := (Array.getElem?_eq_some_iff.1 hfj).1
  rw [he1, he2, List.getElem?_eq_getElem (by omega)] at h1
  exact ⟨_, h1⟩
theorem cut_st (cs : List Value) (j k : Nat) : (cs.drop j).take k ++ cs.drop (j + k) = cs.drop j := by
  have := List.take_append_drop k (cs.drop j)
  rwa [List.drop_drop] at this
set_option maxRecDepth 100000 in
theorem cellsF : Try.prog.cellsOf 26 = 32 ∧ Try.prog.cellsOf 3 = 1 ∧ Try.prog.cellsOf 9 = 1 ∧ Try.prog.cellsOf 53 = 1 ∧ Try.prog.cellsOf 72 = 1 ∧ Try.prog.cellsOf 34 = 1 ∧ Try.prog.cellsOf 73 = 1 ∧ Try.prog.cellsOf 112 = 34 ∧ Try.prog.cellsOf 114 = 36 ∧ Try.prog.cellsOf 75 = 71 ∧ Try.prog.cellsOf 77 = 74 ∧ Try.prog.cellsOf 5 = 1 := ⟨by kernel_rfl, by kernel_rfl, by kernel_rfl, by kernel_rfl, by kernel_rfl, by kernel_rfl, by kernel_rfl, by kernel_rfl, by kernel_rfl, by kernel_rfl, by kernel_rfl, by kernel_rfl⟩
/-- A row of elements of k cells each, read. -/
theorem open_els {α : Type} {t e k : Nat} {cells : α → List Value} {ok : α → Prop} (ht : Try.prog.underlying t = some (.slice e)) (hk : Try.prog.cellsOf e = k) (h0 : ∀ a, ok a → ∃ v, (cells a)[0]? = some v) (hl : 0 < k)
    (each : ∀ (n : Nat) (cs' : List Value) (y : DataW H × List MemPlace), DataW.trod enc Try.prog W base spare held n e cs' = some y → ∃ a, cs' = cells a ∧ ok a)
    (h : DataW.trod enc Try.prog W base spare held fuel t cs = some x) :
    ∃ (I : Option Addr) (ic : Nat) (els : List α), cs = [.slice I els.length ic] ∧ (I = none → ic = 0) ∧ ∀ (i : Nat) (a : α), els[i]? = some a → ok a ∧ ∃ b off, I = some ⟨b, off, none⟩ ∧ ∀ (j : Nat) (v : Value), j < k → (cells a)[j]? = some v → W.cell? ⟨b, off + i * k + j, none⟩ = some v := by
  rcases open_slice ht h with ⟨hcs, hx⟩ | ⟨ad, len, cap, m, n, D, Pl, hcs, hb, hlc, hm, hmm, hx, hi⟩
  · exact ⟨none, 0, [], hcs, fun _ => rfl, fun i a h => by simp at h⟩
  · have hlm : len ≤ m := by rw [hmm]; split <;> omega
    have key : ∀ i, i < len → ∃ a : α, ok a ∧ ∃ b off, ad = ⟨b, off, none⟩ ∧ ∀ (j : Nat) (v : Value), j < k → (cells a)[j]? = some v → W.cell? ⟨b, off + i * k + j, none⟩ = some v := fun i hil => by
      obtain ⟨cs', hc, hte⟩ := hi i (by omega)
      obtain ⟨a, rfl, hok⟩ := each _ _ _ hte
      rw [hk] at hc
      obtain ⟨_, hcl, hat⟩ := World.cells?_some hc
      obtain ⟨b, off, spot⟩ := ad
      have hspot : spot = none := by
        obtain ⟨cs0, hc0, ht0⟩ := hi 0 (by omega)
        obtain ⟨a0, rfl, hok0⟩ := each _ _ _ ht0
        rw [hk] at hc0
        obtain ⟨_, _, hat0⟩ := World.cells?_some hc0
        have h00 := hat0 0 hl
        obtain ⟨v0, hv0⟩ := h0 a0 hok0
        rw [hv0] at h00
        simpa [Addr.add] using World.cell?_spot h00
      subst hspot
      refine ⟨a, hok, b, off, rfl, fun j v hj hv => ?_⟩
      have h1 := hat j hj
      rw [Go.Deep.add_add, Addr.add_lit, ← Nat.add_assoc, hv] at h1
      exact h1
    obtain ⟨els, hal, hap⟩ := list_of len key
    refine ⟨some ad, cap, els, by rw [hcs, hal], fun h => (by cases h), fun i a hia => ?_⟩
    obtain ⟨h1, b, off, rfl, h2⟩ := hap i a hia
    exact ⟨h1, b, off, rfl, h2⟩
set_option maxRecDepth 100000 in
theorem key_open (n : Nat) (cs' : List Value) (y : DataW H × List MemPlace) (h : DataW.trod enc Try.prog W base spare held n 26 cs' = some y) : ∃ k, cs' = nums .u8 k ∧ KeyOk k := by
  obtain ⟨raw, e4, hrl, hrw⟩ := open_arr Try.underlying26 Try.underlying5 cellsF.1 cellsF.2.2.2.2.2.2.2.2.2.2.2 h
  exact ⟨raw, e4, hrl, fun z hz => wf_u8 (hrw z hz)⟩
set_option maxRecDepth 100000 in
theorem open_keysF (h : DataW.trod enc Try.prog W base spare held fuel 34 cs = some x) :
    ∃ (I : Option Addr) (ic : Nat) (ks : List (List Int)), cs = [.slice I ks.length ic] ∧ (I = none → ic = 0) ∧ RowC W I (nums .u8 ks.flatten) ∧ ∀ k ∈ ks, KeyOk k := by
  obtain ⟨I, ic, ks, e, hn, hi⟩ := open_els (k := 32) (cells := nums .u8) (ok := KeyOk) Try.underlying34 cellsF.1 (fun a ha => ⟨(nums .u8 a)[0]'(by rw [nums_length, ha.1]; decide), List.getElem?_eq_getElem _⟩) (by decide) key_open h
  have hok : ∀ k ∈ ks, KeyOk k := fun k hk => by
    obtain ⟨i, hi'⟩ := List.getElem?_of_mem hk
    exact (hi i k hi').1
  refine ⟨I, ic, ks, e, hn, fun q v hv => ?_, hok⟩
  have hq := (List.getElem?_eq_some_iff.1 hv).1
  rw [nums_length, flat_len hok] at hq
  obtain ⟨k, hk⟩ : ∃ k, ks[q / 32]? = some k := ⟨_, List.getElem?_eq_getElem (by omega)⟩
  obtain ⟨hko, b, off, hI, hc⟩ := hi _ _ hk
  have hf := flat_at hok hk (q % 32) (by omega)
  have hqe : q / 32 * 32 + q % 32 = q := by omega
  refine ⟨b, off, hI, ?_⟩
  have h1 : (nums .u8 k)[q % 32]? = some v := by
    rw [nums, List.getElem?_map, ← hf, show 32 * (q / 32) + q % 32 = q from by omega]
    rw [nums, List.getElem?_map] at hv
    exact hv
  have := hc (q % 32) v (by omega) h1
  rwa [Nat.add_assoc, hqe] at this
set_option maxRecDepth 100000 in
theorem f112 : ∃ fs : Array Field, Try.prog.underlying 112 = some (.struct fs) ∧ fs.toList.map (fun f => (f.offset, f.type)) = [(0, 26), (32, 72), (33, 72)] := ⟨_, Try.underlying112, by kernel_rfl⟩
set_option maxRecDepth 100000 in
theorem f114 : ∃ fs : Array Field, Try.prog.underlying 114 = some (.struct fs) ∧ fs.toList.map (fun f => (f.offset, f.type)) = [(0, 3), (1, 112), (35, 9)] := ⟨_, Try.underlying114, by kernel_rfl⟩
set_option maxRecDepth 100000 in
theorem f75 : ∃ fs : Array Field, Try.prog.underlying 75 = some (.struct fs) ∧ fs.toList.map (fun f => (f.offset, f.type)) = [(0, 3), (1, 72), (2, 34), (3, 3), (4, 53), (5, 26), (37, 26), (69, 9), (70, 73)] := ⟨_, Try.underlying75, by kernel_rfl⟩
set_option maxRecDepth 100000 in
theorem f77 : ∃ fs : Array Field, Try.prog.underlying 77 = some (.struct fs) ∧ fs.toList.map (fun f => (f.offset, f.type)) = [(0, 3), (1, 3), (2, 75), (73, 34)] := ⟨_, Try.underlying77, by kernel_rfl⟩
def hdCells (b : Bx) : List Value := nums .u8 b.pub ++ [.int .u32 b.n, .int .u32 b.prev]
set_option maxRecDepth 100000 in
theorem box_open (n : Nat) (cs' : List Value) (y : DataW H × List MemPlace) (h : DataW.trod enc Try.prog W base spare held n 114 cs' = some y) : ∃ b : Bx, cs' = bxCells b ∧ KeyOk b.pub := by
  obtain ⟨c26, c3, c9, c53, c72, c34, c73, c112, c114, c75, c77, c5⟩ := cellsF
  obtain ⟨fs, hu, hfs⟩ := f114
  obtain ⟨hl, n', key⟩ := open_fields hu hfs h
  rw [c114] at hl
  obtain ⟨y0, t0⟩ := key 0 0 3 rfl
  obtain ⟨y1, t1⟩ := key 1 1 112 rfl
  obtain ⟨y2, t2⟩ := key 2 35 9 rfl
  rw [c3] at t0
  rw [c112] at t1
  rw [c9] at t2
  obtain ⟨tt, e0, _, _⟩ := DataW.trod_int Try.underlying3 t0
  obtain ⟨s, e2, _, _⟩ := DataW.trod_string Try.underlying9 t2
  obtain ⟨gs, hu2, hgs⟩ := f112
  obtain ⟨hl2, n2, key2⟩ := open_fields hu2 hgs t1
  obtain ⟨z0, s0⟩ := key2 0 0 26 rfl
  obtain ⟨z1, s1⟩ := key2 1 32 72 rfl
  obtain ⟨z2, s2⟩ := key2 2 33 72 rfl
  rw [c26] at s0
  rw [c72] at s1 s2
  rw [c112] at hl2
  obtain ⟨pub, g0, hk⟩ := key_open _ _ _ s0
  obtain ⟨nn, g1, _, _⟩ := DataW.trod_int Try.underlying72 s1
  obtain ⟨pv, g2, _, _⟩ := DataW.trod_int Try.underlying72 s2
  refine ⟨⟨tt, pub, nn, pv, s⟩, ?_, hk⟩
  have e1 : (cs'.drop 1).take 34 = nums .u8 pub ++ [.int .u32 nn, .int .u32 pv] := by
    obtain ⟨ds, hds⟩ : ∃ d, d = (cs'.drop 1).take 34 := ⟨_, rfl⟩
    rw [← hds] at g0 g1 g2 hl2 ⊢
    have h33 : (ds.drop 33).take 1 = ds.drop 33 := List.take_of_length_le (by rw [List.length_drop]; omega)
    rw [show ds = (ds.drop 0).take 32 ++ ((ds.drop 32).take 1 ++ (ds.drop 33).take 1) from by rw [h33, cut_st ds 32 1, cut_st ds 0 32, List.drop_zero], g0, g1, g2]
    rfl
  have h35 : (cs'.drop 35).take 1 = cs'.drop 35 := List.take_of_length_le (by rw [List.length_drop]; omega)
  rw [show cs' = (cs'.drop 0).take 1 ++ ((cs'.drop 1).take 34 ++ (cs'.drop 35).take 1) from by rw [h35, cut_st cs' 1 34, cut_st cs' 0 1, List.drop_zero], e0, e1, e2]
  simp [bxCells]
set_option maxRecDepth 100000 in
theorem op_open (n : Nat) (cs' : List Value) (y : DataW H × List MemPlace) (h : DataW.trod enc Try.prog W base spare held n 75 cs' = some y) :
    ∃ (f : Fr) (a : Fx), cs' = opCells f a ∧ (∀ k ∈ f.parents, KeyOk k) ∧ KeyOk f.of_ ∧ KeyOk f.check ∧ (∀ b ∈ f.boxes, KeyOk b.pub) ∧ RowC W a.ip (nums .u8 f.parents.flatten) ∧ (a.ip = none → a.cp = 0) ∧
      ∀ (i : Nat) (b : Bx), f.boxes[i]? = some b → ∃ bb off, a.ib = some ⟨bb, off, none⟩ ∧ ∀ (j : Nat) (v : Value), (bxCells b)[j]? = some v → W.cell? ⟨bb, off + i * 36 + j, none⟩ = some v := by
  obtain ⟨c26, c3, c9, c53, c72, c34, c73, c112, c114, c75, c77, c5⟩ := cellsF
  obtain ⟨fs, hu, hfs⟩ := f75
  obtain ⟨hl, n', key⟩ := open_fields hu hfs h
  rw [c75] at hl
  obtain ⟨_, t0⟩ := key 0 0 3 rfl
  obtain ⟨_, t1⟩ := key 1 1 72 rfl
  obtain ⟨_, t2⟩ := key 2 2 34 rfl
  obtain ⟨_, t3⟩ := key 3 3 3 rfl
  obtain ⟨_, t4⟩ := key 4 4 53 rfl
  obtain ⟨_, t5⟩ := key 5 5 26 rfl
  obtain ⟨_, t6⟩ := key 6 37 26 rfl
  obtain ⟨_, t7⟩ := key 7 69 9 rfl
  obtain ⟨_, t8⟩ := key 8 70 73 rfl
  rw [c3] at t0 t3
  rw [c72] at t1
  rw [c34] at t2
  rw [c53] at t4
  rw [c26] at t5 t6
  rw [c9] at t7
  rw [c73] at t8
  obtain ⟨au, e0, _, _⟩ := DataW.trod_int Try.underlying3 t0
  obtain ⟨sq, e1, _, _⟩ := DataW.trod_int Try.underlying72 t1
  obtain ⟨ip, cp, ps, e2, hpn, hpr, hpk⟩ := open_keysF t2
  obtain ⟨kd, e3, _, _⟩ := DataW.trod_int Try.underlying3 t3
  obtain ⟨iw, cw, ws, e4, _, _, _⟩ := open_rowC Try.underlying53 Try.underlying3 c3 t4
  obtain ⟨of_, e5, hof⟩ := key_open _ _ _ t5
  obtain ⟨ck, e6, hck⟩ := key_open _ _ _ t6
  obtain ⟨s, e7, _, _⟩ := DataW.trod_string Try.underlying9 t7
  obtain ⟨ib, cb, bs, e8, _, hb⟩ := open_els (k := 36) (cells := bxCells) (ok := fun b => KeyOk b.pub) Try.underlying73 c114 (fun b _ => ⟨_, rfl⟩) (by decide) box_open t8
  refine ⟨⟨0, 0, au, sq, ps, kd, ws.length, of_, ck, s, bs, []⟩, ⟨ip, iw, ib, none, cp, cw, cb, 0⟩, ?_, hpk, hof, hck, fun b hbm => ?_, hpr, hpn, fun i b hi => ?_⟩
  · have h70 : (cs'.drop 70).take 1 = cs'.drop 70 := List.take_of_length_le (by rw [List.length_drop]; omega)
    rw [show cs' = (cs'.drop 0).take 1 ++ ((cs'.drop 1).take 1 ++ ((cs'.drop 2).take 1 ++ ((cs'.drop 3).take 1 ++ ((cs'.drop 4).take 1 ++ ((cs'.drop 5).take 32 ++ ((cs'.drop 37).take 32 ++ ((cs'.drop 69).take 1 ++ (cs'.drop 70).take 1))))))) from by
      rw [h70, cut_st cs' 69 1, cut_st cs' 37 32, cut_st cs' 5 32, cut_st cs' 4 1, cut_st cs' 3 1, cut_st cs' 2 1, cut_st cs' 1 1, cut_st cs' 0 1, List.drop_zero], e0, e1, e2, e3, e4, e5, e6, e7, e8]
    simp [opCells]
  · obtain ⟨i, hi⟩ := List.getElem?_of_mem hbm
    exact (hb i b hi).1
  · obtain ⟨hk, bb, off, hI, hc⟩ := hb i b hi
    exact ⟨bb, off, hI, fun j v hv => hc j v (by have := (List.getElem?_eq_some_iff.1 hv).1; rwa [bx_len hk] at this) hv⟩
set_option maxRecDepth 100000 in
theorem fr_open (n : Nat) (cs' : List Value) (y : DataW H × List MemPlace) (h : DataW.trod enc Try.prog W base spare held n 77 cs' = some y) :
    ∃ (f : Fr) (a : Fx), cs' = frCells f a ∧ FrOk f ∧ FrR W f a := by
  obtain ⟨c26, c3, c9, c53, c72, c34, c73, c112, c114, c75, c77, c5⟩ := cellsF
  obtain ⟨fs, hu, hfs⟩ := f77
  obtain ⟨hl, n', key⟩ := open_fields hu hfs h
  rw [c77] at hl
  obtain ⟨_, t0⟩ := key 0 0 3 rfl
  obtain ⟨_, t1⟩ := key 1 1 3 rfl
  obtain ⟨_, t2⟩ := key 2 2 75 rfl
  obtain ⟨_, t3⟩ := key 3 73 34 rfl
  rw [c3] at t0 t1
  rw [c75] at t2
  rw [c34] at t3
  obtain ⟨kd, e0, _, _⟩ := DataW.trod_int Try.underlying3 t0
  obtain ⟨fm, e1, _, _⟩ := DataW.trod_int Try.underlying3 t1
  obtain ⟨f, a, e2, hpk, hof, hck, hbk, hpr, hpn, hbx⟩ := op_open _ _ _ t2
  obtain ⟨ii, ci, ids, e3, _, hir, hik⟩ := open_keysF t3
  refine ⟨⟨kd, fm, f.author, f.seq, f.parents, f.okind, f.who, f.of_, f.check, f.text, f.boxes, ids⟩, ⟨a.ip, a.iw, a.ib, ii, a.cp, a.cw, a.cb, ci⟩, ?_, ⟨hpk, hof, hck, hbk, hik⟩, ⟨hpr, hpn, hbx, hir⟩⟩
  have h73 : (cs'.drop 73).take 1 = cs'.drop 73 := List.take_of_length_le (by rw [List.length_drop]; omega)
  rw [show cs' = (cs'.drop 0).take 1 ++ ((cs'.drop 1).take 1 ++ ((cs'.drop 2).take 71 ++ (cs'.drop 73).take 1)) from by
    rw [h73, cut_st cs' 2 71, cut_st cs' 1 1, cut_st cs' 0 1, List.drop_zero], e0, e1, e2, e3]
  simp [frCells, opCells]
end
set_option maxRecDepth 100000 in
/-- A frame among the arguments. -/
theorem opened_frame {H : Type} {enc : TypeId × Value → H} {W : World} {base : Nat} {v : Value} {d : DataW H} {p : List MemPlace} (hv : Value.okWide Try.prog W Reach.any base 77 v) (h : DataW.Trod enc Try.prog W 0 (fun _ => true) true 77 v d p) :
    ∃ (f : Fr) (a : Fx), v = .agg (frCells f a).toArray ∧ FrOk f ∧ FrR W f a := by
  obtain ⟨fs, hu, _⟩ := f77
  obtain ⟨cs, rfl, _⟩ := Go.WideShapes.okWide_struct hu hv
  obtain ⟨fuel, hf⟩ := h
  obtain ⟨f, a, e, h1, h2⟩ := fr_open _ _ _ hf
  refine ⟨f, a, ?_, h1, h2⟩
  have e' : cs.toList = frCells f a := by simpa [Value.cells] using e
  rw [← e']
end Go.Proofs.Ytcapfnbmmdbcoaa
