/- Walks of the onetime layer's laws: a tag that is written in pieces. -/
import Derived.Test.YtcjfpcajjhccaaaO3
import Derived.Test.YtcjfpcajjhccaaaM8
set_option linter.unusedVariables false
set_option linter.unusedSimpArgs false
namespace Go.Proofs.Ytcjfpcajjhccaaa
open Go.RowKit
/-- The block of a tag under a key, behind some bytes. -/
def PB (g : Nat) (key bs : List Int) : Item := .blk g (cellsO 83 (polyS (limbsL (clampP key)) (key.drop 16) (pfeed (limbsL (clampP key)) st0 bs)))
theorem PB_block (g : Nat) (key bs : List Int) : (PB g key bs).block = some g := rfl
theorem NewP (key : List Int) (w : World) (hk : key.length = 32) (hkb : digOk 256 key) {w0 : World} {E : List Nat} {L : List Item} (M : Mem w0 E w L) :
    Calls Try.prog 33 #[.agg (nums .u8 key).toArray] w fun e w' => ∃ g, e = .returned (.pointer (some ⟨g, 0, none⟩)) ∧ Mem w0 E w' (PB g key [] :: L) := New33 key w hk hkb M
theorem WriteP (key : List Int) (hk : key.length = 32) (g : Nat) (bs : List Int) (hb : digOk 256 bs) (v : Value) (ps : List ByteArray) (w : World) (hv : Strs w g v ps) (hps : ps.length ≤ 1000000) (hpl : ∀ p ∈ ps, p.size ≤ 1000000)
    {w0 : World} {E : List Nat} {L L' : List Item} (M : Mem w0 E w L) (hsw : Swap (PB g key bs) (PB g key (bs ++ bytesAll ps)) L L') :
    Calls Try.prog 35 #[.pointer (some ⟨g, 0, none⟩), v] w fun e w' => e = .returned (.tuple #[]) ∧ Mem w0 E w' L' := by
  rw [PB, PB, pfeed_append] at hsw
  exact WriteM g 83 _ _ _ v ps w (begun_lr key) (begun_ls key hk) (pfeed_ok _ _ _ st0_ok hb) hv hps hpl M hsw
theorem TagPB (key : List Int) (hk : key.length = 32) (g : Nat) (bs : List Int) (hb : digOk 256 bs) (w : World) {w0 : World} {E : List Nat} {L : List Item} (M : Mem w0 E w L) (hin : PB g key bs ∈ L) :
    Calls Try.prog 34 #[.pointer (some ⟨g, 0, none⟩)] w fun e w' => e = .returned (.string (strOfNums (tagK key bs))) ∧ Mem w0 E w' L :=
  TagM g 83 _ _ _ w (begun_lr key) (begun_ls key hk) (pfeed_ok _ _ _ st0_ok hb) M hin
theorem RowS.strs' {w : World} {b : Nat} {cap : Nat} {ps : List ByteArray} (h : RowS w (some ⟨b, 0, none⟩) ps) {g : Nat} (hb : b ≠ g) : Strs w g (.slice (some ⟨b, 0, none⟩) ps.length cap) ps :=
  .some b 0 cap ps hb fun i s hi => by
    obtain ⟨g', off', hA, hc'⟩ := h i s hi
    simp only [Option.some.injEq, Addr.mk.injEq, and_true] at hA
    obtain ⟨rfl, rfl⟩ := hA
    exact hc'
/-- One string, in a slice of its own, is written. -/
theorem WriteP1 (key : List Int) (hk : key.length = 32) (g b : Nat) (bs : List Int) (hb : digOk 256 bs) (p : ByteArray) (hp : p.size ≤ 1000000) (w : World) {w0 : World} {E : List Nat} {L : List Item} (M : Mem w0 E w (.blk b (strsO 9 [p]) :: PB g key bs :: L)) :
    Calls Try.prog 35 #[.pointer (some ⟨g, 0, none⟩), .slice (some ⟨b, 0, none⟩) 1 1] w fun e w' => e = .returned (.tuple #[]) ∧ Mem w0 E w' (PB g key (bs ++ bytesOf p) :: L) := by
  have hne : b ≠ g := fun e => by
    have h := (List.pairwise_cons.1 M.apart).1 (PB g key bs) List.mem_cons_self b rfl
    rw [PB_block, e] at h
    exact h rfl
  have hv : Strs w g (.slice (some ⟨b, 0, none⟩) 1 1) [p] := RowS.strs' (M.rowStr List.mem_cons_self) hne
  have e1 : bytesAll [p] = bytesOf p := by simp [bytesAll]
  rw [← e1]
  exact (WriteP key hk g bs hb _ [p] w hv (by simp) (fun q hq => by simp at hq; subst hq; exact hp) M (Swap.tail Swap.head)).mono fun e w' ⟨h1, h2⟩ => ⟨h1, h2.sub (List.sublist_cons_self _ _)⟩
end Go.Proofs.Ytcjfpcajjhccaaa
