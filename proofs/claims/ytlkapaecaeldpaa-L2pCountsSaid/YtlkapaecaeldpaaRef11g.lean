/-
  Package strakeref11: Valid; Bits of a line that is not there; package l2p: Bits, Valid of such a line; what a line's bitmap and count are, on both sides the same.
-/
import Derived.Test.YtlkapaecaeldpaaRef11f
set_option linter.unusedVariables false
set_option linter.unusedSimpArgs false
set_option maxRecDepth 16384
namespace Go.Proofs.Ytlkapaecaeldpaa
open Go.RowKit

theorem RefAt.cells {w : World} {B r : Nat} {g : Geo} {to : List Ent} {v : Value} (h : RefAt w B r g to v) : w.cell? ⟨r, 2, none⟩ = some (.int .i64 g.blocks) := h.blk.cell 2

set_option maxHeartbeats 400000 in
theorem ref11BitsNo_any {w : World} {B r : Nat} {g : Geo} {to : List Ent} {v : Value} (HM : RefAt w B r g to v) (l : Int) (hl : ¬ (0 ≤ l ∧ l < g.blocks)) :
    Calls Try.prog 71 #[.pointer (some ⟨r, 0, none⟩), .int .i64 l] w fun e w' => e = .returned (.slice none 0 0) ∧ w = w' := by
  have k2 := HM.cells
  have hrl := HM.blk.lt
  obtain ⟨b, hb⟩ : ∃ b, g.blocks = b := ⟨_, rfl⟩
  rw [hb] at k2 hl
  clear HM hb
  go_enter Try.func71, Try.ntmps71
  by_cases h0 : l < 0
  · go_wp2_with fail
    go_ret
    exact ⟨rfl, rfl⟩
  · have h1 : b ≤ l := by omega
    clear hl
    go_wp2_with fail
    go_ret
    exact ⟨rfl, rfl⟩

set_option maxHeartbeats 400000 in
theorem mapBitsNo_any {w : World} {B C m : Nat} {g : Geo} {to : List Ent} {kt kw vb : Nat} {st sw : Shards} (HM : MapAt w B C m g to kt kw vb st sw) (l : Int) (hl : ¬ (0 ≤ l ∧ l < g.blocks)) :
    Calls Try.prog 39 #[.pointer (some ⟨m, 0, none⟩), .int .i64 l] w fun e w' => e = .returned (.slice none 0 0) ∧ w = w' := by
  have k2 : w.cell? ⟨m, 2, none⟩ = some (.int .i64 g.blocks) := HM.raw.blk.cell 2
  have hrl := HM.raw.blk.lt
  obtain ⟨b, hb⟩ : ∃ b, g.blocks = b := ⟨_, rfl⟩
  rw [hb] at k2 hl
  clear HM hb
  go_enter Try.func39, Try.ntmps39
  by_cases h0 : l < 0
  · go_wp2_with fail
    go_ret
    exact ⟨rfl, rfl⟩
  · have h1 : b ≤ l := by omega
    clear hl
    go_wp2_with fail
    go_ret
    exact ⟨rfl, rfl⟩

set_option maxHeartbeats 400000 in
theorem mapValidNo_any {w : World} {B C m : Nat} {g : Geo} {to : List Ent} {kt kw vb : Nat} {st sw : Shards} (HM : MapAt w B C m g to kt kw vb st sw) (l : Int) (hl : ¬ (0 ≤ l ∧ l < g.blocks)) :
    Calls Try.prog 43 #[.pointer (some ⟨m, 0, none⟩), .int .i64 l] w fun r w' => r = .returned (.int .i64 0) ∧ w = w' := by
  have k2 : w.cell? ⟨m, 2, none⟩ = some (.int .i64 g.blocks) := HM.raw.blk.cell 2
  have hrl := HM.raw.blk.lt
  obtain ⟨b, hb⟩ : ∃ b, g.blocks = b := ⟨_, rfl⟩
  rw [hb] at k2 hl
  clear HM hb
  go_enter Try.func43, Try.ntmps43
  by_cases h0 : l < 0
  · go_wp2_with fail
    go_ret
    exact ⟨rfl, rfl⟩
  · have h1 : b ≤ l := by omega
    clear hl
    go_wp2_with fail
    go_ret
    exact ⟨rfl, rfl⟩

/-- a line's bitmap, and how many sectors it has -/
def lineBits (g : Geo) (to : List Ent) (l : Int) : List Int := if 0 ≤ l ∧ l < g.blocks then bitsR g.line to l to.length else []
def lineValid (g : Geo) (to : List Ent) (l : Int) : Int := if 0 ≤ l ∧ l < g.blocks then (validN g.line to l.toNat : Nat) else 0

theorem Geo.line_nat {g : Geo} (h : g.okB = true) : ∃ L : Nat, g.line = L ∧ 1 ≤ L ∧ L ≤ 1024 := by
  have hgo := Geo.ok_of h
  obtain ⟨m1, m2, m3, m4, m5', m6, m7, m8, m9, m10⟩ := geo_mul hgo.c.1 hgo.c.2 hgo.l.1 hgo.l.2 hgo.b.1 hgo.b.2 hgo.p.1 hgo.p.2 hgo.s.1 hgo.s.2
  have : g.line = g.chans * g.luns * g.pages * g.sectors := rfl
  exact ⟨g.line.toNat, by omega, by omega, by omega⟩
theorem lineBits_length (g : Geo) (to : List Ent) (l : Int) : (lineBits g to l).length ≤ 1024 := by
  unfold lineBits
  split
  · rw [bitsR_length]; exact makeN_le _
  · simp
theorem lineBits_isB (g : Geo) (to : List Ent) (l : Int) : ∀ x ∈ lineBits g to l, IsB x := by
  unfold lineBits
  split
  · exact bitsR_isB _ _ _ _
  · simp

theorem row_nil {w : World} {B : Nat} {t : TypeId} : w.ownsRow B t 1 (.slice none 0 0) 0 (bv []) := World.ownsRow_nil w B t 1

theorem ref11BitsAll_any {w : World} {B r : Nat} {g : Geo} {to : List Ent} {v : Value} (HM : RefAt w B r g to v) (hok : g.okB = true) (hf : Fine g to) (hlen : to.length ≤ 4096) (l : Int) :
    Calls Try.prog 71 #[.pointer (some ⟨r, 0, none⟩), .int .i64 l] w (Po fun e w' => ∃ v, e = .returned v ∧ w'.ownsRow w.heap.size 5 1 v (lineBits g to l).length (bv (lineBits g to l)) ∧ Below w.heap.size w w') := by
  by_cases hl : 0 ≤ l ∧ l < g.blocks
  · have h1 : lineBits g to l = bitsR g.line to l to.length := if_pos hl
    rw [h1, bitsR_length]
    have hfine : ∀ e ∈ to, e.a < g.all := fun e he => by
      obtain ⟨L, hL, hL1, hL2⟩ := Geo.line_nat hok
      have hgo := Geo.ok_of hok
      obtain ⟨m1, m2, m3, m4, m5', m6, m7, m8, m9, m10⟩ := geo_mul hgo.c.1 hgo.c.2 hgo.l.1 hgo.l.2 hgo.b.1 hgo.b.2 hgo.p.1 hgo.p.2 hgo.s.1 hgo.s.2
      have h7 : 1 ≤ g.all := m7
      have := hf.in_ e he
      omega
    exact ref11Bits_any HM hok hlen hfine l hl
  · have h1 : lineBits g to l = [] := if_neg hl
    rw [h1]
    refine (ref11BitsNo_any HM l hl).mono ?_
    rintro e w' ⟨rfl, rfl⟩
    exact Po.mk ⟨_, rfl, row_nil, Below.refl _ _⟩

set_option maxHeartbeats 400000 in
theorem ref11Valid_any {w : World} {B r : Nat} {g : Geo} {to : List Ent} {v : Value} (HM : RefAt w B r g to v) (hok : g.okB = true) (hf : Fine g to) (hlen : to.length ≤ 4096) (l : Int) :
    Calls Try.prog 70 #[.pointer (some ⟨r, 0, none⟩), .int .i64 l] w fun e w' => e = .returned (.int .i64 (lineValid g to l)) ∧ Below w.heap.size w w' := by
  have HB := Lib.hid (ref11BitsAll_any HM hok hf hlen l)
  have HIS := Lib.hid (lineBits_isB g to l)
  have hle := lineBits_length g to l
  have HC : Hid (cntB (lineBits g to l) (8 * (lineBits g to l).length) = lineValid g to l) := by
    show _ = _
    unfold lineBits lineValid
    by_cases hl : 0 ≤ l ∧ l < g.blocks
    · rw [if_pos hl, if_pos hl, bitsR_length]
      obtain ⟨L, hL, hL1, hL2⟩ := Geo.line_nat hok
      obtain ⟨ln, rfl⟩ : ∃ ln : Nat, l = ln := ⟨l.toNat, by omega⟩
      rw [hL]
      exact count_bits hL1 hL2 to hf ln
    · rw [if_neg hl, if_neg hl]; rfl
  obtain ⟨X, hX⟩ : ∃ X, lineBits g to l = X := ⟨_, rfl⟩
  obtain ⟨V, hV⟩ : ∃ V, lineValid g to l = V := ⟨_, rfl⟩
  rw [hX] at HB HIS hle HC
  rw [hV] at HC ⊢
  clear HM hok hf hlen hX hV
  go_enter Try.func70, Try.ntmps70
  (go_wp2_with fail); refine (HB.out).mono ?_
  rintro e w1 ⟨u, rfl, ho, hb⟩
  have HS := Lib.hid (Sl.mono (Sl.of_own ho (by rw [bv_length]; omega)) (Nat.zero_le _))
  have HB1 := Lib.hid hb
  obtain ⟨ua, uc, rfl⟩ := own_slice ho
  clear ho hb
  (go_wp2_with fail); refine (refCount_any _ X _ HS.out HIS.out (by omega)).mono ?_
  rintro e w2 ⟨rfl, hb⟩
  have HB2 := Lib.hid (HB1.out.trans (hb.mono HB1.out.size))
  rw [HC.out]
  clear hb
  go_wp2_with fail
  go_ret
  exact ⟨rfl, HB2.out⟩

theorem mapBitsAll_any {w : World} {B C m : Nat} {g : Geo} {to : List Ent} {kt kw vb : Nat} {st sw : Shards} (HM : MapAt w B C m g to kt kw vb st sw) (l : Int) :
    Calls Try.prog 39 #[.pointer (some ⟨m, 0, none⟩), .int .i64 l] w (Po fun e w' => ∃ v, e = .returned v ∧ w'.ownsRow w.heap.size 5 1 v (lineBits g to l).length (bv (lineBits g to l)) ∧ Below w.heap.size w w') := by
  by_cases hl : 0 ≤ l ∧ l < g.blocks
  · have h1 : lineBits g to l = bitsF g.line to l g.line.toNat := by
      obtain ⟨L, hL, hL1, hL2⟩ := Geo.line_nat HM.ok
      unfold lineBits
      rw [if_pos hl, hL]
      exact (bits_same hL1 hL2 to l hl.1).symm
    rw [h1, bitsF_length]
    exact mapBits_any HM l hl
  · have h1 : lineBits g to l = [] := if_neg hl
    rw [h1]
    refine (mapBitsNo_any HM l hl).mono ?_
    rintro e w' ⟨rfl, rfl⟩
    exact Po.mk ⟨_, rfl, row_nil, Below.refl _ _⟩
theorem mapValidAll_any {w : World} {B C m : Nat} {g : Geo} {to : List Ent} {kt kw vb : Nat} {st sw : Shards} (HM : MapAt w B C m g to kt kw vb st sw) (l : Int) :
    Calls Try.prog 43 #[.pointer (some ⟨m, 0, none⟩), .int .i64 l] w fun r w' => r = .returned (.int .i64 (lineValid g to l)) ∧ w = w' := by
  unfold lineValid
  by_cases hl : 0 ≤ l ∧ l < g.blocks
  · rw [if_pos hl]
    obtain ⟨ln, rfl⟩ : ∃ ln : Nat, l = ln := ⟨l.toNat, by omega⟩
    exact mapValid_any HM ln hl.2
  · rw [if_neg hl]
    exact mapValidNo_any HM l hl

end Go.Proofs.Ytlkapaecaeldpaa
