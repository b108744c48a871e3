/-
  The law's package over nand: Sectors.
-/
import Derived.Test.YtlkapaecaeldpaaNandH
set_option linter.unusedVariables false
set_option linter.unusedSimpArgs false
set_option maxRecDepth 16384
namespace Go.Proofs.Ytlkapaecaeldpaa
open Go.RowKit

/-- a sector's bytes of a number, and what stands beside it -/
def secDB (n x : Int) : Int := IntKind.u8.wrap (IntKind.u8.wrap n + IntKind.u8.wrap x)
def secOB (n x : Int) : Int := bits .xor .u8 (IntKind.u8.wrap n) (IntKind.u8.wrap x)
def secD (n : Int) (i : Nat) : List Int := (List.range 16).map fun k : Nat => secDB n ((i : Int) * 16 + k)
def secO (n : Int) (i : Nat) : List Int := ((List.range 16).map fun k : Nat => secOB n ((i : Int) * 16 + k)) ++ [0]
/-- .. so far -/
def secDk (n : Int) (i k : Nat) : List Int := ((List.range k).map fun k : Nat => secDB n ((i : Int) * 16 + k)) ++ List.replicate (16 - k) 0
def secOk (n : Int) (i k : Nat) : List Int := ((List.range k).map fun k : Nat => secOB n ((i : Int) * 16 + k)) ++ List.replicate (17 - k) 0

theorem set_part {α : Type} (f : Nat → α) (z : α) (k m : Nat) (h : k < m) : (((List.range k).map f) ++ List.replicate (m - k) z).set k (f k) = ((List.range (k + 1)).map f) ++ List.replicate (m - (k + 1)) z := by
  rw [List.range_succ, List.map_append, List.append_assoc]
  rw [show m - k = (m - (k + 1)) + 1 by omega, List.replicate_succ]
  rw [List.set_append_right _ _ (by simp)]
  simp
theorem secDk_step (n : Int) (i k : Nat) (h : k < 16) : (secDk n i k).set k (secDB n ((i : Int) * 16 + k)) = secDk n i (k + 1) := set_part (fun k : Nat => secDB n ((i : Int) * 16 + k)) 0 k 16 h
theorem secOk_step (n : Int) (i k : Nat) (h : k < 16) : (secOk n i k).set k (secOB n ((i : Int) * 16 + k)) = secOk n i (k + 1) := set_part (fun k : Nat => secOB n ((i : Int) * 16 + k)) 0 k 17 (by omega)
theorem secDk_all (n : Int) (i : Nat) : secDk n i 16 = secD n i := by simp [secDk, secD]
theorem secOk_all (n : Int) (i : Nat) : secOk n i 16 = secO n i := by simp [secOk, secO]
theorem secD_length (n : Int) (i : Nat) : (secD n i).length = 16 := by simp [secD]
theorem secO_length (n : Int) (i : Nat) : (secO n i).length = 17 := by simp [secO]
theorem secDk_length (n : Int) (i k : Nat) (h : k ≤ 16) : (secDk n i k).length = 16 := by simp [secDk]; omega
theorem secOk_length (n : Int) (i k : Nat) (h : k ≤ 16) : (secOk n i k).length = 17 := by simp [secOk]; omega

theorem secDB_isB (n x : Int) : IsB (secDB n x) := by
  unfold secDB IsB
  rw [IntKind.wrap_u8]
  omega
theorem secOB_isB (n x : Int) : IsB (secOB n x) := by
  unfold secOB
  have h1 : IsB (IntKind.u8.wrap n) := by unfold IsB; rw [IntKind.wrap_u8]; omega
  have h2 : IsB (IntKind.u8.wrap x) := by unfold IsB; rw [IntKind.wrap_u8]; omega
  rw [u8_xor _ _ h1.1 h1.2 h2.1 h2.2]
  have : (IntKind.u8.wrap n).toNat ^^^ (IntKind.u8.wrap x).toNat < 2 ^ 8 := Nat.xor_lt_two_pow (by have := h1.2; omega) (by have := h2.2; omega)
  exact ⟨by omega, by omega⟩
theorem secD_isB (n : Int) (i : Nat) : ∀ x ∈ secD n i, IsB x := by
  intro x hx
  obtain ⟨k, _, rfl⟩ := List.mem_map.1 hx
  exact secDB_isB _ _
theorem secO_isB (n : Int) (i : Nat) : ∀ x ∈ secO n i, IsB x := by
  intro x hx
  rcases List.mem_append.1 hx with h | h
  · obtain ⟨k, _, rfl⟩ := List.mem_map.1 h
    exact secOB_isB _ _
  · rw [List.mem_singleton] at h
    subst h
    exact ⟨by decide, by decide⟩

def rowD (bs : List Nat) : List Value := bs.map fun b => .slice (some ⟨b, 0, none⟩) 16 16
def rowO (odd : Bool) (cs : List Nat) : List Value := cs.mapIdx fun j c => .slice (some ⟨c, 0, none⟩) (if odd = true ∧ j = 0 then 16 else 17) 17

/-- sectors that were made: rows of slices, each into a block of its own -/
structure SecsAt (t tt : TypeId) (w : World) (base : Nat) (vd vo : Value) (n : Int) (odd : Bool) (bs cs : List Nat) : Prop where
  rd : w.ownsRow base tt 1 vd bs.length (rowD bs)
  ro : w.ownsRow base tt 1 vo cs.length (rowO odd cs)
  bd : ∀ j b, bs[j]? = some b → base ≤ b ∧ Blk w b t (bv (secD n j))
  bo : ∀ j c, cs[j]? = some c → base ≤ c ∧ Blk w c t (bv (secO n j))
  len : bs.length = cs.length
  le : bs.length ≤ 4
  ap : (vo.ownBlock = none ∨ vo.ownBlock ≠ vd.ownBlock) ∧ (vd.ownBlock = none ∨ vd.ownBlock ≠ vo.ownBlock)

theorem SecsAt.below {t tt : TypeId} {w w' : World} {base : Nat} {vd vo : Value} {n : Int} {odd : Bool} {bs cs : List Nat} (h : SecsAt t tt w base vd vo n odd bs cs) (hb : Below w.heap.size w w') : SecsAt t tt w' base vd vo n odd bs cs :=
  ⟨own_below h.rd hb, own_below h.ro hb, fun j b hj => ⟨(h.bd j b hj).1, (h.bd j b hj).2.below hb⟩, fun j b hj => ⟨(h.bo j b hj).1, (h.bo j b hj).2.below hb⟩, h.len, h.le, h.ap⟩

theorem own_ne_blk {w : World} {base : Nat} {t t' : TypeId} {sz n b : Nat} {v : Value} {xs ys : List Value} (h : w.ownsRow base t sz v n xs) (hb : Blk w b t' ys) (ht : t ≠ t') : v.ownBlock ≠ some b := by
  intro e
  rcases h.2 with ⟨rfl, _⟩ | ⟨g, cap, cur, rfl, h1, h2, _⟩
  · cases e
  · simp only [Value.ownBlock, Option.some.injEq] at e
    subst e
    unfold Blk at hb
    rw [hb] at h2
    injection h2 with h2
    injection h2 with _ h2
    exact ht h2.symm

/-- what Sectors tells -/
def secsD (m : Nat) (n : Int) : List (List Int) := (List.range m).map fun i => secD n i
def secsO (m : Nat) (n : Int) (odd : Bool) : List (List Int) := (List.range m).map fun i => if odd = true ∧ i = 0 then (secO n i).take 16 else secO n i

theorem SecsAt.slsD {t tt : TypeId} {w : World} {base : Nat} {vd vo : Value} {n : Int} {odd : Bool} {bs cs : List Nat} (h : SecsAt t tt w base vd vo n odd bs cs) : Sls w (fun k => base ≤ k ∧ k < w.heap.size) vd (secsD bs.length n) := by
  obtain ⟨h1, h2⟩ := h.rd
  have hl : (secsD bs.length n).length = bs.length := by simp [secsD]
  rcases h2 with ⟨rfl, h0⟩ | ⟨g, cap, cur, rfl, h3, h4, h5, h6, h7, h8⟩
  · refine ⟨none, 0, by rw [hl, h0], by rw [hl, h0]; exact Nat.le_refl _, by rw [hl, h0]; omega, fun j xs hj => ?_⟩
    have := (List.getElem?_eq_some_iff.1 hj).1
    omega
  · refine ⟨_, cap, by rw [hl], by rw [hl]; exact h5, ?_, fun j xs hj => ?_⟩
    · rw [hl]; have := h.le; omega
    · have hjl : j < bs.length := by have := (List.getElem?_eq_some_iff.1 hj).1; omega
      obtain ⟨b, hb⟩ : ∃ b, bs[j]? = some b := ⟨_, List.getElem?_eq_getElem hjl⟩
      have hx : xs = secD n j := by
        unfold secsD at hj
        rw [List.getElem?_map, List.getElem?_range hjl] at hj
        exact (Option.some.inj hj).symm
      subst hx
      obtain ⟨hbb, hblk⟩ := h.bd j b hb
      have hgl := (Array.getElem?_eq_some_iff.1 h4).1
      refine ⟨g, 0, .slice (some ⟨b, 0, none⟩) 16 16, rfl, ⟨h3, hgl⟩, hgl, ?_, ?_⟩
      · have hr : (rowD bs)[j]? = some (.slice (some ⟨b, 0, none⟩) 16 16) := by unfold rowD; rw [List.getElem?_map, hb]; rfl
        rw [← h8, List.getElem?_take, if_pos (by omega)] at hr
        rw [Nat.zero_add]
        simp only [World.cell?, h4]
        simpa using hr
      · have := hblk.sl (B := base) hbb (by rw [bv_length, secD_length]; omega)
        rw [bv_length, secD_length] at this
        exact SlQ.of_sl this

theorem Blk.slP {w : World} {g : Nat} {t : TypeId} {xs : List Value} (h : Blk w g t xs) {m : Nat} (hm : m ≤ xs.length) (hl : xs.length ≤ 140737488351232) {Q : Nat → Prop} (hQ : Q g) : SlQ w Q (.slice (some ⟨g, 0, none⟩) m xs.length) (xs.take m) := by
  have e : (xs.take m).length = m := by rw [List.length_take]; omega
  refine ⟨some ⟨g, 0, none⟩, xs.length, by rw [e], by rw [e]; exact hm, by rw [e]; omega, nofun, .inr ⟨g, 0, rfl, hQ, h.lt, fun j x hx => ?_⟩⟩
  rw [List.getElem?_take] at hx
  split at hx
  · rw [Nat.zero_add, h.cell, hx]
  · cases hx

theorem SecsAt.slsO {t tt : TypeId} {w : World} {base : Nat} {vd vo : Value} {n : Int} {odd : Bool} {bs cs : List Nat} (h : SecsAt t tt w base vd vo n odd bs cs) : Sls w (fun k => base ≤ k ∧ k < w.heap.size) vo (secsO bs.length n odd) := by
  obtain ⟨h1, h2⟩ := h.ro
  have hle := h.le
  have hlen := h.len
  have hl : (secsO bs.length n odd).length = cs.length := by simp [secsO]; exact hlen
  rcases h2 with ⟨rfl, h0⟩ | ⟨g, cap, cur, rfl, h3, h4, h5, h6, h7, h8⟩
  · refine ⟨none, 0, by rw [hl, h0], by rw [hl, h0]; exact Nat.le_refl _, by rw [hl, h0]; omega, fun j xs hj => ?_⟩
    have := (List.getElem?_eq_some_iff.1 hj).1
    omega
  · refine ⟨_, cap, by rw [hl], by rw [hl]; exact h5, by rw [hl]; omega, fun j xs hj => ?_⟩
    have hjl : j < cs.length := by have := (List.getElem?_eq_some_iff.1 hj).1; omega
    obtain ⟨c, hc⟩ : ∃ b, cs[j]? = some b := ⟨_, List.getElem?_eq_getElem hjl⟩
    have hx : xs = if odd = true ∧ j = 0 then (secO n j).take 16 else secO n j := by
      unfold secsO at hj
      rw [List.getElem?_map, List.getElem?_range (by omega)] at hj
      exact (Option.some.inj hj).symm
    subst hx
    obtain ⟨hbb, hblk⟩ := h.bo j c hc
    have hgl := (Array.getElem?_eq_some_iff.1 h4).1
    refine ⟨g, 0, .slice (some ⟨c, 0, none⟩) (if odd = true ∧ j = 0 then 16 else 17) 17, rfl, ⟨h3, hgl⟩, hgl, ?_, ?_⟩
    · have hr : (rowO odd cs)[j]? = some (.slice (some ⟨c, 0, none⟩) (if odd = true ∧ j = 0 then 16 else 17) 17) := by unfold rowO; rw [List.getElem?_mapIdx, hc]; rfl
      rw [← h8, List.getElem?_take, if_pos (by omega)] at hr
      rw [Nat.zero_add]
      simp only [World.cell?, h4]
      simpa using hr
    · have hlo : (bv (secO n j)).length = 17 := by rw [bv_length, secO_length]
      have hk : ∀ m, m ≤ 17 → SlQ w (fun k => base ≤ k ∧ k < w.heap.size) (.slice (some ⟨c, 0, none⟩) m 17) (bv ((secO n j).take m)) := fun m hm => by
        have := hblk.slP (m := m) (by rw [hlo]; exact hm) (by rw [hlo]; omega) (Q := fun k => base ≤ k ∧ k < w.heap.size) ⟨hbb, hblk.lt⟩
        rw [hlo] at this
        rw [show bv ((secO n j).take m) = (bv (secO n j)).take m by simp [bv, List.map_take]]
        exact this
      by_cases ho : odd = true ∧ j = 0
      · rw [if_pos ho, if_pos ho]; exact hk 16 (by omega)
      · rw [if_neg ho, if_neg ho]
        have := hk 17 (by omega)
        rwa [List.take_of_length_le (by rw [secO_length]; omega)] at this

/-- how Sectors ends -/
def SecsPost (t tt : TypeId) (w : World) (s n : Int) (odd : Bool) (e : Ending) (w' : World) : Prop :=
  ∃ vd vo bs cs, e = .returned (.tuple #[vd, vo]) ∧ SecsAt t tt w' w.heap.size vd vo n odd bs cs ∧ bs.length = (min s 4).toNat ∧ Below w.heap.size w w'

theorem info_u8s : (Try.prog.info? 45).map (fun i => (i.zero, i.size, i.bytes)) = some (some (.slice none 0 0), 1, 24) := by kernel_rfl

theorem grow_blk {w w1 : World} {base n b : Nat} {tt t' : TypeId} {v : Value} {xs ys : List Value} {o : Obj} (hr : w.ownsRow base tt 1 v n xs) (hb : Blk w b t' ys) (ht : tt ≠ t') (hg : (w.alloc o).grownBy w1 v.ownBlock) : Blk w1 b t' ys := (hb.alloc o).grown hg (own_ne_blk hr hb ht)
theorem grow_own {w w1 : World} {base m : Nat} {tt : TypeId} {v u : Value} {ys : List Value} {o : Obj} (hr : w.ownsRow base tt 1 u m ys) (hne : u.ownBlock = none ∨ u.ownBlock ≠ v.ownBlock) (hg : (w.alloc o).grownBy w1 v.ownBlock) : w1.ownsRow base tt 1 u m ys := by
  refine (own_below hr ((Below.refl w.heap.size w).alloc (Nat.le_refl _) o)).kept hg ?_
  exact hne
theorem fresh_ne {w : World} {base m : Nat} {tt : TypeId} {u v1 v : Value} {ys : List Value} (hr : w.ownsRow base tt 1 u m ys) (hne : (u.ownBlock = none ∨ u.ownBlock ≠ v.ownBlock) ∧ (v.ownBlock = none ∨ v.ownBlock ≠ u.ownBlock)) {k : Nat} (hk : w.heap.size ≤ k) (hv : v1.ownBlock = v.ownBlock ∨ v1.ownBlock = some k) :
    (u.ownBlock = none ∨ u.ownBlock ≠ v1.ownBlock) ∧ (v1.ownBlock = none ∨ v1.ownBlock ≠ u.ownBlock) := by
  rcases hv with h | h
  · rw [h]; exact hne
  · have hu : u.ownBlock ≠ some k := fun e => by have := (hr.lt k e).2; omega
    rw [h]
    exact ⟨.inr hu, .inr fun e => hu e.symm⟩
theorem rowD_snoc (bs : List Nat) (b : Nat) : rowD bs ++ [.slice (some ⟨b, 0, none⟩) 16 16] = rowD (bs ++ [b]) := by simp [rowD]
theorem rowO_snoc (odd : Bool) (cs : List Nat) (c L : Nat) (hL : (if odd = true ∧ cs.length = 0 then 16 else 17) = L) : rowO odd cs ++ [.slice (some ⟨c, 0, none⟩) L 17] = rowO odd (cs ++ [c]) := by
  subst hL
  simp [rowO, List.mapIdx_concat]
theorem oneCell_slice (a : Option Addr) (m k : Nat) : ∀ u ∈ [Value.slice a m k], u.oneCell' = true := by
  intro u hu
  rw [List.mem_singleton] at hu
  subst hu; rfl

set_option maxHeartbeats 4000000 in
theorem sectors_any (g : Geo) (n : Int) (odd : Bool) (w : World) :
    Calls Try.prog 22 #[g.v, .int .i64 n, .bool odd] w fun e w' => SecsPost 5 45 w g.sectors n odd e w' := by
  obtain ⟨c, l, b, p, s⟩ := g
  have HG := Lib.hid (Blk.new w 23 [.int .i64 c, .int .i64 l, .int .i64 b, .int .i64 p, .int .i64 s])
  have HB0 : Hid (Below w.heap.size w (w.alloc (.cells #[.int .i64 c, .int .i64 l, .int .i64 b, .int .i64 p, .int .i64 s] 23))) := Lib.hid ((Below.refl w.heap.size w).alloc (Nat.le_refl _) _)
  have hmk16 : ∀ w : World, (Instr.makeSlice 45 (.int .i64 16) (.int .i64 16)).run Try.prog w = .ok (.slice (some ⟨w.heap.size, 0, none⟩) 16 16) (w.alloc (.cells (List.replicate 16 (Value.int .u8 0)).toArray 5)) := makeRow (P := Try.prog) 45 5 (.int .u8 0) 1 Try.underlying45 info_u8 rfl 16 (by omega) (by omega)
  have hmk17 : ∀ w : World, (Instr.makeSlice 45 (.int .i64 17) (.int .i64 17)).run Try.prog w = .ok (.slice (some ⟨w.heap.size, 0, none⟩) 17 17) (w.alloc (.cells (List.replicate 17 (Value.int .u8 0)).toArray 5)) := makeRow (P := Try.prog) 45 5 (.int .u8 0) 1 Try.underlying45 info_u8 rfl 17 (by omega) (by omega)
  unfold Geo.v
  simp only []
  go_enter Try.func22, Try.ntmps22
  go_wp2_with fail
  go_loopw [8, 9, 10] (fun vd vo t wr => ∃ (i : Nat) (bs cs : List Nat), (i : Int) ≤ max 0 (min s 4) ∧ t = .int .i64 i ∧ bs.length = i ∧ Hid (SecsAt 5 45 wr w.heap.size vd vo n odd bs cs) ∧ Hid (Blk wr w.heap.size 23 [.int .i64 c, .int .i64 l, .int .i64 b, .int .i64 p, .int .i64 s]) ∧ Hid (Below w.heap.size w wr)) (fun _ _ t _ => ((4 : Int) - intOf t).toNat)
  case atStart => exact ⟨0, [], [], by omega, rfl, rfl, ⟨World.ownsRow_nil _ _ _ _, World.ownsRow_nil _ _ _ _, fun j b h => by simp at h, fun j b h => by simp at h, rfl, by simp, .inl rfl, .inl rfl⟩, HG.out, HB0.out⟩
  case round =>
    obtain ⟨i, bs, cs, hi, rfl, hbl, HSr, HGr, HBr⟩ := hrel
    have k4 : wr.cell? ⟨w.heap.size, 4, none⟩ = some (.int .i64 s) := HGr.out.cell 4
    have hgl := HGr.out.lt
    by_cases hlt : (i : Int) < s ∧ i < 4
    · obtain ⟨hlt1, hlt2⟩ := hlt
      have hi0 : (0 : Int) ≤ i := by omega
      have hi4 : (i : Int) < 4 := by omega
      have hA0 : Hid (Blk ((wr.alloc (.cells (List.replicate 16 (Value.int .u8 0)).toArray 5)).alloc (.cells (List.replicate 17 (Value.int .u8 0)).toArray 5)) wr.heap.size 5 (bv (secDk n i 0))) := Lib.hid ((Blk.new wr 5 (List.replicate 16 (Value.int .u8 0))).alloc _)
      have hA1 : Hid (Blk ((wr.alloc (.cells (List.replicate 16 (Value.int .u8 0)).toArray 5)).alloc (.cells (List.replicate 17 (Value.int .u8 0)).toArray 5)) (wr.heap.size + 1) 5 (bv (secOk n i 0))) := Lib.hid (Blk.new1 wr (.cells (List.replicate 16 (Value.int .u8 0)).toArray 5) 5 (List.replicate 17 (Value.int .u8 0)))
      have hB2 : Hid (Below wr.heap.size wr ((wr.alloc (.cells (List.replicate 16 (Value.int .u8 0)).toArray 5)).alloc (.cells (List.replicate 17 (Value.int .u8 0)).toArray 5))) := Lib.hid (((Below.refl wr.heap.size wr).alloc (Nat.le_refl _) _).alloc (by simp) _)
      have hY : ∃ Y, (i : Int) * 16 = Y := ⟨_, rfl⟩
      obtain ⟨Y, hY⟩ := hY
      have hwY : IntKind.i64.wrap ((i : Int) * 16) = Y := by rw [← hY]; exact wrap_in _ ⟨by omega, by omega⟩
      have hY0 : 0 ≤ Y ∧ Y ≤ 64 := by omega
      have HYE := Lib.hid hY
      have HI := Lib.hid hi
      obtain ⟨hY0, hY9⟩ := hY0
      obtain ⟨N8, hn8⟩ : ∃ x, IntKind.u8.wrap n = x := ⟨_, rfl⟩
      have HN8 := Lib.hid hn8
      clear hY hi
      go_wp2_with fail
      generalize hwx : wr = wx at *
      clear hwx
      go_loopw [13] (fun t wr => ∃ k : Nat, k ≤ 16 ∧ t = .int .i64 k ∧ Hid (Blk wr wx.heap.size 5 (bv (secDk n i k))) ∧ Hid (Blk wr (wx.heap.size + 1) 5 (bv (secOk n i k))) ∧ Hid (Below wx.heap.size wx wr)) (fun t _ => ((16 : Int) - intOf t).toNat)
      case atStart => exact ⟨0, Nat.zero_le _, rfl, hA0.out, hA1.out, hB2.out⟩
      case round =>
        obtain ⟨k, hk, rfl, HA, HO, HB⟩ := hrel
        by_cases hlt3 : k < 16
        · obtain ⟨X, hX⟩ : ∃ X, Y + (k : Int) = X := ⟨_, rfl⟩
          have HXE := Lib.hid hX
          have hwX : IntKind.i64.wrap (Y + (k : Int)) = X := by rw [← hX]; exact wrap_in _ ⟨by omega, by omega⟩
          obtain ⟨X8, hx8⟩ : ∃ x, IntKind.u8.wrap X = x := ⟨_, rfl⟩
          obtain ⟨D8, hd8⟩ : ∃ x, IntKind.u8.wrap (N8 + X8) = x := ⟨_, rfl⟩
          obtain ⟨O8, ho8⟩ : ∃ x, bits .xor .u8 N8 X8 = x := ⟨_, rfl⟩
          have hxX : X = (i : Int) * 16 + (k : Nat) := by rw [HYE.out]; exact hX.symm
          have hD : secDB n ((i : Int) * 16 + (k : Nat)) = D8 := by unfold secDB; rw [← hxX, HN8.out, hx8, hd8]
          have hO : secOB n ((i : Int) * 16 + (k : Nat)) = O8 := by unfold secOB; rw [← hxX, HN8.out, hx8, ho8]
          have hka : ∃ z, wr.cell? ⟨wx.heap.size, k, none⟩ = some (.int .u8 z) := by
            rw [HA.out.cell]
            have hl : k < (secDk n i k).length := by rw [secDk_length n i k hk]; exact hlt3
            exact ⟨_, by unfold bv; rw [List.getElem?_map, List.getElem?_eq_getElem hl]; rfl⟩
          have hkb : ∃ z, wr.cell? ⟨wx.heap.size + 1, k, none⟩ = some (.int .u8 z) := by
            rw [HO.out.cell]
            have hl : k < (secOk n i k).length := by rw [secOk_length n i k hk]; omega
            exact ⟨_, by unfold bv; rw [List.getElem?_map, List.getElem?_eq_getElem hl]; rfl⟩
          obtain ⟨za, hza⟩ := hka
          obtain ⟨zb, hzb⟩ := hkb
          have fa := HA.out.free k
          have fb := HO.out.free k
          have hl1 := HO.out.lt
          have hl0 : wx.heap.size < wr.heap.size := by omega
          have HA2 : Hid (Blk ((wr.setCell ⟨wx.heap.size, k, none⟩ (.int .u8 D8)).setCell ⟨wx.heap.size + 1, k, none⟩ (.int .u8 O8)) wx.heap.size 5 (bv (secDk n i (k + 1)))) := by
            have h1 := (HA.out.set k (.int .u8 D8)).set_other (a := ⟨wx.heap.size + 1, k, none⟩) (by simp) (.int .u8 O8)
            rw [← secDk_step n i k hlt3, hD]
            rwa [show (bv (secDk n i k)).set k (.int .u8 D8) = bv ((secDk n i k).set k D8) by simp [bv, List.map_set]] at h1
          have HO2 : Hid (Blk ((wr.setCell ⟨wx.heap.size, k, none⟩ (.int .u8 D8)).setCell ⟨wx.heap.size + 1, k, none⟩ (.int .u8 O8)) (wx.heap.size + 1) 5 (bv (secOk n i (k + 1)))) := by
            have h1 := (HO.out.set_other (a := ⟨wx.heap.size, k, none⟩) (by simp) (.int .u8 D8)).set k (.int .u8 O8)
            rw [← secOk_step n i k hlt3, hO]
            rwa [show (bv (secOk n i k)).set k (.int .u8 O8) = bv ((secOk n i k).set k O8) by simp [bv, List.map_set]] at h1
          have HB2 : Hid (Below wx.heap.size wx ((wr.setCell ⟨wx.heap.size, k, none⟩ (.int .u8 D8)).setCell ⟨wx.heap.size + 1, k, none⟩ (.int .u8 O8))) := Lib.hid ((HB.out.setCell (p := ⟨wx.heap.size, k, none⟩) (Nat.le_refl _) _).setCell (p := ⟨wx.heap.size + 1, k, none⟩) (Nat.le_succ _) _)
          have hk0 : (0 : Int) ≤ k := by omega
          have hk16 : (k : Int) < 16 := by omega
          have hk17 : (k : Int) < 17 := by omega
          clear hX hxX hD hO
          go_wp2_with fail
          go_roundw
          case rel => exact ⟨k + 1, by omega, by go_num, HA2.out, HO2.out, HB2.out⟩
          case measure => simp [intOf]; omega
        · obtain rfl : k = 16 := by omega
          have HA2 : Hid (Blk wr wx.heap.size 5 (bv (secD n i))) := by have := HA.out; rwa [secDk_all] at this
          have HO2 : Hid (Blk wr (wx.heap.size + 1) 5 (bv (secO n i))) := by have := HO.out; rwa [secOk_all] at this
          have HS2 := Lib.hid (HSr.out.below HB.out)
          have HG2 := Lib.hid (HGr.out.below HB.out)
          have HB2 := Lib.hid (HBr.out.trans (HB.out.mono HBr.out.size))
          have hsz := HBr.out.size
          obtain ⟨i0, hif, hz0, hz1, hz2⟩ := info_parts info_u8s
          clear HA HO HB k4 hgl hmk16 hmk17 hn8 hwY
          by_cases hod : odd = true ∧ i = 0
          · obtain ⟨rfl, rfl⟩ := hod
            have HL : Hid (∀ c, rowO true cs ++ [.slice (some ⟨c, 0, none⟩) 16 17] = rowO true (cs ++ [c])) := fun c => rowO_snoc true cs c 16 (by rw [← HS2.out.len, hbl]; rfl)
            go_wp2_with (first | (at_builtin; go_must (refine wpList_append_own_at _ rfl (.tmp 59) (.tmp 61) 41 rfl w.heap.size 45 i0 (.slice none 0 0) 1 24 Try.underlying41 hif hz0 hz1 hz2 rfl (by decide) _ bs.length (rowD bs) rfl (HS2.out.rd.alloc _) ⟨wr.heap.size, 0, none⟩ 1 1 [.slice (some ⟨wx.heap.size, 0, none⟩) 16 16] rfl rfl (by intro j u hu; rw [addr_add, Nat.zero_add, (Blk.new wr 45 [.slice (some ⟨wx.heap.size, 0, none⟩) 16 16]).cell]; exact hu) (oneCell_slice _ _ _) (by have := HS2.out.le; unfold maxLen; omega) (by have := HS2.out.le; omega) (by have := HB2.out.size; simp; omega) ?K)))
            case K =>
              intro v1 w1 hown hgrow hnil hat
              clear hnil
              rw [rowD_snoc] at hown
              have hs2 := HS2.out
              have ho1 := grow_own hs2.ro hs2.ap.1 hgrow
              have hap1 := fresh_ne hs2.ro hs2.ap (k := wr.heap.size + 1) (by omega) hat
              have HO1 := Lib.hid ho1
              have HD1 := Lib.hid hown
              have HAP := Lib.hid hap1
              have HA1 := Lib.hid (grow_blk hs2.rd HA2.out (by decide) hgrow)
              have HX1 := Lib.hid (grow_blk hs2.rd HO2.out (by decide) hgrow)
              have HG1 := Lib.hid (grow_blk hs2.rd HG2.out (by decide) hgrow)
              have HBD1 : Hid (∀ j b, bs[j]? = some b → w.heap.size ≤ b ∧ Blk w1 b 5 (bv (secD n j))) := fun j b hj => ⟨(hs2.bd j b hj).1, grow_blk hs2.rd (hs2.bd j b hj).2 (by decide) hgrow⟩
              have HBO1 : Hid (∀ j b, cs[j]? = some b → w.heap.size ≤ b ∧ Blk w1 b 5 (bv (secO n j))) := fun j b hj => ⟨(hs2.bo j b hj).1, grow_blk hs2.rd (hs2.bo j b hj).2 (by decide) hgrow⟩
              have HB1 : Hid (Below w.heap.size w w1) := Lib.hid (below_grown (HB2.out.alloc HB2.out.size (.cells #[.slice (some ⟨wx.heap.size, 0, none⟩) 16 16] 45)) (hs2.rd.alloc _) hgrow (Nat.le_trans HB2.out.size (by simp)) (Nat.le_refl _))
              clear hown hgrow hat hs2 ho1 hap1
              go_wp2_with (first | (at_builtin; go_must (refine wpList_append_own_at _ rfl (.tmp 63) (.tmp 65) 41 rfl w.heap.size 45 i0 (.slice none 0 0) 1 24 Try.underlying41 hif hz0 hz1 hz2 rfl (by decide) _ cs.length (rowO true cs) rfl (HO1.out.alloc _) ⟨w1.heap.size, 0, none⟩ 1 1 [.slice (some ⟨wx.heap.size + 1, 0, none⟩) 16 17] rfl rfl (by intro j u hu; rw [addr_add, Nat.zero_add, (Blk.new w1 45 [.slice (some ⟨wx.heap.size + 1, 0, none⟩) 16 17]).cell]; exact hu) (oneCell_slice _ _ _) (by have := HS2.out.le; have := HS2.out.len; unfold maxLen; omega) (by have := HS2.out.le; have := HS2.out.len; omega) (by have := HB1.out.size; simp; omega) ?K2)))
              case K2 =>
                intro v2 w2 hown hgrow hnil hat
                clear hnil
                rw [HL.out] at hown
                have ho1 := HO1.out
                have hd2 := grow_own HD1.out HAP.out.2 hgrow
                have hap2 := fresh_ne HD1.out HAP.out.symm (k := w1.heap.size + 1) (by omega) hat
                have hA2 := grow_blk ho1 HA1.out (by decide) hgrow
                have hX2 := grow_blk ho1 HX1.out (by decide) hgrow
                have HGN := Lib.hid (grow_blk ho1 HG1.out (by decide) hgrow)
                have HBN : Hid (Below w.heap.size w w2) := Lib.hid (below_grown (HB1.out.alloc HB1.out.size (.cells #[.slice (some ⟨wx.heap.size + 1, 0, none⟩) 16 17] 45)) (ho1.alloc _) hgrow (Nat.le_trans HB1.out.size (by simp)) (Nat.le_refl _))
                have hle := HS2.out.le
                have hlen := HS2.out.len
                have HSN : Hid (SecsAt 5 45 w2 w.heap.size v1 v2 n true (bs ++ [wx.heap.size]) (cs ++ [wx.heap.size + 1])) := by
                  refine ⟨by rw [List.length_append, hbl]; exact hd2, by rw [List.length_append]; exact hown, fun j b hj => ?_, fun j b hj => ?_, by simp; exact hlen, by simp; omega, hap2.symm⟩
                  · rw [List.getElem?_append] at hj
                    split at hj
                    · exact ⟨(HBD1.out j b hj).1, grow_blk ho1 (HBD1.out j b hj).2 (by decide) hgrow⟩
                    · rename_i hnl
                      have hj0 : j - bs.length = 0 := by have := (List.getElem?_eq_some_iff.1 hj).1; simp at this; omega
                      rw [hj0] at hj
                      simp only [List.getElem?_cons_zero, Option.some.injEq] at hj
                      subst hj
                      have hj1 : j = bs.length := by omega
                      rw [hj1, hbl]
                      exact ⟨hsz, hA2⟩
                  · rw [List.getElem?_append] at hj
                    split at hj
                    · exact ⟨(HBO1.out j b hj).1, grow_blk ho1 (HBO1.out j b hj).2 (by decide) hgrow⟩
                    · rename_i hnl
                      have hj0 : j - cs.length = 0 := by have := (List.getElem?_eq_some_iff.1 hj).1; simp at this; omega
                      rw [hj0] at hj
                      simp only [List.getElem?_cons_zero, Option.some.injEq] at hj
                      subst hj
                      have hj1 : j = cs.length := by omega
                      rw [hj1, ← hlen, hbl]
                      exact ⟨by omega, hX2⟩
                clear hown hgrow hat ho1 hd2 hap2 hA2 hX2 hle hlen
                go_wp2_with fail
                go_roundw
                case rel => exact ⟨bs.length + 1, bs ++ [wx.heap.size], cs ++ [wx.heap.size + 1], by rw [hbl]; have := HI.out; omega, by rw [hbl]; go_num, by rw [List.length_append]; rfl, HSN.out, HGN.out, HBN.out⟩
                case measure => simp [intOf] <;> omega
          · have HL : Hid (∀ c, rowO odd cs ++ [.slice (some ⟨c, 0, none⟩) 17 17] = rowO odd (cs ++ [c])) := fun c => rowO_snoc odd cs c 17 (by rw [← HS2.out.len, hbl, if_neg hod])
            by_cases hodd : odd = true
            · subst hodd
              have hi1 : ((i : Int) == 0) = false := beq_eq_false_iff_ne.2 fun e => hod ⟨rfl, by omega⟩
              clear hod
              go_wp2_with (first | (at_builtin; go_must (refine wpList_append_own_at _ rfl (.tmp 59) (.tmp 61) 41 rfl w.heap.size 45 i0 (.slice none 0 0) 1 24 Try.underlying41 hif hz0 hz1 hz2 rfl (by decide) _ bs.length (rowD bs) rfl (HS2.out.rd.alloc _) ⟨wr.heap.size, 0, none⟩ 1 1 [.slice (some ⟨wx.heap.size, 0, none⟩) 16 16] rfl rfl (by intro j u hu; rw [addr_add, Nat.zero_add, (Blk.new wr 45 [.slice (some ⟨wx.heap.size, 0, none⟩) 16 16]).cell]; exact hu) (oneCell_slice _ _ _) (by have := HS2.out.le; unfold maxLen; omega) (by have := HS2.out.le; omega) (by have := HB2.out.size; simp; omega) ?K)))
              case K =>
                intro v1 w1 hown hgrow hnil hat
                clear hnil
                rw [rowD_snoc] at hown
                have hs2 := HS2.out
                have ho1 := grow_own hs2.ro hs2.ap.1 hgrow
                have hap1 := fresh_ne hs2.ro hs2.ap (k := wr.heap.size + 1) (by omega) hat
                have HO1 := Lib.hid ho1
                have HD1 := Lib.hid hown
                have HAP := Lib.hid hap1
                have HA1 := Lib.hid (grow_blk hs2.rd HA2.out (by decide) hgrow)
                have HX1 := Lib.hid (grow_blk hs2.rd HO2.out (by decide) hgrow)
                have HG1 := Lib.hid (grow_blk hs2.rd HG2.out (by decide) hgrow)
                have HBD1 : Hid (∀ j b, bs[j]? = some b → w.heap.size ≤ b ∧ Blk w1 b 5 (bv (secD n j))) := fun j b hj => ⟨(hs2.bd j b hj).1, grow_blk hs2.rd (hs2.bd j b hj).2 (by decide) hgrow⟩
                have HBO1 : Hid (∀ j b, cs[j]? = some b → w.heap.size ≤ b ∧ Blk w1 b 5 (bv (secO n j))) := fun j b hj => ⟨(hs2.bo j b hj).1, grow_blk hs2.rd (hs2.bo j b hj).2 (by decide) hgrow⟩
                have HB1 : Hid (Below w.heap.size w w1) := Lib.hid (below_grown (HB2.out.alloc HB2.out.size (.cells #[.slice (some ⟨wx.heap.size, 0, none⟩) 16 16] 45)) (hs2.rd.alloc _) hgrow (Nat.le_trans HB2.out.size (by simp)) (Nat.le_refl _))
                clear hown hgrow hat hs2 ho1 hap1
                go_wp2_with (first | (at_builtin; go_must (refine wpList_append_own_at _ rfl (.tmp 63) (.tmp 65) 41 rfl w.heap.size 45 i0 (.slice none 0 0) 1 24 Try.underlying41 hif hz0 hz1 hz2 rfl (by decide) _ cs.length (rowO true cs) rfl (HO1.out.alloc _) ⟨w1.heap.size, 0, none⟩ 1 1 [.slice (some ⟨wx.heap.size + 1, 0, none⟩) 17 17] rfl rfl (by intro j u hu; rw [addr_add, Nat.zero_add, (Blk.new w1 45 [.slice (some ⟨wx.heap.size + 1, 0, none⟩) 17 17]).cell]; exact hu) (oneCell_slice _ _ _) (by have := HS2.out.le; have := HS2.out.len; unfold maxLen; omega) (by have := HS2.out.le; have := HS2.out.len; omega) (by have := HB1.out.size; simp; omega) ?K2)))
                case K2 =>
                  intro v2 w2 hown hgrow hnil hat
                  clear hnil
                  rw [HL.out] at hown
                  have ho1 := HO1.out
                  have hd2 := grow_own HD1.out HAP.out.2 hgrow
                  have hap2 := fresh_ne HD1.out HAP.out.symm (k := w1.heap.size + 1) (by omega) hat
                  have hA2 := grow_blk ho1 HA1.out (by decide) hgrow
                  have hX2 := grow_blk ho1 HX1.out (by decide) hgrow
                  have HGN := Lib.hid (grow_blk ho1 HG1.out (by decide) hgrow)
                  have HBN : Hid (Below w.heap.size w w2) := Lib.hid (below_grown (HB1.out.alloc HB1.out.size (.cells #[.slice (some ⟨wx.heap.size + 1, 0, none⟩) 17 17] 45)) (ho1.alloc _) hgrow (Nat.le_trans HB1.out.size (by simp)) (Nat.le_refl _))
                  have hle := HS2.out.le
                  have hlen := HS2.out.len
                  have HSN : Hid (SecsAt 5 45 w2 w.heap.size v1 v2 n true (bs ++ [wx.heap.size]) (cs ++ [wx.heap.size + 1])) := by
                    refine ⟨by rw [List.length_append, hbl]; exact hd2, by rw [List.length_append]; exact hown, fun j b hj => ?_, fun j b hj => ?_, by simp; exact hlen, by simp; omega, hap2.symm⟩
                    · rw [List.getElem?_append] at hj
                      split at hj
                      · exact ⟨(HBD1.out j b hj).1, grow_blk ho1 (HBD1.out j b hj).2 (by decide) hgrow⟩
                      · rename_i hnl
                        have hj0 : j - bs.length = 0 := by have := (List.getElem?_eq_some_iff.1 hj).1; simp at this; omega
                        rw [hj0] at hj
                        simp only [List.getElem?_cons_zero, Option.some.injEq] at hj
                        subst hj
                        have hj1 : j = bs.length := by omega
                        rw [hj1, hbl]
                        exact ⟨hsz, hA2⟩
                    · rw [List.getElem?_append] at hj
                      split at hj
                      · exact ⟨(HBO1.out j b hj).1, grow_blk ho1 (HBO1.out j b hj).2 (by decide) hgrow⟩
                      · rename_i hnl
                        have hj0 : j - cs.length = 0 := by have := (List.getElem?_eq_some_iff.1 hj).1; simp at this; omega
                        rw [hj0] at hj
                        simp only [List.getElem?_cons_zero, Option.some.injEq] at hj
                        subst hj
                        have hj1 : j = cs.length := by omega
                        rw [hj1, ← hlen, hbl]
                        exact ⟨by omega, hX2⟩
                  clear hown hgrow hat ho1 hd2 hap2 hA2 hX2 hle hlen
                  go_wp2_with fail
                  go_roundw
                  case rel => exact ⟨bs.length + 1, bs ++ [wx.heap.size], cs ++ [wx.heap.size + 1], by rw [hbl]; have := HI.out; omega, by rw [hbl]; go_num, by rw [List.length_append]; rfl, HSN.out, HGN.out, HBN.out⟩
                  case measure => simp [intOf] <;> omega
            · obtain rfl : odd = false := by simpa using hodd
              clear hod hodd
              go_wp2_with (first | (at_builtin; go_must (refine wpList_append_own_at _ rfl (.tmp 59) (.tmp 61) 41 rfl w.heap.size 45 i0 (.slice none 0 0) 1 24 Try.underlying41 hif hz0 hz1 hz2 rfl (by decide) _ bs.length (rowD bs) rfl (HS2.out.rd.alloc _) ⟨wr.heap.size, 0, none⟩ 1 1 [.slice (some ⟨wx.heap.size, 0, none⟩) 16 16] rfl rfl (by intro j u hu; rw [addr_add, Nat.zero_add, (Blk.new wr 45 [.slice (some ⟨wx.heap.size, 0, none⟩) 16 16]).cell]; exact hu) (oneCell_slice _ _ _) (by have := HS2.out.le; unfold maxLen; omega) (by have := HS2.out.le; omega) (by have := HB2.out.size; simp; omega) ?K)))
              case K =>
                intro v1 w1 hown hgrow hnil hat
                clear hnil
                rw [rowD_snoc] at hown
                have hs2 := HS2.out
                have ho1 := grow_own hs2.ro hs2.ap.1 hgrow
                have hap1 := fresh_ne hs2.ro hs2.ap (k := wr.heap.size + 1) (by omega) hat
                have HO1 := Lib.hid ho1
                have HD1 := Lib.hid hown
                have HAP := Lib.hid hap1
                have HA1 := Lib.hid (grow_blk hs2.rd HA2.out (by decide) hgrow)
                have HX1 := Lib.hid (grow_blk hs2.rd HO2.out (by decide) hgrow)
                have HG1 := Lib.hid (grow_blk hs2.rd HG2.out (by decide) hgrow)
                have HBD1 : Hid (∀ j b, bs[j]? = some b → w.heap.size ≤ b ∧ Blk w1 b 5 (bv (secD n j))) := fun j b hj => ⟨(hs2.bd j b hj).1, grow_blk hs2.rd (hs2.bd j b hj).2 (by decide) hgrow⟩
                have HBO1 : Hid (∀ j b, cs[j]? = some b → w.heap.size ≤ b ∧ Blk w1 b 5 (bv (secO n j))) := fun j b hj => ⟨(hs2.bo j b hj).1, grow_blk hs2.rd (hs2.bo j b hj).2 (by decide) hgrow⟩
                have HB1 : Hid (Below w.heap.size w w1) := Lib.hid (below_grown (HB2.out.alloc HB2.out.size (.cells #[.slice (some ⟨wx.heap.size, 0, none⟩) 16 16] 45)) (hs2.rd.alloc _) hgrow (Nat.le_trans HB2.out.size (by simp)) (Nat.le_refl _))
                clear hown hgrow hat hs2 ho1 hap1
                go_wp2_with (first | (at_builtin; go_must (refine wpList_append_own_at _ rfl (.tmp 63) (.tmp 65) 41 rfl w.heap.size 45 i0 (.slice none 0 0) 1 24 Try.underlying41 hif hz0 hz1 hz2 rfl (by decide) _ cs.length (rowO false cs) rfl (HO1.out.alloc _) ⟨w1.heap.size, 0, none⟩ 1 1 [.slice (some ⟨wx.heap.size + 1, 0, none⟩) 17 17] rfl rfl (by intro j u hu; rw [addr_add, Nat.zero_add, (Blk.new w1 45 [.slice (some ⟨wx.heap.size + 1, 0, none⟩) 17 17]).cell]; exact hu) (oneCell_slice _ _ _) (by have := HS2.out.le; have := HS2.out.len; unfold maxLen; omega) (by have := HS2.out.le; have := HS2.out.len; omega) (by have := HB1.out.size; simp; omega) ?K2)))
                case K2 =>
                  intro v2 w2 hown hgrow hnil hat
                  clear hnil
                  rw [HL.out] at hown
                  have ho1 := HO1.out
                  have hd2 := grow_own HD1.out HAP.out.2 hgrow
                  have hap2 := fresh_ne HD1.out HAP.out.symm (k := w1.heap.size + 1) (by omega) hat
                  have hA2 := grow_blk ho1 HA1.out (by decide) hgrow
                  have hX2 := grow_blk ho1 HX1.out (by decide) hgrow
                  have HGN := Lib.hid (grow_blk ho1 HG1.out (by decide) hgrow)
                  have HBN : Hid (Below w.heap.size w w2) := Lib.hid (below_grown (HB1.out.alloc HB1.out.size (.cells #[.slice (some ⟨wx.heap.size + 1, 0, none⟩) 17 17] 45)) (ho1.alloc _) hgrow (Nat.le_trans HB1.out.size (by simp)) (Nat.le_refl _))
                  have hle := HS2.out.le
                  have hlen := HS2.out.len
                  have HSN : Hid (SecsAt 5 45 w2 w.heap.size v1 v2 n false (bs ++ [wx.heap.size]) (cs ++ [wx.heap.size + 1])) := by
                    refine ⟨by rw [List.length_append, hbl]; exact hd2, by rw [List.length_append]; exact hown, fun j b hj => ?_, fun j b hj => ?_, by simp; exact hlen, by simp; omega, hap2.symm⟩
                    · rw [List.getElem?_append] at hj
                      split at hj
                      · exact ⟨(HBD1.out j b hj).1, grow_blk ho1 (HBD1.out j b hj).2 (by decide) hgrow⟩
                      · rename_i hnl
                        have hj0 : j - bs.length = 0 := by have := (List.getElem?_eq_some_iff.1 hj).1; simp at this; omega
                        rw [hj0] at hj
                        simp only [List.getElem?_cons_zero, Option.some.injEq] at hj
                        subst hj
                        have hj1 : j = bs.length := by omega
                        rw [hj1, hbl]
                        exact ⟨hsz, hA2⟩
                    · rw [List.getElem?_append] at hj
                      split at hj
                      · exact ⟨(HBO1.out j b hj).1, grow_blk ho1 (HBO1.out j b hj).2 (by decide) hgrow⟩
                      · rename_i hnl
                        have hj0 : j - cs.length = 0 := by have := (List.getElem?_eq_some_iff.1 hj).1; simp at this; omega
                        rw [hj0] at hj
                        simp only [List.getElem?_cons_zero, Option.some.injEq] at hj
                        subst hj
                        have hj1 : j = cs.length := by omega
                        rw [hj1, ← hlen, hbl]
                        exact ⟨by omega, hX2⟩
                  clear hown hgrow hat ho1 hd2 hap2 hA2 hX2 hle hlen
                  go_wp2_with fail
                  go_roundw
                  case rel => exact ⟨bs.length + 1, bs ++ [wx.heap.size], cs ++ [wx.heap.size + 1], by rw [hbl]; have := HI.out; omega, by rw [hbl]; go_num, by rw [List.length_append]; rfl, HSN.out, HGN.out, HBN.out⟩
                  case measure => simp [intOf] <;> omega
    · have hex : ¬ (i : Int) < s ∨ ((i : Int) < s ∧ ¬ i < 4) := by omega
      have HFIN : Hid (bs.length = (min s 4).toNat) := show bs.length = (min s 4).toNat by omega
      rcases hex with h1 | ⟨h1, h2⟩
      all_goals
        go_wp2_with fail
        go_ret2
        exact ⟨_, _, bs, cs, rfl, HSr.out, HFIN.out, HBr.out⟩

end Go.Proofs.Ytlkapaecaeldpaa
