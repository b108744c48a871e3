/-
  Package nand: a device's blocks, and what may be changed of them.
-/
import Derived.Test.YtlkapaecaeldpaaMap
import Derived.Test.YtlkapaecaeldpaaL2pA
set_option linter.unusedVariables false
set_option linter.unusedSimpArgs false
set_option maxRecDepth 16384
namespace Go.Proofs.Ytlkapaecaeldpaa
open Go.RowKit

/-- a slice value reads as a list, out of a block of which Q holds -/
def SlQ (w : World) (Q : Nat → Prop) (v : Value) (xs : List Value) : Prop :=
  ∃ (a : Option Addr) (cap : Nat), v = .slice a xs.length cap ∧ xs.length ≤ cap ∧ xs.length ≤ 140737488351232 ∧ (a = none → cap = 0) ∧
    (xs = [] ∨ ∃ b off, a = some ⟨b, off, none⟩ ∧ Q b ∧ b < w.heap.size ∧ ∀ j x, xs[j]? = some x → w.cell? ⟨b, off + j, none⟩ = some x)

theorem SlQ.sl {w : World} {Q : Nat → Prop} {v : Value} {xs : List Value} (h : SlQ w Q v xs) : Sl w 0 v xs := by
  obtain ⟨a, cap, h1, h2, h3, h4, h5⟩ := h
  refine ⟨a, cap, h1, h2, h3, h4, ?_⟩
  rcases h5 with h5 | ⟨b, off, h6, _, h7⟩
  · exact .inl h5
  · exact .inr ⟨b, off, h6, Nat.zero_le _, h7⟩
theorem SlQ.of_sl {w : World} {B : Nat} {v : Value} {xs : List Value} (h : Sl w B v xs) : SlQ w (fun k => B ≤ k ∧ k < w.heap.size) v xs := by
  obtain ⟨a, cap, h1, h2, h3, h4, h5⟩ := h
  refine ⟨a, cap, h1, h2, h3, h4, ?_⟩
  rcases h5 with h5 | ⟨b, off, h6, h7, h8, h9⟩
  · exact .inl h5
  · exact .inr ⟨b, off, h6, ⟨h7, h8⟩, h8, h9⟩
theorem SlQ.mono {w : World} {Q Q' : Nat → Prop} {v : Value} {xs : List Value} (h : SlQ w Q v xs) (hQ : ∀ k, k < w.heap.size → Q k → Q' k) : SlQ w Q' v xs := by
  obtain ⟨a, cap, h1, h2, h3, h4, h5⟩ := h
  refine ⟨a, cap, h1, h2, h3, h4, ?_⟩
  rcases h5 with h5 | ⟨b, off, h6, h7, h8, h9⟩
  · exact .inl h5
  · exact .inr ⟨b, off, h6, hQ b h8 h7, h8, h9⟩
theorem SlQ.keep {w w' : World} {Q : Nat → Prop} {v : Value} {xs : List Value} (h : SlQ w Q v xs) (hs : w.heap.size ≤ w'.heap.size) (hk : ∀ k, k < w.heap.size → Q k → w'.heap[k]? = w.heap[k]?) : SlQ w' Q v xs := by
  obtain ⟨a, cap, h1, h2, h3, h4, h5⟩ := h
  refine ⟨a, cap, h1, h2, h3, h4, ?_⟩
  rcases h5 with h5 | ⟨b, off, h6, h7, h8, h9⟩
  · exact .inl h5
  · exact .inr ⟨b, off, h6, h7, by omega, fun j x hx => (World.cell?_of_block (a := ⟨b, off + j, none⟩) (hk b h8 h7)).trans (h9 j x hx)⟩
theorem SlQ.nil (w : World) (Q : Nat → Prop) : SlQ w Q (.slice none 0 0) [] := ⟨none, 0, rfl, by simp, by simp, fun _ => rfl, .inl rfl⟩

/-- only blocks of which F holds have changed -/
structure OnlyF (F : Nat → Prop) (w w' : World) : Prop where
  os : w'.os = w.os
  tape : w'.tape = w.tape
  output : w'.output = w.output
  size : w.heap.size ≤ w'.heap.size
  block : ∀ k, k < w.heap.size → ¬ F k → w'.heap[k]? = w.heap[k]?

/-- what is in F' and not in F is no elder than n -/
def Fresh (F F' : Nat → Prop) (n : Nat) : Prop := ∀ k, F' k → F k ∨ n ≤ k

theorem Fresh.refl (F : Nat → Prop) (n : Nat) : Fresh F F n := fun _ h => .inl h
theorem Fresh.trans {F G H : Nat → Prop} {n m : Nat} (h : Fresh F G n) (k : Fresh G H m) (hn : n ≤ m) : Fresh F H n := fun x hx => by
  rcases k x hx with h1 | h1
  · exact h x h1
  · exact .inr (by omega)
theorem OnlyF.refl (F : Nat → Prop) (w : World) : OnlyF F w w := ⟨rfl, rfl, rfl, Nat.le_refl _, fun _ _ _ => rfl⟩
theorem OnlyF.trans {F G : Nat → Prop} {a b c : World} (h : OnlyF F a b) (hf : Fresh F G a.heap.size) (k : OnlyF G b c) : OnlyF F a c :=
  ⟨k.os.trans h.os, k.tape.trans h.tape, k.output.trans h.output, Nat.le_trans h.size k.size, fun i hi hn => (k.block i (Nat.lt_of_lt_of_le hi h.size) (fun hG => by
    rcases hf i hG with h1 | h1
    · exact hn h1
    · omega)).trans (h.block i hi hn)⟩
theorem OnlyF.mono {F G : Nat → Prop} {a b : World} (h : OnlyF F a b) (hg : ∀ k, F k → G k) : OnlyF G a b := ⟨h.os, h.tape, h.output, h.size, fun k hk hn => h.block k hk fun hf => hn (hg k hf)⟩
theorem OnlyF.below {F : Nat → Prop} {w w' : World} (hb : Below w.heap.size w w') : OnlyF F w w' := ⟨hb.os, hb.tape, hb.output, hb.size, fun k hk _ => hb.block k hk⟩
theorem OnlyF.step {F : Nat → Prop} {a w w' : World} (h : OnlyF F a w) (hb : Below w.heap.size w w') : OnlyF F a w' := h.trans (Fresh.refl F _) (.below hb)
theorem OnlyF.setCell {F : Nat → Prop} {a w : World} (h : OnlyF F a w) {p : Addr} (hp : F p.block) (u : Value) : OnlyF F a (w.setCell p u) :=
  h.trans (Fresh.refl F _) ⟨rfl, rfl, rfl, by simp, fun k hk hn => Below.heap_setCell _ _ _ _ (fun e => hn (e ▸ hp))⟩
theorem OnlyF.grown {F : Nat → Prop} {a w w' : World} (h : OnlyF F a w) {b : Nat} (hb : F b) (hg : w.grownBy w' (some b)) : OnlyF F a w' :=
  h.trans (Fresh.refl F _) ⟨hg.os, hg.tape, hg.output, hg.size, fun k hk hn => hg.block k hk (fun e => by injection e with e; exact hn (e ▸ hb))⟩
theorem OnlyF.drew {F : Nat → Prop} {a w : World} (h : OnlyF F a w) : OnlyF F a w.drew := ⟨h.os, h.tape, h.output, h.size, h.block⟩
theorem OnlyF.since {F : Nat → Prop} {a w w' : World} (h : OnlyF F a w) (hz : Since w.drew w') : OnlyF F a w' := h.drew.step hz.below
/-- below all of F nothing has changed -/
theorem OnlyF.toBelow {F : Nat → Prop} {w w' : World} {B : Nat} (h : OnlyF F w w') (hB : ∀ k, F k → B ≤ k) (hs : B ≤ w.heap.size) : Below B w w' :=
  ⟨h.os, h.tape, h.output, h.size, fun k hk => h.block k (by omega) fun hf => by have := hB k hf; omega⟩
/-- what is apart stays -/
theorem OnlyF.keeps {F G : Nat → Prop} {w w' : World} (h : OnlyF F w w') (hd : ∀ k, G k → ¬ F k) : ∀ k, k < w.heap.size → G k → w'.heap[k]? = w.heap[k]? := fun k hk hg => h.block k hk (hd k hg)

/-- a device, as it can be seen -/
structure NSt where
  off : Bool
  plan : List Int
  many : Int
  next : Nat → Int
  wear : Nat → Int
  ret : Nat → Bool
  wrong : Int
  sec : Nat → Option (List Int × List Int)

def Geo.nb (g : Geo) : Nat := (g.chans * g.luns * g.blocks).toNat

/-- a sector's bytes, out of a map's value -/
def SecAt (w : World) (Q : Nat → Prop) (o : Option Value) (s : Option (List Int × List Int)) : Prop :=
  match s with
  | none => o = none
  | some p => ∃ vx vy, o = some (.agg #[vx, vy]) ∧ SlQ w Q vx (bv p.1) ∧ SlQ w Q vy (bv p.2)

theorem SecAt.mono {w : World} {Q Q' : Nat → Prop} {o : Option Value} {s : Option (List Int × List Int)} (h : SecAt w Q o s) (hQ : ∀ k, k < w.heap.size → Q k → Q' k) : SecAt w Q' o s := by
  cases s with
  | none => exact h
  | some p =>
    obtain ⟨vx, vy, h1, h2, h3⟩ := h
    exact ⟨vx, vy, h1, h2.mono hQ, h3.mono hQ⟩
theorem SecAt.keep {w w' : World} {Q : Nat → Prop} {o : Option Value} {s : Option (List Int × List Int)} (h : SecAt w Q o s) (hs : w.heap.size ≤ w'.heap.size) (hk : ∀ k, k < w.heap.size → Q k → w'.heap[k]? = w.heap[k]?) : SecAt w' Q o s := by
  cases s with
  | none => exact h
  | some p =>
    obtain ⟨vx, vy, h1, h2, h3⟩ := h
    exact ⟨vx, vy, h1, h2.keep hs hk, h3.keep hs hk⟩

/-- the rows of a device: blocks of its own that are written no more -/
def Rows (F : Nat → Prop) (d pb bb mb : Nat) (k : Nat) : Prop := F k ∧ k ≠ d ∧ k ≠ pb ∧ k ≠ bb ∧ k ≠ mb

/-- what stands in a device's blocks -/
def nandL (g : Geo) (S : NSt) (pb bb mb : Nat) : List Value := [.bool S.off, .int .i64 g.chans, .int .i64 g.luns, .int .i64 g.blocks, .int .i64 g.pages, .int .i64 g.sectors, .pointer (some ⟨pb, 0, none⟩), .slice (some ⟨bb, 0, none⟩) g.nb g.nb, .map (some mb), .int .i64 S.wrong]

structure NandRaw (w : World) (F : Nat → Prop) (d : Nat) (g : Geo) (S : NSt) (pb bb mb : Nat) (lv : Value) (f : Nat → Option Value) : Prop where
  blk : Blk w d 62 (nandL g S pb bb mb)
  pl : Blk w pb 163 [lv, .int .i64 S.many]
  left : SlQ w (Rows F d pb bb mb) lv (bv S.plan)
  leftB : ∀ x ∈ S.plan, IsB x
  bls : ∀ i, i < g.nb → At w bb (i * 3) (.int .i64 (S.next i)) ∧ At w bb (i * 3 + 1) (.int .i64 (S.wear i)) ∧ At w bb (i * 3 + 2) (.bool (S.ret i))
  map : MapIs Try.prog w 3 mb g.all.toNat f
  secs : ∀ a, SecAt w (Rows F d pb bb mb) (f a) (S.sec a)
  mem : F d ∧ F pb ∧ F bb ∧ F mb
  apart : d ≠ pb ∧ d ≠ bb ∧ d ≠ mb ∧ pb ≠ bb ∧ pb ≠ mb ∧ bb ≠ mb
  inF : ∀ k, F k → k < w.heap.size
  ok : g.okB = true

def NandAt (w : World) (F : Nat → Prop) (d : Nat) (g : Geo) (S : NSt) : Prop := ∃ pb bb mb lv f, NandRaw w F d g S pb bb mb lv f

/-- the post of a call that may change a device -/
def NandPost (w : World) (F : Nat → Prop) (d : Nat) (g : Geo) (res : Value) (S : NSt) (e : Ending) (w' : World) : Prop :=
  e = .returned res ∧ ∃ F', NandAt w' F' d g S ∧ OnlyF F w w' ∧ Fresh F F' w.heap.size

section
variable {w w' : World} {F F' : Nat → Prop} {d : Nat} {g : Geo} {S : NSt} {pb bb mb : Nat} {lv : Value} {f : Nat → Option Value}

theorem NandRaw.keep (h : NandRaw w F d g S pb bb mb lv f) (hs : w.heap.size ≤ w'.heap.size) (hk : ∀ k, k < w.heap.size → F k → w'.heap[k]? = w.heap[k]?) : NandRaw w' F d g S pb bb mb lv f := by
  obtain ⟨m1, m2, m3, m4⟩ := h.mem
  have e := fun k hf => hk k (h.inF k hf) hf
  exact ⟨(e d m1).trans h.blk, (e pb m2).trans h.pl, h.left.keep hs fun k hl hr => hk k hl hr.1, h.leftB,
    fun i hi => by
      obtain ⟨h1, h2, h3⟩ := h.bls i hi
      have hb := e bb m3
      exact ⟨⟨(World.cell?_of_block (a := ⟨bb, _, none⟩) hb).trans h1.1, (World.frozen?_of_block (a := ⟨bb, _, none⟩) hb).trans h1.2⟩, ⟨(World.cell?_of_block (a := ⟨bb, _, none⟩) hb).trans h2.1, (World.frozen?_of_block (a := ⟨bb, _, none⟩) hb).trans h2.2⟩, ⟨(World.cell?_of_block (a := ⟨bb, _, none⟩) hb).trans h3.1, (World.frozen?_of_block (a := ⟨bb, _, none⟩) hb).trans h3.2⟩⟩,
    h.map.block (e mb m4), fun a => (h.secs a).keep hs fun k hl hr => hk k hl hr.1, h.mem, h.apart, fun k hf => Nat.lt_of_lt_of_le (h.inF k hf) hs, h.ok⟩
theorem NandRaw.below (h : NandRaw w F d g S pb bb mb lv f) (hb : Below w.heap.size w w') : NandRaw w' F d g S pb bb mb lv f := h.keep hb.size fun k hk _ => hb.block k hk
theorem NandAt.keep (h : NandAt w F d g S) (hs : w.heap.size ≤ w'.heap.size) (hk : ∀ k, k < w.heap.size → F k → w'.heap[k]? = w.heap[k]?) : NandAt w' F d g S := by
  obtain ⟨pb, bb, mb, lv, f, h⟩ := h
  exact ⟨pb, bb, mb, lv, f, h.keep hs hk⟩
theorem NandAt.below (h : NandAt w F d g S) (hb : Below w.heap.size w w') : NandAt w' F d g S := h.keep hb.size fun k hk _ => hb.block k hk
theorem NandRaw.sinceD (h : NandRaw w F d g S pb bb mb lv f) (hz : Since w.drew w') : NandRaw w' F d g S pb bb mb lv f := h.below ((Below.refl w.heap.size w).drew.trans hz.below)
theorem NandAt.sinceD (h : NandAt w F d g S) (hz : Since w.drew w') : NandAt w' F d g S := h.below ((Below.refl w.heap.size w).drew.trans hz.below)
theorem NandAt.inF (h : NandAt w F d g S) : ∀ k, F k → k < w.heap.size := by
  obtain ⟨pb, bb, mb, lv, f, h⟩ := h
  exact h.inF
theorem NandAt.ok (h : NandAt w F d g S) : g.okB = true := by
  obtain ⟨pb, bb, mb, lv, f, h⟩ := h
  exact h.ok

theorem at_keep {b o : Nat} {v : Value} (h : At w b o v) (hb : w'.heap[b]? = w.heap[b]?) : At w' b o v :=
  ⟨(World.cell?_of_block (a := ⟨b, o, none⟩) hb).trans h.1, (World.frozen?_of_block (a := ⟨b, o, none⟩) hb).trans h.2⟩

/-- the device's own block is written -/
theorem NandRaw.blockD (h : NandRaw w F d g S pb bb mb lv f) (hs : w.heap.size ≤ w'.heap.size) (hk : ∀ k, k < w.heap.size → k ≠ d → w'.heap[k]? = w.heap[k]?) (o : Bool) (x : Int)
    (hd : Blk w' d 62 (nandL g { S with off := o, wrong := x } pb bb mb)) : NandRaw w' F d g { S with off := o, wrong := x } pb bb mb lv f := by
  obtain ⟨m1, m2, m3, m4⟩ := h.mem
  obtain ⟨a1, a2, a3, a4, a5, a6⟩ := h.apart
  exact ⟨hd, (hk pb (h.inF _ m2) a1.symm).trans h.pl, h.left.keep hs fun k hl hr => hk k hl hr.2.1, h.leftB,
    fun i hi => by
      obtain ⟨h1, h2, h3⟩ := h.bls i hi
      have hb := hk bb (h.inF _ m3) a2.symm
      exact ⟨at_keep h1 hb, at_keep h2 hb, at_keep h3 hb⟩,
    h.map.block (hk mb (h.inF _ m4) a3.symm), fun a => (h.secs a).keep hs fun k hl hr => hk k hl hr.2.1, h.mem, h.apart, fun k hf => Nat.lt_of_lt_of_le (h.inF k hf) hs, h.ok⟩

/-- the plan's block is written -/
theorem NandRaw.blockP (h : NandRaw w F d g S pb bb mb lv f) (hs : w.heap.size ≤ w'.heap.size) (hk : ∀ k, k < w.heap.size → k ≠ pb → w'.heap[k]? = w.heap[k]?) {lv' : Value} {m : Int} {p : List Int}
    (hp : Blk w' pb 163 [lv', .int .i64 m]) (hl : SlQ w' (Rows F d pb bb mb) lv' (bv p)) (hb : ∀ x ∈ p, IsB x) : NandRaw w' F d g { S with plan := p, many := m } pb bb mb lv' f := by
  obtain ⟨m1, m2, m3, m4⟩ := h.mem
  obtain ⟨a1, a2, a3, a4, a5, a6⟩ := h.apart
  exact ⟨(hk d (h.inF _ m1) a1).trans h.blk, hp, hl, hb,
    fun i hi => by
      obtain ⟨h1, h2, h3⟩ := h.bls i hi
      have hb := hk bb (h.inF _ m3) a4.symm
      exact ⟨at_keep h1 hb, at_keep h2 hb, at_keep h3 hb⟩,
    h.map.block (hk mb (h.inF _ m4) a5.symm), fun a => (h.secs a).keep hs fun k hl hr => hk k hl hr.2.2.1, h.mem, h.apart, fun k hf => Nat.lt_of_lt_of_le (h.inF k hf) hs, h.ok⟩

/-- the blocks' row is written -/
theorem NandRaw.blockB (h : NandRaw w F d g S pb bb mb lv f) (hs : w.heap.size ≤ w'.heap.size) (hk : ∀ k, k < w.heap.size → k ≠ bb → w'.heap[k]? = w.heap[k]?) {nx wr : Nat → Int} {rt : Nat → Bool}
    (hb : ∀ i, i < g.nb → At w' bb (i * 3) (.int .i64 (nx i)) ∧ At w' bb (i * 3 + 1) (.int .i64 (wr i)) ∧ At w' bb (i * 3 + 2) (.bool (rt i))) : NandRaw w' F d g { S with next := nx, wear := wr, ret := rt } pb bb mb lv f := by
  obtain ⟨m1, m2, m3, m4⟩ := h.mem
  obtain ⟨a1, a2, a3, a4, a5, a6⟩ := h.apart
  exact ⟨(hk d (h.inF _ m1) a2).trans h.blk, (hk pb (h.inF _ m2) a4).trans h.pl, h.left.keep hs fun k hl hr => hk k hl hr.2.2.2.1, h.leftB, hb,
    h.map.block (hk mb (h.inF _ m4) a6.symm), fun a => (h.secs a).keep hs fun k hl hr => hk k hl hr.2.2.2.1, h.mem, h.apart, fun k hf => Nat.lt_of_lt_of_le (h.inF k hf) hs, h.ok⟩

/-- the map is written, and new rows are there -/
theorem NandRaw.blockM (h : NandRaw w F d g S pb bb mb lv f) (hs : w.heap.size ≤ w'.heap.size) (hk : ∀ k, k < w.heap.size → k ≠ mb → w'.heap[k]? = w.heap[k]?) (hF : ∀ k, F k → F' k) (hin : ∀ k, F' k → k < w'.heap.size)
    {f' : Nat → Option Value} {sc : Nat → Option (List Int × List Int)} (hm : MapIs Try.prog w' 3 mb g.all.toNat f') (hsc : ∀ a, SecAt w' (Rows F' d pb bb mb) (f' a) (sc a)) : NandRaw w' F' d g { S with sec := sc } pb bb mb lv f' := by
  obtain ⟨m1, m2, m3, m4⟩ := h.mem
  obtain ⟨a1, a2, a3, a4, a5, a6⟩ := h.apart
  exact ⟨(hk d (h.inF _ m1) a3).trans h.blk, (hk pb (h.inF _ m2) a5).trans h.pl, (h.left.keep hs fun k hl hr => hk k hl hr.2.2.2.2).mono fun k _ hr => ⟨hF k hr.1, hr.2⟩, h.leftB,
    fun i hi => by
      obtain ⟨h1, h2, h3⟩ := h.bls i hi
      have hb := hk bb (h.inF _ m3) a6
      exact ⟨at_keep h1 hb, at_keep h2 hb, at_keep h3 hb⟩,
    hm, hsc, ⟨hF _ m1, hF _ m2, hF _ m3, hF _ m4⟩, h.apart, hin, h.ok⟩

/-- another plan -/
theorem NandRaw.newPlan (h : NandRaw w F d g S pb bb mb lv f) (hs : w.heap.size ≤ w'.heap.size) (hk : ∀ k, k < w.heap.size → k ≠ d → w'.heap[k]? = w.heap[k]?) (hF : ∀ k, F k → F' k) (hin : ∀ k, F' k → k < w'.heap.size)
    {p' : Nat} {lv' : Value} {m : Int} {p : List Int} (hp' : F' p' ∧ w.heap.size ≤ p') (hd : Blk w' d 62 (nandL g S p' bb mb)) (hp : Blk w' p' 163 [lv', .int .i64 m])
    (hl : SlQ w' (Rows F' d p' bb mb) lv' (bv p)) (hb : ∀ x ∈ p, IsB x) : NandRaw w' F' d g { S with plan := p, many := m } p' bb mb lv' f := by
  obtain ⟨m1, m2, m3, m4⟩ := h.mem
  obtain ⟨a1, a2, a3, a4, a5, a6⟩ := h.apart
  have i1 := h.inF _ m1
  have i3 := h.inF _ m3
  have i4 := h.inF _ m4
  have hR : ∀ k, k < w'.heap.size → Rows F d pb bb mb k → Rows F' d p' bb mb k := fun k _ hr => ⟨hF k hr.1, hr.2.1, by have := h.inF k hr.1; omega, hr.2.2.2.1, hr.2.2.2.2⟩
  exact ⟨hd, hp, hl, hb,
    fun i hi => by
      obtain ⟨h1, h2, h3⟩ := h.bls i hi
      have hb := hk bb i3 a2.symm
      exact ⟨at_keep h1 hb, at_keep h2 hb, at_keep h3 hb⟩,
    h.map.block (hk mb i4 a3.symm), fun a => ((h.secs a).keep hs fun k hl hr => hk k hl hr.2.1).mono hR, ⟨hF _ m1, hp'.1, hF _ m3, hF _ m4⟩, ⟨by omega, a2, a3, by omega, by omega, a6⟩, hin, h.ok⟩
end

end Go.Proofs.Ytlkapaecaeldpaa
