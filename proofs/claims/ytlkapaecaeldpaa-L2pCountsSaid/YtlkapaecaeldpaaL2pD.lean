/-
  Package l2p: what a map is in memory; New.
-/
import Derived.Test.YtlkapaecaeldpaaL2pC
import Derived.Test.YtlkapaecaeldpaaBits3
set_option linter.unusedVariables false
set_option linter.unusedSimpArgs false
set_option maxRecDepth 16384
namespace Go.Proofs.Ytlkapaecaeldpaa
open Go.RowKit

/-- where a sector is -/
structure Ent where
  a : Int
  s : Int
  k : Int
deriving DecidableEq
def Ent.v (e : Ent) : Value := .agg #[.int .i64 e.a, .int .i64 e.s, .int .i64 e.k]
def Ent.cell (e : Ent) (j : Nat) : Value := [Value.int .i64 e.a, Value.int .i64 e.s, Value.int .i64 e.k].getD j undef
def Ent.none : Ent := ⟨-1, 0, 0⟩

/-- the sector and 1 that is at an address; 0: none -/
def whoIx (to : List Ent) (a : Int) : Nat := match to.findIdx? fun e => decide (e.a = a) with | some i => i + 1 | none => 0
/-- how many sectors are in a line of so many -/
def validN (line : Int) (to : List Ent) (l : Nat) : Nat := to.countP fun e => decide (0 ≤ e.a ∧ e.a / line = l)

/-- the entries that may be: each nowhere, or at an address of its own -/
structure Fine (g : Geo) (to : List Ent) : Prop where
  in_ : ∀ e ∈ to, e.a = -1 ∨ 0 ≤ e.a ∧ e.a < g.all
  one : ∀ i j : Nat, ∀ e f : Ent, to[i]? = some e → to[j]? = some f → 0 ≤ e.a → e.a = f.a → i = j

/-- the map's block, its shards and its counts, all in blocks from B to C -/
structure MapRaw (w : World) (B C m : Nat) (g : Geo) (N A : Nat) (kt kw vb : Nat) (st sw : Shards) (fT : Nat → Nat → Value) (fW fV : Nat → Value) : Prop where
  blk : Blk w m 120 [.int .i64 g.chans, .int .i64 g.luns, .int .i64 g.blocks, .int .i64 g.pages, .int .i64 g.sectors, .int .i64 N, .pointer (some ⟨kt, 0, none⟩), .pointer (some ⟨kw, 0, none⟩), .slice (some ⟨vb, 0, none⟩) g.blocks.toNat g.blocks.toNat]
  tos : KeptAt w kt 171 3 st N fT
  whos : KeptAt w kw 176 1 sw A (fun a _ => fW a)
  vals : ∀ l, l < g.blocks.toNat → At w vb l (fV l)
  inM : B ≤ m ∧ m < C
  inT : B ≤ kt ∧ kt < C
  inW : B ≤ kw ∧ kw < C
  inV : B ≤ vb ∧ vb < C
  inSt : ∀ i, i < N → B ≤ st.b (i % 4) ∧ st.b (i % 4) < C
  inSw : ∀ i, i < A → B ≤ sw.b (i % 4) ∧ sw.b (i % 4) < C
  top : C ≤ w.heap.size
  stO : ∀ i, i < N → st.b (i % 4) ≠ m ∧ st.b (i % 4) ≠ kw ∧ st.b (i % 4) ≠ vb
  swO : ∀ i, i < A → sw.b (i % 4) ≠ m ∧ sw.b (i % 4) ≠ kt ∧ sw.b (i % 4) ≠ vb
  stw : ∀ i a, i < N → a < A → st.b (i % 4) ≠ sw.b (a % 4)
  vbO : vb ≠ m ∧ vb ≠ kt ∧ vb ≠ kw

/-- a map whose entries are these -/
structure MapAt (w : World) (B C m : Nat) (g : Geo) (to : List Ent) (kt kw vb : Nat) (st sw : Shards) : Prop where
  raw : MapRaw w B C m g to.length g.all.toNat kt kw vb st sw (fun i j => (to.getD i Ent.none).cell j) (fun a => .int .i64 (whoIx to a : Nat)) (fun l => .int .i64 (validN g.line to l : Nat))
  len : to.length ≤ 4096
  ok : g.okB = true
  fine : Fine g to

/-- the parts of a new map -/
structure Parts (w : World) (sz0 top n A bl kt kw vb : Nat) (st sw : Shards) : Prop where
  tos : KeptAt w kt 171 3 st n (fun _ j => Ent.none.cell j)
  whos : KeptAt w kw 176 1 sw A (fun _ _ => .int .i64 0)
  vals : Blk w vb 3 (List.replicate bl (.int .i64 0))
  inT : sz0 ≤ kt ∧ kt < top
  inW : sz0 ≤ kw ∧ kw < top
  inV : sz0 ≤ vb ∧ vb < top
  inSt : ∀ i, i < n → sz0 ≤ st.b (i % 4) ∧ st.b (i % 4) < top
  inSw : ∀ i, i < A → sz0 ≤ sw.b (i % 4) ∧ sw.b (i % 4) < top
  top : top ≤ w.heap.size
  stO : ∀ i, i < n → st.b (i % 4) ≠ kw ∧ st.b (i % 4) ≠ vb
  swO : ∀ i, i < A → sw.b (i % 4) ≠ kt ∧ sw.b (i % 4) ≠ vb
  stw : ∀ i a, i < n → a < A → st.b (i % 4) ≠ sw.b (a % 4)
  vbO : vb ≠ kt ∧ vb ≠ kw

theorem Parts.since {w w' : World} {sz0 top n A bl kt kw vb : Nat} {st sw : Shards} (h : Parts w sz0 top n A bl kt kw vb st sw) (hs : Since w w') : Parts w' sz0 top n A bl kt kw vb st sw :=
  ⟨h.tos.below hs, h.whos.below hs, h.vals.below hs, h.inT, h.inW, h.inV, h.inSt, h.inSw, Nat.le_trans h.top hs.below.size, h.stO, h.swO, h.stw, h.vbO⟩

/-- what of the map's making is tied to the world -/
def NewJ (sz0 n A bl : Nat) (g : Geo) (i : Nat) (v : Value) (lo hi : Nat) (w : World) : Prop :=
  match i with
  | 4 => ∃ kt st, v = .pointer (some ⟨kt, 0, none⟩) ∧ KeptAt w kt 171 3 st n (fun _ j => Ent.none.cell j) ∧ (lo ≤ kt ∧ kt < hi) ∧ (∀ i, i < n → lo ≤ st.b (i % 4) ∧ st.b (i % 4) < hi) ∧ sz0 ≤ lo
  | 7 => ∃ kw sw, v = .pointer (some ⟨kw, 0, none⟩) ∧ KeptAt w kw 176 1 sw A (fun _ _ => .int .i64 0) ∧ (lo ≤ kw ∧ kw < hi) ∧ (∀ i, i < A → lo ≤ sw.b (i % 4) ∧ sw.b (i % 4) < hi) ∧ sz0 ≤ lo
  | 10 => ∃ vb, v = .slice (some ⟨vb, 0, none⟩) bl bl ∧ Blk w vb 3 (List.replicate bl (.int .i64 0)) ∧ (lo ≤ vb ∧ vb < hi) ∧ sz0 ≤ lo
  | 11 => ∃ top kt kw vb st sw, v = .agg #[.int .i64 g.chans, .int .i64 g.luns, .int .i64 g.blocks, .int .i64 g.pages, .int .i64 g.sectors, .int .i64 n, .pointer (some ⟨kt, 0, none⟩), .pointer (some ⟨kw, 0, none⟩), .slice (some ⟨vb, 0, none⟩) bl bl] ∧ Parts w sz0 top n A bl kt kw vb st sw
  | 12 => ∃ m top kt kw vb st sw, v = .pointer (some ⟨m, 0, none⟩) ∧ Blk w m 120 [.int .i64 g.chans, .int .i64 g.luns, .int .i64 g.blocks, .int .i64 g.pages, .int .i64 g.sectors, .int .i64 n, .pointer (some ⟨kt, 0, none⟩), .pointer (some ⟨kw, 0, none⟩), .slice (some ⟨vb, 0, none⟩) bl bl] ∧ Parts w sz0 top n A bl kt kw vb st sw ∧ top ≤ m ∧ sz0 ≤ m
  | _ => True

theorem NewJ.keep {sz0 n A bl : Nat} {g : Geo} (i : Nat) (v : Value) (lo hi : Nat) (w w' : World) (h : NewJ sz0 n A bl g i v lo hi w) (hs : Since w w') : NewJ sz0 n A bl g i v lo hi w' := by
  unfold NewJ at *
  split at h
  · obtain ⟨kt, st, h1, h2, h3⟩ := h; exact ⟨kt, st, h1, h2.below hs, h3⟩
  · obtain ⟨kt, st, h1, h2, h3⟩ := h; exact ⟨kt, st, h1, h2.below hs, h3⟩
  · obtain ⟨vb, h1, h2, h3⟩ := h; exact ⟨vb, h1, h2.below hs, h3⟩
  · obtain ⟨top, kt, kw, vb, st, sw, h1, h2⟩ := h; exact ⟨top, kt, kw, vb, st, sw, h1, h2.since hs⟩
  · obtain ⟨m, top, kt, kw, vb, st, sw, h1, h2, h3, h4⟩ := h; exact ⟨m, top, kt, kw, vb, st, sw, h1, h2.below hs, h3.since hs, h4⟩
  · trivial

theorem whoIx_new (n : Nat) (a : Nat) : whoIx (List.replicate n Ent.none) a = 0 := by
  unfold whoIx
  have : (List.replicate n Ent.none).findIdx? (fun e => decide (e.a = (a : Int))) = none := by
    rw [List.findIdx?_eq_none_iff]
    intro x hx
    rw [List.mem_replicate] at hx
    rw [hx.2]
    simp [Ent.none]
  rw [this]
theorem validN_new (line : Int) (n l : Nat) : validN line (List.replicate n Ent.none) l = 0 := by
  unfold validN
  rw [List.countP_eq_zero]
  intro x hx
  rw [List.mem_replicate] at hx
  rw [hx.2]
  simp [Ent.none]
theorem fine_new (g : Geo) (n : Nat) : Fine g (List.replicate n Ent.none) := by
  refine ⟨fun e he => ?_, fun i j e f he hf h0 => ?_⟩
  · rw [List.mem_replicate] at he; rw [he.2]; exact .inl rfl
  · rw [List.getElem?_replicate] at he
    split at he
    · cases he; simp [Ent.none] at h0
    · cases he

def newOk (g : Geo) (n : Int) : Bool := decide (g.okB = true ∧ 1 ≤ n ∧ n ≤ 4096 ∧ n ≤ g.all)

/-- how New ends -/
def NewPost (g : Geo) (n : Int) (w : World) (e : Ending) (w' : World) : Prop :=
  Below w.heap.size w w' ∧
    (if newOk g n = true then ∃ m kt kw vb st sw, e = .returned (.tuple #[.pointer (some ⟨m, 0, none⟩), .int .i64 0]) ∧ MapAt w' w.heap.size w'.heap.size m g (List.replicate n.toNat Ent.none) kt kw vb st sw
      else e = .returned (.tuple #[.pointer none, .int .i64 1]))

set_option maxHeartbeats 2000000 in
theorem l2pNew_any (g : Geo) (n : Int) (w : World) (hg : g.Wf) (hn : IsInt n) :
    Calls Try.prog 33 #[g.v, .int .i64 n] w fun e w' => NewPost g n w e w' := by
  have HW := Lib.hid hg
  have HNB : Hid (newOk g n = decide (g.okB = true ∧ 1 ≤ n ∧ n ≤ 4096 ∧ n ≤ g.all)) := Lib.hid rfl
  obtain ⟨n1, n2⟩ := hn
  by_cases hok : g.okB = true
  · have HK := Lib.hid hok
    obtain ⟨A, hA⟩ : ∃ A : Nat, g.all = A := ⟨g.all.toNat, by
      have hg := Geo.ok_of hok
      obtain ⟨m1, m2, m3, m4, m5, m6, m7, m8, m9, m10⟩ := geo_mul hg.c.1 hg.c.2 hg.l.1 hg.l.2 hg.b.1 hg.b.2 hg.p.1 hg.p.2 hg.s.1 hg.s.2
      have : 0 ≤ g.all := by unfold Geo.all; omega
      omega⟩
    have HA : Hid (∀ wy, Calls Try.prog 80 #[g.v] wy fun e w' => e = .returned (.int .i64 A) ∧ Below wy.heap.size wy w') := by
      intro wy
      have := geomAll_any g wy HW.out
      unfold Geo.allI at this
      rwa [if_pos hok, hA] at this
    have HAE := Lib.hid hA
    have hA9 : A ≤ 65536 := by
      have hg := Geo.ok_of hok
      obtain ⟨m1, m2, m3, m4, m5, m6, m7, m8, m9, m10⟩ := geo_mul hg.c.1 hg.c.2 hg.l.1 hg.l.2 hg.b.1 hg.b.2 hg.p.1 hg.p.2 hg.s.1 hg.s.2
      have : g.all ≤ 65536 := m8
      omega
    clear hok hA hg
    obtain ⟨c, l, b, p, s⟩ := g
    have HG := Lib.hid (Blk.new w 23 [.int .i64 c, .int .i64 l, .int .i64 b, .int .i64 p, .int .i64 s])
    unfold Geo.v at HA ⊢
    go_enter Try.func33, Try.ntmps33
    (go_wp2_with fail); refine (geomRight_any ⟨c, l, b, p, s⟩ _ HW.out).mono ?_
    rintro e w1 ⟨rfl, hb⟩
    rw [HK.out]
    have hk := HG.out.below hb; have k0 : w1.cell? ⟨w.heap.size, 0, none⟩ = some (.int .i64 c) := hk.cell 0; have k1 : w1.cell? ⟨w.heap.size, 1, none⟩ = some (.int .i64 l) := hk.cell 1; have k2 : w1.cell? ⟨w.heap.size, 2, none⟩ = some (.int .i64 b) := hk.cell 2; have k3 : w1.cell? ⟨w.heap.size, 3, none⟩ = some (.int .i64 p) := hk.cell 3; have k4 : w1.cell? ⟨w.heap.size, 4, none⟩ = some (.int .i64 s) := hk.cell 4; have hltk := hk.lt
    have HG1 := Lib.hid hk
    have HB1 := Lib.hid (((Below.refl w.heap.size w).alloc (Nat.le_refl _) _).trans (hb.mono (by simp)))
    clear hb hk
    by_cases h1 : n < 1
    · go_wp2_with fail
      go_ret2
      refine ⟨HB1.out, ?_⟩
      rw [if_neg (by rw [HNB.out]; simp; omega)]; rfl
    by_cases h2 : 4096 < n
    · go_wp2_with fail
      go_ret2
      refine ⟨HB1.out, ?_⟩
      rw [if_neg (by rw [HNB.out]; simp; omega)]; rfl
    (go_wp2_with fail); refine (HA.out _).mono ?_
    rintro e w2 ⟨rfl, hb⟩
    have hk := HG1.out.below hb; have k0 : w2.cell? ⟨w.heap.size, 0, none⟩ = some (.int .i64 c) := hk.cell 0; have k1 : w2.cell? ⟨w.heap.size, 1, none⟩ = some (.int .i64 l) := hk.cell 1; have k2 : w2.cell? ⟨w.heap.size, 2, none⟩ = some (.int .i64 b) := hk.cell 2; have k3 : w2.cell? ⟨w.heap.size, 3, none⟩ = some (.int .i64 p) := hk.cell 3; have k4 : w2.cell? ⟨w.heap.size, 4, none⟩ = some (.int .i64 s) := hk.cell 4; have hltk := hk.lt
    have HG2 := Lib.hid hk
    have HB2 := Lib.hid (HB1.out.trans (hb.mono HB1.out.size))
    clear hb hk
    by_cases h3 : (A : Int) < n
    · go_wp2_with fail
      go_ret2
      refine ⟨HB2.out, ?_⟩
      rw [if_neg (by rw [HNB.out, HAE.out]; simp; omega)]; rfl
    obtain ⟨N, rfl⟩ : ∃ N : Nat, n = N := ⟨n.toNat, by omega⟩
    have hgo := Geo.ok_of HK.out
    obtain ⟨bl, rfl⟩ : ∃ bl : Nat, b = bl := ⟨b.toNat, by have := hgo.b.1; simp only at this; omega⟩
    have hbl := hgo.b
    simp only at hbl
    have hmk := makeRow (P := Try.prog) 49 3 (.int .i64 0) 8 Try.underlying49 info_int rfl bl (by omega) (by omega)
    have HSZ := Lib.hid hltk
    clear hgo hltk
    go_wp2_with fail
    refine wp_region_t 13 [(4, []), (7, []), (10, []), (11, [4, 7, 10]), (12, [11])] 15 (NewJ w2.heap.size N A bl ⟨c, l, bl, p, s⟩) [?_, ?_, ?_, ?_, undef, ?_, ?_, undef, ?_, ?_, undef, undef, undef] (by kernel_rfl) (by kernel_rfl) (by kernel_rfl) NewJ.keep ?_
    rotate_left 8
    simp only [List.take_succ_cons, List.take_zero, List.drop_succ_cons, List.drop_zero]
    refine SeqT.run (v := ?_) rfl rfl (fun _ wz hz => ?_) ?_ ?_; rotate_left; (have hzc := hz.cell; have hzf := hz.frozen; go_simp; first | exact UponS.value (Since.refl _) | exact UponS.skip (Since.refl _)); (exact rfl); (try simp only [Act.put, List.setIfInBounds_toArray, List.set_cons_zero, List.set_cons_succ])
    refine SeqT.run (v := ?_) rfl rfl (fun _ wz hz => ?_) ?_ ?_; rotate_left; (have hzc := hz.cell; have hzf := hz.frozen; go_simp; first | exact UponS.value (Since.refl _) | exact UponS.skip (Since.refl _)); (exact rfl); (try simp only [Act.put, List.setIfInBounds_toArray, List.set_cons_zero, List.set_cons_succ])
    refine SeqT.run (v := ?_) rfl rfl (fun _ wz hz => ?_) ?_ ?_; rotate_left; (have hzc := hz.cell; have hzf := hz.frozen; go_simp; first | exact UponS.value (Since.refl _) | exact UponS.skip (Since.refl _)); (exact rfl); (try simp only [Act.put, List.setIfInBounds_toArray, List.set_cons_zero, List.set_cons_succ])
    refine SeqT.run (v := ?_) rfl rfl (fun _ wz hz => ?_) ?_ ?_; rotate_left; (have hzc := hz.cell; have hzf := hz.frozen; go_simp; first | exact UponS.value (Since.refl _) | exact UponS.skip (Since.refl _)); (exact rfl); (try simp only [Act.put, List.setIfInBounds_toArray, List.set_cons_zero, List.set_cons_succ])
    refine SeqT.tie rfl (by decide) rfl (fun wz hz hd => ?_) (fun v4 lo4 hi4 => ?_)
    · go_simp
      refine UponT.call ?_
      go_at_call 83
      refine (grownEntry_any N (-1) 0 0 wz (by omega)).mono ?_
      rintro e wy ⟨vv, rfl, hG, hb⟩
      obtain ⟨st, hk, hin⟩ := hG.kept (by rfl) (Nat.lt_succ_self _)
      refine ⟨_, rfl, ⟨wz.heap.size + 1, st, rfl, hk, ⟨by omega, hG.blk.lt⟩, fun i hi => ⟨by have := (hin i hi).1; omega, (hin i hi).2⟩, hz.below.size⟩, hb⟩
    (try simp only [Act.put, List.setIfInBounds_toArray, List.set_cons_zero, List.set_cons_succ])
    refine SeqT.run (v := ?_) rfl rfl (fun _ wz hz => ?_) ?_ ?_; rotate_left; (have hzc := hz.cell; have hzf := hz.frozen; go_simp; first | exact UponS.value (Since.refl _) | exact UponS.skip (Since.refl _)); (exact rfl); (try simp only [Act.put, List.setIfInBounds_toArray, List.set_cons_zero, List.set_cons_succ])
    refine SeqT.run (v := ?_) rfl rfl (fun _ wz hz => ?_) ?_ ?_; rotate_left; (have hzc := hz.cell; have hzf := hz.frozen; go_simp; refine UponS.call ?_; go_at_call 80; refine (HA.out _).mono ?_; rintro e wy ⟨rfl, hb⟩; refine ⟨?_, hb⟩; rfl); (exact rfl); (try simp only [Act.put, List.setIfInBounds_toArray, List.set_cons_zero, List.set_cons_succ])
    refine SeqT.tie rfl (by decide) rfl (fun wz hz hd => ?_) (fun v7 lo7 hi7 => ?_)
    · go_simp
      refine UponT.call ?_
      go_at_call 84
      refine (grownInt_any A 0 wz (by omega)).mono ?_
      rintro e wy ⟨vv, rfl, hG, hb⟩
      obtain ⟨st, hk, hin⟩ := hG.kept (by rfl) (Nat.lt_succ_self _)
      refine ⟨_, rfl, ⟨wz.heap.size, st, rfl, ⟨hk.blk, fun i j hi hj => ?_, hk.apart, hk.other⟩, ⟨by omega, hG.blk.lt⟩, fun i hi => ⟨by have := (hin i hi).1; omega, (hin i hi).2⟩, hz.below.size⟩, hb⟩
      obtain rfl : j = 0 := by omega
      exact hk.at_ i 0 hi (by omega)
    (try simp only [Act.put, List.setIfInBounds_toArray, List.set_cons_zero, List.set_cons_succ])
    refine SeqT.run (v := ?_) rfl rfl (fun _ wz hz => ?_) ?_ ?_; rotate_left; (have hzc := hz.cell; have hzf := hz.frozen; go_simp; first | exact UponS.value (Since.refl _) | exact UponS.skip (Since.refl _)); (exact rfl); (try simp only [Act.put, List.setIfInBounds_toArray, List.set_cons_zero, List.set_cons_succ])
    refine SeqT.run (v := ?_) rfl rfl (fun _ wz hz => ?_) ?_ ?_; rotate_left; (have hzc := hz.cell; have hzf := hz.frozen; go_simp; first | exact UponS.value (Since.refl _) | exact UponS.skip (Since.refl _)); (exact rfl); (try simp only [Act.put, List.setIfInBounds_toArray, List.set_cons_zero, List.set_cons_succ])
    refine SeqT.tie rfl (by decide) rfl (fun wz hz hd => ?_) (fun v10 lo10 hi10 => ?_)
    · go_simp
      exact UponT.value ⟨⟨wz.heap.size, rfl, Blk.new wz 3 _, ⟨Nat.le_refl _, by simp⟩, hz.below.size⟩, (Below.refl _ _).alloc (Nat.le_refl _) _⟩
    (try simp only [Act.put, List.setIfInBounds_toArray, List.set_cons_zero, List.set_cons_succ])
    refine SeqT.tie rfl (by decide) rfl (fun wz hz hd => ?_) (fun v11 lo11 hi11 => ?_)
    · obtain ⟨kt, st, rfl, k4, i4, j4, l4⟩ := hd.all 4 (by decide) v4 _ _ rfl
      obtain ⟨kw, sw, rfl, k7, i7, j7, l7⟩ := hd.all 7 (by decide) v7 _ _ rfl
      obtain ⟨vb, rfl, k10, i10, l10⟩ := hd.all 10 (by decide) v10 _ _ rfl
      have a1 := hd.apart 4 (by decide) 7 (by decide) _ _ _ _ _ _ (by decide) rfl rfl
      have a2 := hd.apart 4 (by decide) 10 (by decide) _ _ _ _ _ _ (by decide) rfl rfl
      have a3 := hd.apart 7 (by decide) 10 (by decide) _ _ _ _ _ _ (by decide) rfl rfl
      have b1 := hd.le 4 (by decide) _ _ _ rfl
      have b2 := hd.le 7 (by decide) _ _ _ rfl
      have b3 := hd.le 10 (by decide) _ _ _ rfl
      have HPT : Parts wz w2.heap.size wz.heap.size N A bl kt kw vb st sw := by
        refine ⟨k4, k7, k10, ⟨by omega, by omega⟩, ⟨by omega, by omega⟩, ⟨by omega, by omega⟩, fun i hi => ?_, fun i hi => ?_, Nat.le_refl _, fun i hi => ?_, fun i hi => ?_, fun i a hi ha => ?_, ⟨by omega, by omega⟩⟩
        · have := j4 i hi; omega
        · have := j7 i hi; omega
        · have := j4 i hi; omega
        · have := j7 i hi; omega
        · have := j4 i hi; have := j7 a ha; omega
      clear k4 k7 k10 a1 a2 a3 b1 b2 b3 i4 i7 i10 j4 j7 l4 l7 l10
      go_simp
      exact UponT.value ⟨⟨wz.heap.size, kt, kw, vb, st, sw, rfl, HPT⟩, Since.refl _⟩
    (try simp only [Act.put, List.setIfInBounds_toArray, List.set_cons_zero, List.set_cons_succ])
    refine SeqT.tie rfl (by decide) rfl (fun wz hz hd => ?_) (fun v12 lo12 hi12 => ?_)
    · obtain ⟨top, kt, kw, vb, st, sw, rfl, HPT⟩ := hd.all 11 (by decide) v11 _ _ rfl
      go_simp
      refine UponT.value ⟨⟨wz.heap.size, top, kt, kw, vb, st, sw, rfl, Blk.new wz 120 _, HPT.since ((Below.refl _ _).alloc (Nat.le_refl _) _), HPT.top, hz.below.size⟩, (Below.refl _ _).alloc (Nat.le_refl _) _⟩
    (try simp only [Act.put, List.setIfInBounds_toArray, List.set_cons_zero, List.set_cons_succ])
    intro wz hz hi
    obtain ⟨m, top, kt, kw, vb, st, sw, rfl, hm, HPT, h5, h6⟩ := hi.all 12 v12 _ _ rfl
    have HB3 := Lib.hid (HB2.out.drew.trans (hz.below.mono HB2.out.size))
    have HM := Lib.hid hm
    have HP := Lib.hid HPT
    have hsz2 := HB2.out.size
    clear hz hi hm HPT hmk
    go_wp2_with fail
    go_ret2
    refine ⟨HB3.out, ?_⟩
    rw [if_pos (by rw [HNB.out, HAE.out, HK.out]; simp; omega)]
    have hA0 : (Geo.all ⟨c, l, bl, p, s⟩).toNat = A := by rw [HAE.out]; rfl
    have hT := HP.out
    refine ⟨m, kt, kw, vb, st, sw, rfl, ?_⟩
    have hln : (List.replicate (N : Int).toNat Ent.none).length = N := by simp
    have hmt := HM.out.lt
    refine ⟨⟨?_, ?_, ?_, fun i hi => ?_, ⟨by omega, hmt⟩, ?_, ?_, ?_, ?_, ?_, Nat.le_refl _, ?_, ?_, ?_, ?_⟩, ?_, HK.out, fine_new _ _⟩
    · rw [hln]; exact HM.out
    · rw [hln]
      refine ⟨hT.tos.blk, fun i j hi hj => ?_, hT.tos.apart, hT.tos.other⟩
      have := hT.tos.at_ i j hi hj
      rwa [List.getD_eq_getElem?_getD, List.getElem?_replicate, if_pos (by simpa using hi)]
    · rw [hA0]
      refine ⟨hT.whos.blk, fun i j hi hj => ?_, hT.whos.apart, hT.whos.other⟩
      have := hT.whos.at_ i j hi hj
      rwa [whoIx_new]
    · rw [validN_new]
      refine ⟨?_, hT.vals.free i⟩
      rw [hT.vals.cell, List.getElem?_replicate, if_pos (by simpa using hi)]; rfl
    · have := hT.inT; have := hT.top; omega
    · have := hT.inW; have := hT.top; omega
    · have := hT.inV; have := hT.top; omega
    · rw [hln]; intro i hi; have := hT.inSt i hi; have := hT.top; omega
    · rw [hA0]; intro i hi; have := hT.inSw i hi; have := hT.top; omega
    · rw [hln]; intro i hi; have := hT.inSt i hi; have := hT.stO i hi; omega
    · rw [hA0]; intro i hi; have := hT.inSw i hi; have := hT.swO i hi; omega
    · rw [hln, hA0]; exact hT.stw
    · have := hT.inV; have := hT.vbO; omega
    · rw [hln]; omega
  · have hk1 : g.okB = false := by simpa using hok
    have HK1 := Lib.hid hk1
    clear hk1 hok hg
    obtain ⟨c, l, b, p, s⟩ := g
    unfold Geo.v
    go_enter Try.func33, Try.ntmps33
    (go_wp2_with fail); refine (geomRight_any ⟨c, l, b, p, s⟩ _ HW.out).mono ?_
    rintro e w1 ⟨rfl, hb⟩
    rw [HK1.out]
    have HB1 := Lib.hid (((Below.refl w.heap.size w).alloc (Nat.le_refl _) _).trans (hb.mono (by simp)))
    clear hb
    go_wp2_with fail
    go_ret2
    refine ⟨HB1.out, ?_⟩
    rw [if_neg (by rw [HNB.out, HK1.out]; simp)]; rfl

end Go.Proofs.Ytlkapaecaeldpaa
