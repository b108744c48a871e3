/-
  The law's package over nand: does.
-/
import Derived.Test.YtlkapaecaeldpaaLaw08e
import Derived.Test.YtlkapaecaeldpaaOps8
set_option linter.unusedVariables false
set_option linter.unusedSimpArgs false
set_option maxRecDepth 16384
namespace Go.Proofs.Ytlkapaecaeldpaa
open Go.RowKit

/-- what is known within the making of sectors -/
def DoesJ (base : Nat) (D O : List (List Int)) (i : Nat) (v : Value) (lo hi : Nat) (w : World) : Prop :=
  match i with
  | 8 => ∃ vd vo, v = .tuple #[vd, vo] ∧ Sls w (fun k => base ≤ k) vd D ∧ Sls w (fun k => base ≤ k) vo O
  | 9 => ∃ vd vo, v = .tuple #[vd, vo] ∧ Sls w (fun k => base ≤ k) vd D ∧ Sls w (fun k => base ≤ k) vo O
  | 10 => Sls w (fun k => base ≤ k) v D
  | 11 => Sls w (fun k => base ≤ k) v O
  | 12 => Sls w (fun k => base ≤ k) v D
  | _ => True
theorem DoesJ.keep {base : Nat} {D O : List (List Int)} (i : Nat) (v : Value) (lo hi : Nat) (w w' : World) (h : DoesJ base D O i v lo hi w) (hs : Since w w') : DoesJ base D O i v lo hi w' := by
  unfold DoesJ at *
  split at h
  · obtain ⟨a, b, h1, h2, h3⟩ := h; exact ⟨a, b, h1, h2.below hs, h3.below hs⟩
  · obtain ⟨a, b, h1, h2, h3⟩ := h; exact ⟨a, b, h1, h2.below hs, h3.below hs⟩
  · exact h.below hs
  · exact h.below hs
  · exact h.below hs
  · trivial

/-- a call that both take -/
structure Doing (w : World) (F FR : Nat → Prop) (o : Op8) (zs : List Int) : Prop where
  sl : zs.length ≤ 100 → SlQ w (Beside F FR w.heap.size) (.slice o.pa o.pl o.pc) (bv zs)
  len : o.pl = zs.length
  isB : ∀ x ∈ zs, IsB x
  ip : IsInt o.p
def Op8.p8 (o : Op8) (zs : List Int) : Op8P := ⟨o.d, o.u, o.b, o.p, o.n, o.odd, zs⟩

/-- how it ends -/
def DoesPost (w : World) (F FR : Nat → Prop) (d r : Nat) (g : Geo) (S : NSt) (m : Nat) (e : Ending) (w' : World) : Prop :=
  e = .returned (.bool true) ∧ ∃ F' FR', Both w' F' FR' d r g S S m ∧ BothStep w F FR w' F' FR'

theorem Both.newPlan {w w1 : World} {F FR : Nat → Prop} {d r : Nat} {g : Geo} {S T : NSt} {m : Nat} (h : Both w F FR d r g S T m) {p : Nat} {lv2 : Value} {xs : List Int} (hb : Below w.heap.size w w1) (hp : Blk w1 p 166 [lv2, .int .i64 0]) (hl : SlQ w1 (fun k => w.heap.size ≤ k ∧ k ≠ p) lv2 (bv xs)) (hpn : w.heap.size ≤ p) (hB : ∀ x ∈ xs, IsB x) (mny : Int) :
    ∃ FR', Both (w1.setCell ⟨r, 5, none⟩ (.pointer (some ⟨p, 0, none⟩))) F FR' d r g S { T with plan := xs, many := mny } m ∧ BothStep w F FR (w1.setCell ⟨r, 5, none⟩ (.pointer (some ⟨p, 0, none⟩))) F FR' := by
  obtain ⟨L, n, evs, pb, nx, wr, rt, lv, lg, hr⟩ := h.rn
  have h5 := hr.newPlan hb hp hl hpn hB mny rfl
  have hrF : FR r := hr.mem.1
  refine ⟨_, ⟨(h.dn.below hb).keep (by simp) fun k hk hf => Below.heap_setCell _ _ _ _ (fun e => h.ap k hf (by have : k = r := e; rw [this]; exact hrF)), ⟨_, _, _, _, _, _, _, _, _, h5⟩, fun k hk hf => ?_⟩, ⟨(OnlyF.below hb).setCell (p := ⟨r, 5, none⟩) (.inr hrF) _, .refl _ _, fun k hk => hk.imp id fun q => q.1⟩⟩
  rcases hf with hf | hf
  · exact h.ap k hk hf
  · have := h.dn.inF k hk
    omega
theorem Both.rOff {w : World} {F FR : Nat → Prop} {d r : Nat} {g : Geo} {S T : NSt} {m : Nat} (h : Both w F FR d r g S T m) (o : Bool) :
    Both (w.setCell ⟨r, 10, none⟩ (.bool o)) F FR d r g S { T with off := o } m ∧ BothStep w F FR (w.setCell ⟨r, 10, none⟩ (.bool o)) F FR := by
  obtain ⟨L, n, evs, pb, nx, wr, rt, lv, lg, hr⟩ := h.rn
  have hrF : FR r := hr.mem.1
  exact ⟨⟨h.dn.keep (by simp) fun k hk hf => Below.heap_setCell _ _ _ _ (fun e => h.ap k hf (by have : k = r := e; rw [this]; exact hrF)), ⟨_, _, _, _, _, _, _, _, _, hr.setOff o⟩, h.ap⟩, ⟨(OnlyF.refl _ w).setCell (p := ⟨r, 10, none⟩) (.inr hrF) _, .refl _ _, .refl _ _⟩⟩

set_option maxHeartbeats 8000000 in
theorem does_any {w : World} {F FR : Nat → Prop} {d r : Nat} {g : Geo} {S : NSt} {m : Nat} (H : Both w F FR d r g S S m) (hm : m ≤ 1000000) (hI : SInv g S) (o : Op8) (zs : List Int) (ho : Doing w F FR o zs) :
    Calls Try.prog 53 #[.pointer (some ⟨d, 0, none⟩), .pointer (some ⟨r, 0, none⟩), o.v] w fun e w' => DoesPost w F FR d r g (stepTo g S (o.p8 zs)) (m + 1) e w' := by
  have HH := Lib.hid H
  have HI := Lib.hid hI
  have HO := Lib.hid ho
  have hok := H.dn.ok
  have hdin : ∀ k, F k → k < w.heap.size := H.dn.inF
  have hrin : ∀ k, FR k → k < w.heap.size := H.rn.inF
  have hgo := Geo.ok_of hok
  have hs4 := hgo.s
  have HR : Hid (stepTo g S (o.p8 zs) = if o.d = 0 ∨ o.d = 1 then (progTo g S o.u o.b o.p (secsD (min g.sectors 4).toNat o.n) (secsO (min g.sectors 4).toNat o.n o.odd)).2
      else if o.d = 2 then (eraseTo g S o.u o.b).2
      else if o.d = 4 then (retireTo g S o.u o.b).2
      else if o.d = 5 then (if zs.length ≤ 100 then { S with plan := zs, many := 0 } else S)
      else if o.d = 6 then { S with off := false } else S) := Lib.hid rfl
  obtain ⟨S1, hS1⟩ : ∃ T, stepTo g S (o.p8 zs) = T := ⟨_, rfl⟩
  rw [hS1] at HR
  rw [hS1]
  clear hS1 hI ho H
  obtain ⟨od, u, b, p, n, odd, pa, pl, pc, zs0⟩ := o
  simp only at HR
  have HK := Lib.hid (Blk.new w 86 [.int .i64 od, .int .i64 u, .int .i64 b, .int .i64 p, .int .i64 n, .bool odd, .slice pa pl pc])
  have hb0 : Below w.heap.size w (w.alloc (.cells #[.int .i64 od, .int .i64 u, .int .i64 b, .int .i64 p, .int .i64 n, .bool odd, .slice pa pl pc] 86)) := (Below.refl _ _).alloc (Nat.le_refl _) _
  have HB := Lib.hid (HH.out.keep hb0)
  have HS0 := Lib.hid ((BothStep.refl w F FR).below hb0)
  have HLT : Hid (∀ F' FR', Fresh F F' (w.heap.size + 1) → Fresh FR FR' (w.heap.size + 1) → ¬ F' w.heap.size ∧ ¬ FR' w.heap.size) := fun F' FR' h1 h2 => by
    constructor
    · intro q
      rcases h1 _ q with q | q
      · have := hdin _ q; omega
      · omega
    · intro q
      rcases h2 _ q with q | q
      · have := hrin _ q; omega
      · omega
  have HSZ0 : Hid ((w.alloc (.cells #[.int .i64 od, .int .i64 u, .int .i64 b, .int .i64 p, .int .i64 n, .bool odd, .slice pa pl pc] 86)).heap.size = w.heap.size + 1) := by show _ = _; simp
  unfold Op8.v
  go_enter Try.func53, Try.ntmps53
  generalize hw0 : w.alloc (.cells #[.int .i64 od, .int .i64 u, .int .i64 b, .int .i64 p, .int .i64 n, .bool odd, .slice pa pl pc] 86) = w0 at HK HB HS0 HSZ0 ⊢
  have c0 : w0.cell? ⟨w.heap.size, 0, none⟩ = some (.int .i64 od) := HK.out.cell 0
  have c1 : w0.cell? ⟨w.heap.size, 1, none⟩ = some (.int .i64 u) := HK.out.cell 1
  have c2 : w0.cell? ⟨w.heap.size, 2, none⟩ = some (.int .i64 b) := HK.out.cell 2
  have c3 : w0.cell? ⟨w.heap.size, 3, none⟩ = some (.int .i64 p) := HK.out.cell 3
  have c4 : w0.cell? ⟨w.heap.size, 4, none⟩ = some (.int .i64 n) := HK.out.cell 4
  have c5 : w0.cell? ⟨w.heap.size, 5, none⟩ = some (.bool odd) := HK.out.cell 5
  have c6 : w0.cell? ⟨w.heap.size, 6, none⟩ = some (.slice pa pl pc) := HK.out.cell 6
  have hcl := HK.out.lt
  obtain ⟨L0, n0, evs, pb, nx, wrr, rt, lv, lg, Hr⟩ := HB.out.rn
  have k0 : w0.cell? ⟨r, 0, none⟩ = some (.int .i64 g.chans) := Hr.blk.cell 0
  have k1 : w0.cell? ⟨r, 1, none⟩ = some (.int .i64 g.luns) := Hr.blk.cell 1
  have k2 : w0.cell? ⟨r, 2, none⟩ = some (.int .i64 g.blocks) := Hr.blk.cell 2
  have k3 : w0.cell? ⟨r, 3, none⟩ = some (.int .i64 g.pages) := Hr.blk.cell 3
  have k4 : w0.cell? ⟨r, 4, none⟩ = some (.int .i64 g.sectors) := Hr.blk.cell 4
  have hrl := Hr.blk.lt
  obtain ⟨D, hD⟩ : ∃ D, secsD (min g.sectors 4).toNat n = D := ⟨_, rfl⟩
  obtain ⟨O, hO⟩ : ∃ D, secsO (min g.sectors 4).toNat n odd = D := ⟨_, rfl⟩
  rw [hD, hO] at HR
  have HSEC : Hid (∀ wy, Calls Try.prog 22 #[g.v, .int .i64 n, .bool odd] wy fun e w' => ∃ vd vo, e = .returned (.tuple #[vd, vo]) ∧ Sls w' (fun k => wy.heap.size ≤ k) vd D ∧ Sls w' (fun k => wy.heap.size ≤ k) vo O ∧ Below wy.heap.size wy w') := fun wy => by
    refine (sectors_any g n odd wy).mono fun e w' hp => ?_
    obtain ⟨vd, vo, bs, cs, rfl, h1, h2, h3⟩ := hp
    refine ⟨vd, vo, rfl, ?_, ?_, h3⟩
    · have := h1.slsD.mono fun k _ hq => hq.1
      rwa [h2, hD] at this
    · have := h1.slsO.mono fun k _ hq => hq.1
      rwa [h2, hO] at this
  clear hD hO Hr HK
  obtain ⟨gc, gl, gb, gp, gs⟩ := g
  simp only [Geo.v] at HSEC
  simp only at k0 k1 k2 k3 k4
  go_wp2_with fail
  refine wp_region_t 13 [(8, []), (9, [8]), (10, [9]), (11, [9]), (12, [10])] 14 (DoesJ w0.drew.heap.size D O) [?_, ?_, ?_, ?_, ?_, ?_, ?_, ?_, undef, undef, undef, undef, undef] (by kernel_rfl) (by kernel_rfl) (by kernel_rfl) DoesJ.keep ?_
  rotate_left 8
  simp only [List.take_succ_cons, List.take_zero, List.drop_succ_cons, List.drop_zero]
  refine SeqT.run (v := ?_) rfl rfl (fun _ wz hz => ?_) ?_ ?_; rotate_left; (have hzc := hz.cell; have hzf := hz.frozen; go_simp; first | exact UponS.value (Since.refl _) | exact UponS.skip (Since.refl _)); (exact rfl); (try simp only [Act.put, List.setIfInBounds_toArray, List.set_cons_zero, List.set_cons_succ])
  refine SeqT.run (v := ?_) rfl rfl (fun _ wz hz => ?_) ?_ ?_; rotate_left; (have hzc := hz.cell; have hzf := hz.frozen; go_simp; first | exact UponS.value (Since.refl _) | exact UponS.skip (Since.refl _)); (exact rfl); (try simp only [Act.put, List.setIfInBounds_toArray, List.set_cons_zero, List.set_cons_succ])
  refine SeqT.run (v := ?_) rfl rfl (fun _ wz hz => ?_) ?_ ?_; rotate_left; (have hzc := hz.cell; have hzf := hz.frozen; go_simp; first | exact UponS.value (Since.refl _) | exact UponS.skip (Since.refl _)); (exact rfl); (try simp only [Act.put, List.setIfInBounds_toArray, List.set_cons_zero, List.set_cons_succ])
  refine SeqT.run (v := ?_) rfl rfl (fun _ wz hz => ?_) ?_ ?_; rotate_left; (have hzc := hz.cell; have hzf := hz.frozen; go_simp; first | exact UponS.value (Since.refl _) | exact UponS.skip (Since.refl _)); (exact rfl); (try simp only [Act.put, List.setIfInBounds_toArray, List.set_cons_zero, List.set_cons_succ])
  refine SeqT.run (v := ?_) rfl rfl (fun _ wz hz => ?_) ?_ ?_; rotate_left; (have hzc := hz.cell; have hzf := hz.frozen; go_simp; first | exact UponS.value (Since.refl _) | exact UponS.skip (Since.refl _)); (exact rfl); (try simp only [Act.put, List.setIfInBounds_toArray, List.set_cons_zero, List.set_cons_succ])
  refine SeqT.run (v := ?_) rfl rfl (fun _ wz hz => ?_) ?_ ?_; rotate_left; (have hzc := hz.cell; have hzf := hz.frozen; go_simp; first | exact UponS.value (Since.refl _) | exact UponS.skip (Since.refl _)); (exact rfl); (try simp only [Act.put, List.setIfInBounds_toArray, List.set_cons_zero, List.set_cons_succ])
  refine SeqT.run (v := ?_) rfl rfl (fun _ wz hz => ?_) ?_ ?_; rotate_left; (have hzc := hz.cell; have hzf := hz.frozen; go_simp; first | exact UponS.value (Since.refl _) | exact UponS.skip (Since.refl _)); (exact rfl); (try simp only [Act.put, List.setIfInBounds_toArray, List.set_cons_zero, List.set_cons_succ])
  refine SeqT.run (v := ?_) rfl rfl (fun _ wz hz => ?_) ?_ ?_; rotate_left; (have hzc := hz.cell; have hzf := hz.frozen; go_simp; first | exact UponS.value (Since.refl _) | exact UponS.skip (Since.refl _)); (exact rfl); (try simp only [Act.put, List.setIfInBounds_toArray, List.set_cons_zero, List.set_cons_succ])
  refine SeqT.tie rfl (by decide) rfl (fun wz hz hd => ?_) (fun v8 _ _ => ?_)
  · clear hd
    go_simp
    refine UponT.call ?_
    go_at_call 22
    refine (HSEC.out wz).mono ?_
    rintro e wy ⟨vd, vo, rfl, h1, h2, h3⟩
    exact ⟨_, rfl, ⟨vd, vo, rfl, h1.mono fun k _ hq => Nat.le_trans hz.below.size hq, h2.mono fun k _ hq => Nat.le_trans hz.below.size hq⟩, h3⟩
  (try simp only [Act.put, List.setIfInBounds_toArray, List.set_cons_zero, List.set_cons_succ])
  refine SeqT.tie rfl (by decide) rfl (fun wz hz hd => ?_) (fun v9 _ _ => ?_)
  · obtain ⟨vd, vo, rfl, h1, h2⟩ := hd.all 8 (by decide) v8 _ _ rfl
    clear hd
    go_simp
    exact UponT.value ⟨⟨vd, vo, rfl, h1, h2⟩, Since.refl _⟩
  (try simp only [Act.put, List.setIfInBounds_toArray, List.set_cons_zero, List.set_cons_succ])
  refine SeqT.tie rfl (by decide) rfl (fun wz hz hd => ?_) (fun v10 _ _ => ?_)
  · obtain ⟨vd, vo, rfl, h1, h2⟩ := hd.all 9 (by decide) v9 _ _ rfl
    clear hd
    go_simp
    exact UponT.value ⟨h1, Since.refl _⟩
  (try simp only [Act.put, List.setIfInBounds_toArray, List.set_cons_zero, List.set_cons_succ])
  refine SeqT.tie rfl (by decide) rfl (fun wz hz hd => ?_) (fun v11 _ _ => ?_)
  · obtain ⟨vd, vo, rfl, h1, h2⟩ := hd.all 9 (by decide) v9 _ _ rfl
    clear hd
    go_simp
    exact UponT.value ⟨h2, Since.refl _⟩
  (try simp only [Act.put, List.setIfInBounds_toArray, List.set_cons_zero, List.set_cons_succ])
  refine SeqT.tie rfl (by decide) rfl (fun wz hz hd => ?_) (fun v12 _ _ => ?_)
  · have h1 : Sls wz (fun k => w0.drew.heap.size ≤ k) v10 D := hd.all 10 (by decide) v10 _ _ rfl
    clear hd
    go_simp
    exact UponT.value ⟨h1, Since.refl _⟩
  (try simp only [Act.put, List.setIfInBounds_toArray, List.set_cons_zero, List.set_cons_succ])
  intro w3 hz hi
  have h1 : Sls w3 (fun k => w0.drew.heap.size ≤ k) v12 D := hi.all 12 v12 _ _ rfl
  have h2 : Sls w3 (fun k => w0.drew.heap.size ≤ k) v11 O := hi.all 11 v11 _ _ rfl
  have hb3 : Below w0.heap.size w0 w3 := (Below.refl w0.heap.size w0).drew.trans hz.below
  have h03 := hz.below.size
  have hsz0 := HSZ0.out
  have HB3 := Lib.hid (HB.out.keep hb3)
  have HS3 := Lib.hid (HS0.out.below hb3)
  have HDD : Hid (Sls w3 (Beside F FR w3.heap.size) v12 D) := Lib.hid (h1.mono fun k hk hq => ⟨fun q => by have := hdin k q; have : w0.heap.size ≤ k := hq; omega, fun q => by have := hrin k q; have : w0.heap.size ≤ k := hq; omega, hk⟩)
  have HOO : Hid (Sls w3 (Beside F FR w3.heap.size) v11 O) := Lib.hid (h2.mono fun k hk hq => ⟨fun q => by have := hdin k q; have : w0.heap.size ≤ k := hq; omega, fun q => by have := hrin k q; have : w0.heap.size ≤ k := hq; omega, hk⟩)
  have hc3 := fun (o : Nat) => World.cell?_of_block (a := ⟨w.heap.size, o, none⟩) (hb3.block w.heap.size hcl)
  have d0 : w3.cell? ⟨w.heap.size, 0, none⟩ = some (.int .i64 od) := (hc3 0).trans c0
  have d1 : w3.cell? ⟨w.heap.size, 1, none⟩ = some (.int .i64 u) := (hc3 1).trans c1
  have d2 : w3.cell? ⟨w.heap.size, 2, none⟩ = some (.int .i64 b) := (hc3 2).trans c2
  have d3 : w3.cell? ⟨w.heap.size, 3, none⟩ = some (.int .i64 p) := (hc3 3).trans c3
  have d6 : w3.cell? ⟨w.heap.size, 6, none⟩ = some (.slice pa pl pc) := (hc3 6).trans c6
  have hdl : w.heap.size < w3.heap.size := Nat.lt_of_lt_of_le hcl hb3.size
  have hnd : ¬ F w.heap.size := fun q => by have := hdin _ q; omega
  have hnr : ¬ FR w.heap.size := fun q => by have := hrin _ q; omega
  clear hsz0 h03 hz hi h1 h2 hb3 hc3 c0 c1 c2 c3 c4 c5 c6 k0 k1 k2 k3 k4 hcl hrl
  have HDS : Hid (∀ S1, ∀ b c x y, DS w3 F FR d r ⟨gc, gl, gb, gp, gs⟩ S S1 m b c x → Since x y → DS w3 F FR d r ⟨gc, gl, gb, gp, gs⟩ S S1 m b c y) := Lib.hid (fun S1 => DS.since)
  by_cases h01 : od = 0 ∨ od = 1
  · have hr2 := HR.out
    rw [if_pos h01] at hr2
    have HR2 := Lib.hid hr2
    clear hr2 HR
    have hX : ∃ X, progTo ⟨gc, gl, gb, gp, gs⟩ S u b p D O = X := ⟨_, rfl⟩
    obtain ⟨⟨X, S2⟩, hX⟩ := hX
    rw [hX] at HR2
    have HX := Lib.hid hX
    obtain rfl : S1 = S2 := HR2.out
    clear hX
    rcases h01 with rfl | rfl
    all_goals
      go_wp2_with fail
      refine wp_region_2 20 9 19 (DS w3 F FR d r ⟨gc, gl, gb, gp, gs⟩ S S1 m) (by kernel_rfl) (by kernel_rfl) (DS.start HB3.out) ?_
      simp only [List.take_succ_cons, List.take_zero, List.drop_succ_cons, List.drop_zero]
      refine SeqW.pure (v := ?_) (HDS.out S1) (by decide) (by decide) rfl (fun b' c' wz hz => ?_) ?_; rotate_left; (obtain ⟨F', FR', hb, hs⟩ := hz; have hzc := hs.cell hdl hnd hnr; clear hb hs; go_simp; first | exact UponS.value (Since.refl _) | exact UponS.skip (Since.refl _)); (try simp only [Act.put, List.setIfInBounds_toArray, List.set_cons_zero, List.set_cons_succ])
      refine SeqW.pure (v := ?_) (HDS.out S1) (by decide) (by decide) rfl (fun b' c' wz hz => ?_) ?_; rotate_left; (obtain ⟨F', FR', hb, hs⟩ := hz; have hzc := hs.cell hdl hnd hnr; clear hb hs; go_simp; first | exact UponS.value (Since.refl _) | exact UponS.skip (Since.refl _)); (try simp only [Act.put, List.setIfInBounds_toArray, List.set_cons_zero, List.set_cons_succ])
      refine SeqW.pure (v := ?_) (HDS.out S1) (by decide) (by decide) rfl (fun b' c' wz hz => ?_) ?_; rotate_left; (obtain ⟨F', FR', hb, hs⟩ := hz; have hzc := hs.cell hdl hnd hnr; clear hb hs; go_simp; first | exact UponS.value (Since.refl _) | exact UponS.skip (Since.refl _)); (try simp only [Act.put, List.setIfInBounds_toArray, List.set_cons_zero, List.set_cons_succ])
      refine SeqW.pure (v := ?_) (HDS.out S1) (by decide) (by decide) rfl (fun b' c' wz hz => ?_) ?_; rotate_left; (obtain ⟨F', FR', hb, hs⟩ := hz; have hzc := hs.cell hdl hnd hnr; clear hb hs; go_simp; first | exact UponS.value (Since.refl _) | exact UponS.skip (Since.refl _)); (try simp only [Act.put, List.setIfInBounds_toArray, List.set_cons_zero, List.set_cons_succ])
      refine SeqW.pure (v := ?_) (HDS.out S1) (by decide) (by decide) rfl (fun b' c' wz hz => ?_) ?_; rotate_left; (obtain ⟨F', FR', hb, hs⟩ := hz; have hzc := hs.cell hdl hnd hnr; clear hb hs; go_simp; first | exact UponS.value (Since.refl _) | exact UponS.skip (Since.refl _)); (try simp only [Act.put, List.setIfInBounds_toArray, List.set_cons_zero, List.set_cons_succ])
      refine SeqW.pure (v := ?_) (HDS.out S1) (by decide) (by decide) rfl (fun b' c' wz hz => ?_) ?_; rotate_left; (obtain ⟨F', FR', hb, hs⟩ := hz; have hzc := hs.cell hdl hnd hnr; clear hb hs; go_simp; first | exact UponS.value (Since.refl _) | exact UponS.skip (Since.refl _)); (try simp only [Act.put, List.setIfInBounds_toArray, List.set_cons_zero, List.set_cons_succ])
      refine SeqW.pure (v := ?_) (HDS.out S1) (by decide) (by decide) rfl (fun b' c' wz hz => ?_) ?_; rotate_left; (obtain ⟨F', FR', hb, hs⟩ := hz; have hzc := hs.cell hdl hnd hnr; clear hb hs; go_simp; first | exact UponS.value (Since.refl _) | exact UponS.skip (Since.refl _)); (try simp only [Act.put, List.setIfInBounds_toArray, List.set_cons_zero, List.set_cons_succ])
      refine SeqW.pure (v := ?_) (HDS.out S1) (by decide) (by decide) rfl (fun b' c' wz hz => ?_) ?_; rotate_left; (obtain ⟨F', FR', hb, hs⟩ := hz; have hzc := hs.cell hdl hnd hnr; clear hb hs; go_simp; first | exact UponS.value (Since.refl _) | exact UponS.skip (Since.refl _)); (try simp only [Act.put, List.setIfInBounds_toArray, List.set_cons_zero, List.set_cons_succ])
      refine SeqW.pure (v := ?_) (HDS.out S1) (by decide) (by decide) rfl (fun b' c' wz hz => ?_) ?_; rotate_left; (obtain ⟨F', FR', hb, hs⟩ := hz; have hzc := hs.cell hdl hnd hnr; clear hb hs; go_simp; first | exact UponS.value (Since.refl _) | exact UponS.skip (Since.refl _)); (try simp only [Act.put, List.setIfInBounds_toArray, List.set_cons_zero, List.set_cons_succ])
      refine SeqW.one (v := .int .i64 X) rfl (by decide) (by decide) rfl (fun c' wz hz => ?_) ?_
      · go_simp
        refine UponS.call ?_
        go_at_call 23
        refine hz.one fun F' FR' hn hs => ?_
        have hc := nandProgram_any hn u b p v12 v11 D O (hs.sls HDD.out).1 (hs.sls HOO.out).1
        rw [HX.out] at hc
        exact hc
      (try simp only [Act.put, List.setIfInBounds_toArray, List.set_cons_zero, List.set_cons_succ])
      refine SeqW.pure (v := ?_) (HDS.out S1) (by decide) (by decide) rfl (fun b' c' wz hz => ?_) ?_; rotate_left; (obtain ⟨F', FR', hb, hs⟩ := hz; have hzc := hs.cell hdl hnd hnr; clear hb hs; go_simp; first | exact UponS.value (Since.refl _) | exact UponS.skip (Since.refl _)); (try simp only [Act.put, List.setIfInBounds_toArray, List.set_cons_zero, List.set_cons_succ])
      refine SeqW.pure (v := ?_) (HDS.out S1) (by decide) (by decide) rfl (fun b' c' wz hz => ?_) ?_; rotate_left; (obtain ⟨F', FR', hb, hs⟩ := hz; have hzc := hs.cell hdl hnd hnr; clear hb hs; go_simp; first | exact UponS.value (Since.refl _) | exact UponS.skip (Since.refl _)); (try simp only [Act.put, List.setIfInBounds_toArray, List.set_cons_zero, List.set_cons_succ])
      refine SeqW.pure (v := ?_) (HDS.out S1) (by decide) (by decide) rfl (fun b' c' wz hz => ?_) ?_; rotate_left; (obtain ⟨F', FR', hb, hs⟩ := hz; have hzc := hs.cell hdl hnd hnr; clear hb hs; go_simp; first | exact UponS.value (Since.refl _) | exact UponS.skip (Since.refl _)); (try simp only [Act.put, List.setIfInBounds_toArray, List.set_cons_zero, List.set_cons_succ])
      refine SeqW.pure (v := ?_) (HDS.out S1) (by decide) (by decide) rfl (fun b' c' wz hz => ?_) ?_; rotate_left; (obtain ⟨F', FR', hb, hs⟩ := hz; have hzc := hs.cell hdl hnd hnr; clear hb hs; go_simp; first | exact UponS.value (Since.refl _) | exact UponS.skip (Since.refl _)); (try simp only [Act.put, List.setIfInBounds_toArray, List.set_cons_zero, List.set_cons_succ])
      refine SeqW.pure (v := ?_) (HDS.out S1) (by decide) (by decide) rfl (fun b' c' wz hz => ?_) ?_; rotate_left; (obtain ⟨F', FR', hb, hs⟩ := hz; have hzc := hs.cell hdl hnd hnr; clear hb hs; go_simp; first | exact UponS.value (Since.refl _) | exact UponS.skip (Since.refl _)); (try simp only [Act.put, List.setIfInBounds_toArray, List.set_cons_zero, List.set_cons_succ])
      refine SeqW.pure (v := ?_) (HDS.out S1) (by decide) (by decide) rfl (fun b' c' wz hz => ?_) ?_; rotate_left; (obtain ⟨F', FR', hb, hs⟩ := hz; have hzc := hs.cell hdl hnd hnr; clear hb hs; go_simp; first | exact UponS.value (Since.refl _) | exact UponS.skip (Since.refl _)); (try simp only [Act.put, List.setIfInBounds_toArray, List.set_cons_zero, List.set_cons_succ])
      refine SeqW.pure (v := ?_) (HDS.out S1) (by decide) (by decide) rfl (fun b' c' wz hz => ?_) ?_; rotate_left; (obtain ⟨F', FR', hb, hs⟩ := hz; have hzc := hs.cell hdl hnd hnr; clear hb hs; go_simp; first | exact UponS.value (Since.refl _) | exact UponS.skip (Since.refl _)); (try simp only [Act.put, List.setIfInBounds_toArray, List.set_cons_zero, List.set_cons_succ])
      refine SeqW.pure (v := ?_) (HDS.out S1) (by decide) (by decide) rfl (fun b' c' wz hz => ?_) ?_; rotate_left; (obtain ⟨F', FR', hb, hs⟩ := hz; have hzc := hs.cell hdl hnd hnr; clear hb hs; go_simp; first | exact UponS.value (Since.refl _) | exact UponS.skip (Since.refl _)); (try simp only [Act.put, List.setIfInBounds_toArray, List.set_cons_zero, List.set_cons_succ])
      refine SeqW.pure (v := ?_) (HDS.out S1) (by decide) (by decide) rfl (fun b' c' wz hz => ?_) ?_; rotate_left; (obtain ⟨F', FR', hb, hs⟩ := hz; have hzc := hs.cell hdl hnd hnr; clear hb hs; go_simp; first | exact UponS.value (Since.refl _) | exact UponS.skip (Since.refl _)); (try simp only [Act.put, List.setIfInBounds_toArray, List.set_cons_zero, List.set_cons_succ])
      refine SeqW.two (v := .int .i64 X) (by decide) rfl (by decide) rfl (fun b' wz hz => ?_) ?_
      · go_simp
        refine UponS.call ?_
        go_at_call 104
        refine hz.two fun F' FR' hn hs => ?_
        have hc := ref08Program_any hn hm HI.out.ni u b p v12 v11 D O (hs.sls HDD.out).2 (hs.sls HOO.out).2
        rw [HX.out] at hc
        exact hc
      (try simp only [Act.put, List.setIfInBounds_toArray, List.set_cons_zero, List.set_cons_succ])
      intro w4 hz
      have hz : DS w3 F FR d r ⟨gc, gl, gb, gp, gs⟩ S S1 m true true w4 := hz
      have HFIN : Hid (DoesPost w F FR d r ⟨gc, gl, gb, gp, gs⟩ S1 (m + 1) (.returned (.bool true)) w4) := by
        obtain ⟨F', FR', hb, hs⟩ := hz
        exact ⟨rfl, F', FR', hb, HS3.out.trans hs⟩
      clear hz
      go_wp2_with fail
      go_ret
      exact HFIN.out
  have hr2 := HR.out
  rw [if_neg h01] at hr2
  clear HR
  have e0 : (od == 0) = false := by rw [beq_eq_false_iff_ne]; omega
  have e1 : (od == 1) = false := by rw [beq_eq_false_iff_ne]; omega
  clear h01
  by_cases h2 : od = 2
  · subst h2
    rw [if_pos rfl] at hr2
    have HR2 := Lib.hid hr2
    clear hr2 e0 e1
    obtain ⟨⟨X, S2⟩, hX⟩ : ∃ X, eraseTo ⟨gc, gl, gb, gp, gs⟩ S u b = X := ⟨_, rfl⟩
    rw [hX] at HR2
    have HX := Lib.hid hX
    obtain rfl : S1 = S2 := HR2.out
    clear hX
    go_wp2_with fail
    refine wp_region_2 12 5 11 (DS w3 F FR d r ⟨gc, gl, gb, gp, gs⟩ S S1 m) (by kernel_rfl) (by kernel_rfl) (DS.start HB3.out) ?_
    simp only [List.take_succ_cons, List.take_zero, List.drop_succ_cons, List.drop_zero]
    refine SeqW.pure (v := ?_) (HDS.out S1) (by decide) (by decide) rfl (fun b' c' wz hz => ?_) ?_; rotate_left; (obtain ⟨F', FR', hb, hs⟩ := hz; have hzc := hs.cell hdl hnd hnr; clear hb hs; go_simp; first | exact UponS.value (Since.refl _) | exact UponS.skip (Since.refl _)); (try simp only [Act.put, List.setIfInBounds_toArray, List.set_cons_zero, List.set_cons_succ])
    refine SeqW.pure (v := ?_) (HDS.out S1) (by decide) (by decide) rfl (fun b' c' wz hz => ?_) ?_; rotate_left; (obtain ⟨F', FR', hb, hs⟩ := hz; have hzc := hs.cell hdl hnd hnr; clear hb hs; go_simp; first | exact UponS.value (Since.refl _) | exact UponS.skip (Since.refl _)); (try simp only [Act.put, List.setIfInBounds_toArray, List.set_cons_zero, List.set_cons_succ])
    refine SeqW.pure (v := ?_) (HDS.out S1) (by decide) (by decide) rfl (fun b' c' wz hz => ?_) ?_; rotate_left; (obtain ⟨F', FR', hb, hs⟩ := hz; have hzc := hs.cell hdl hnd hnr; clear hb hs; go_simp; first | exact UponS.value (Since.refl _) | exact UponS.skip (Since.refl _)); (try simp only [Act.put, List.setIfInBounds_toArray, List.set_cons_zero, List.set_cons_succ])
    refine SeqW.pure (v := ?_) (HDS.out S1) (by decide) (by decide) rfl (fun b' c' wz hz => ?_) ?_; rotate_left; (obtain ⟨F', FR', hb, hs⟩ := hz; have hzc := hs.cell hdl hnd hnr; clear hb hs; go_simp; first | exact UponS.value (Since.refl _) | exact UponS.skip (Since.refl _)); (try simp only [Act.put, List.setIfInBounds_toArray, List.set_cons_zero, List.set_cons_succ])
    refine SeqW.pure (v := ?_) (HDS.out S1) (by decide) (by decide) rfl (fun b' c' wz hz => ?_) ?_; rotate_left; (obtain ⟨F', FR', hb, hs⟩ := hz; have hzc := hs.cell hdl hnd hnr; clear hb hs; go_simp; first | exact UponS.value (Since.refl _) | exact UponS.skip (Since.refl _)); (try simp only [Act.put, List.setIfInBounds_toArray, List.set_cons_zero, List.set_cons_succ])
    refine SeqW.one (v := .int .i64 X) rfl (by decide) (by decide) rfl (fun c' wz hz => ?_) ?_
    · go_simp
      refine UponS.call ?_
      go_at_call 47
      refine hz.one fun F' FR' hn hs => ?_
      have hc := nandErase_any hn u b
      rw [HX.out] at hc
      exact hc
    (try simp only [Act.put, List.setIfInBounds_toArray, List.set_cons_zero, List.set_cons_succ])
    refine SeqW.pure (v := ?_) (HDS.out S1) (by decide) (by decide) rfl (fun b' c' wz hz => ?_) ?_; rotate_left; (obtain ⟨F', FR', hb, hs⟩ := hz; have hzc := hs.cell hdl hnd hnr; clear hb hs; go_simp; first | exact UponS.value (Since.refl _) | exact UponS.skip (Since.refl _)); (try simp only [Act.put, List.setIfInBounds_toArray, List.set_cons_zero, List.set_cons_succ])
    refine SeqW.pure (v := ?_) (HDS.out S1) (by decide) (by decide) rfl (fun b' c' wz hz => ?_) ?_; rotate_left; (obtain ⟨F', FR', hb, hs⟩ := hz; have hzc := hs.cell hdl hnd hnr; clear hb hs; go_simp; first | exact UponS.value (Since.refl _) | exact UponS.skip (Since.refl _)); (try simp only [Act.put, List.setIfInBounds_toArray, List.set_cons_zero, List.set_cons_succ])
    refine SeqW.pure (v := ?_) (HDS.out S1) (by decide) (by decide) rfl (fun b' c' wz hz => ?_) ?_; rotate_left; (obtain ⟨F', FR', hb, hs⟩ := hz; have hzc := hs.cell hdl hnd hnr; clear hb hs; go_simp; first | exact UponS.value (Since.refl _) | exact UponS.skip (Since.refl _)); (try simp only [Act.put, List.setIfInBounds_toArray, List.set_cons_zero, List.set_cons_succ])
    refine SeqW.pure (v := ?_) (HDS.out S1) (by decide) (by decide) rfl (fun b' c' wz hz => ?_) ?_; rotate_left; (obtain ⟨F', FR', hb, hs⟩ := hz; have hzc := hs.cell hdl hnd hnr; clear hb hs; go_simp; first | exact UponS.value (Since.refl _) | exact UponS.skip (Since.refl _)); (try simp only [Act.put, List.setIfInBounds_toArray, List.set_cons_zero, List.set_cons_succ])
    refine SeqW.pure (v := ?_) (HDS.out S1) (by decide) (by decide) rfl (fun b' c' wz hz => ?_) ?_; rotate_left; (obtain ⟨F', FR', hb, hs⟩ := hz; have hzc := hs.cell hdl hnd hnr; clear hb hs; go_simp; first | exact UponS.value (Since.refl _) | exact UponS.skip (Since.refl _)); (try simp only [Act.put, List.setIfInBounds_toArray, List.set_cons_zero, List.set_cons_succ])
    refine SeqW.two (v := .int .i64 X) (by decide) rfl (by decide) rfl (fun b' wz hz => ?_) ?_
    · go_simp
      refine UponS.call ?_
      go_at_call 105
      refine hz.two fun F' FR' hn hs => ?_
      have hc := ref08Erase_any hn hm u b
      rw [HX.out] at hc
      exact hc
    (try simp only [Act.put, List.setIfInBounds_toArray, List.set_cons_zero, List.set_cons_succ])
    intro w4 hz
    have hz : DS w3 F FR d r ⟨gc, gl, gb, gp, gs⟩ S S1 m true true w4 := hz
    have HFIN : Hid (DoesPost w F FR d r ⟨gc, gl, gb, gp, gs⟩ S1 (m + 1) (.returned (.bool true)) w4) := by
      obtain ⟨F', FR', hb, hs⟩ := hz
      exact ⟨rfl, F', FR', hb, HS3.out.trans hs⟩
    clear hz
    go_wp2_with fail
    go_ret
    exact HFIN.out
  rw [if_neg h2] at hr2
  have e2 : (od == 2) = false := by rw [beq_eq_false_iff_ne]; omega
  clear h2
  by_cases h3 : od = 3
  · subst h3
    rw [if_neg (by decide), if_neg (by decide), if_neg (by decide)] at hr2
    subst hr2
    clear e0 e1 e2
    have HRD := Lib.hid (HI.out.read (g := ⟨gc, gl, gb, gp, gs⟩) p)
    obtain ⟨⟨xs, ys, ec⟩, hRD⟩ : ∃ R, readOf ⟨gc, gl, gb, gp, gs⟩ S1 p = R := ⟨_, rfl⟩
    rw [hRD] at HRD
    have HRE := Lib.hid hRD
    clear hRD
    (go_wp2_with fail); refine (nandRead_any HB3.out.dn p).mono ?_
    intro e w4 hp
    rw [HRE.out] at hp
    obtain ⟨va, vb, rfl, oa, ob, hb⟩ := hp
    have HB4 := Lib.hid (HB3.out.keep hb)
    have HS4 := Lib.hid (HS3.out.below hb)
    have HA4 := Lib.hid oa
    have HO4 := Lib.hid ob
    have hc4 := fun (o : Nat) => World.cell?_of_block (a := ⟨w.heap.size, o, none⟩) (hb.block w.heap.size hdl)
    have f3 : w4.cell? ⟨w.heap.size, 3, none⟩ = some (.int .i64 p) := (hc4 3).trans d3
    have hdl4 := Nat.lt_of_lt_of_le hdl hb.size
    clear hb oa ob hc4 d0 d1 d2 d3 d6 hdl
    (go_wp2_with fail); refine (ref08Read_any HB4.out.rn hm p HO.out.ip).mono ?_
    intro e w5 hp
    rw [HRE.out] at hp
    obtain ⟨xa, xb, rfl, ox, oy, hb⟩ := hp
    have HB5 := Lib.hid (HB4.out.keep hb)
    have HS5 := Lib.hid (HS4.out.below hb)
    obtain ⟨s1, hs1⟩ : ∃ x, strOfNums xs = x := ⟨_, rfl⟩
    obtain ⟨s2, hs2⟩ : ∃ x, strOfNums ys = x := ⟨_, rfl⟩
    have q1 := own_str (P := Try.prog) Try.underlying45 Try.underlying5 Try.underlying9 (own_below HA4.out hb) (by have := HRD.out.1; omega)
    have q2 := own_str (P := Try.prog) Try.underlying45 Try.underlying5 Try.underlying9 (own_below HO4.out hb) (by have := HRD.out.2; omega)
    have q3 := own_str (P := Try.prog) Try.underlying45 Try.underlying5 Try.underlying9 ox (by have : xs.length ≤ 100 := HRD.out.1; show xs.length ≤ _; omega)
    have q4 := own_str (P := Try.prog) Try.underlying45 Try.underlying5 Try.underlying9 oy (by have : ys.length ≤ 100 := HRD.out.2; show ys.length ≤ _; omega)
    rw [hs1] at q1 q3
    rw [hs2] at q2 q4
    have HFIN : Hid (DoesPost w F FR d r ⟨gc, gl, gb, gp, gs⟩ S1 (m + 1) (.returned (.bool true)) w5) := ⟨rfl, F, FR, ⟨HB5.out.dn, HB5.out.rn.more (Nat.le_succ m), HB5.out.ap⟩, HS5.out⟩
    clear hb ox oy hs1 hs2 f3 hdl4
    go_wp2_with fail
    go_ret
    exact HFIN.out
  have e3 : (od == 3) = false := by rw [beq_eq_false_iff_ne]; omega
  clear h3
  by_cases h4 : od = 4
  · subst h4
    rw [if_pos rfl] at hr2
    have HR2 := Lib.hid hr2
    clear hr2 e0 e1 e2 e3
    obtain ⟨⟨X, S2⟩, hX⟩ : ∃ X, retireTo ⟨gc, gl, gb, gp, gs⟩ S u b = X := ⟨_, rfl⟩
    rw [hX] at HR2
    have HX := Lib.hid hX
    obtain rfl : S1 = S2 := HR2.out
    clear hX
    go_wp2_with fail
    refine wp_region_2 12 5 11 (DS w3 F FR d r ⟨gc, gl, gb, gp, gs⟩ S S1 m) (by kernel_rfl) (by kernel_rfl) (DS.start HB3.out) ?_
    simp only [List.take_succ_cons, List.take_zero, List.drop_succ_cons, List.drop_zero]
    refine SeqW.pure (v := ?_) (HDS.out S1) (by decide) (by decide) rfl (fun b' c' wz hz => ?_) ?_; rotate_left; (obtain ⟨F', FR', hb, hs⟩ := hz; have hzc := hs.cell hdl hnd hnr; clear hb hs; go_simp; first | exact UponS.value (Since.refl _) | exact UponS.skip (Since.refl _)); (try simp only [Act.put, List.setIfInBounds_toArray, List.set_cons_zero, List.set_cons_succ])
    refine SeqW.pure (v := ?_) (HDS.out S1) (by decide) (by decide) rfl (fun b' c' wz hz => ?_) ?_; rotate_left; (obtain ⟨F', FR', hb, hs⟩ := hz; have hzc := hs.cell hdl hnd hnr; clear hb hs; go_simp; first | exact UponS.value (Since.refl _) | exact UponS.skip (Since.refl _)); (try simp only [Act.put, List.setIfInBounds_toArray, List.set_cons_zero, List.set_cons_succ])
    refine SeqW.pure (v := ?_) (HDS.out S1) (by decide) (by decide) rfl (fun b' c' wz hz => ?_) ?_; rotate_left; (obtain ⟨F', FR', hb, hs⟩ := hz; have hzc := hs.cell hdl hnd hnr; clear hb hs; go_simp; first | exact UponS.value (Since.refl _) | exact UponS.skip (Since.refl _)); (try simp only [Act.put, List.setIfInBounds_toArray, List.set_cons_zero, List.set_cons_succ])
    refine SeqW.pure (v := ?_) (HDS.out S1) (by decide) (by decide) rfl (fun b' c' wz hz => ?_) ?_; rotate_left; (obtain ⟨F', FR', hb, hs⟩ := hz; have hzc := hs.cell hdl hnd hnr; clear hb hs; go_simp; first | exact UponS.value (Since.refl _) | exact UponS.skip (Since.refl _)); (try simp only [Act.put, List.setIfInBounds_toArray, List.set_cons_zero, List.set_cons_succ])
    refine SeqW.pure (v := ?_) (HDS.out S1) (by decide) (by decide) rfl (fun b' c' wz hz => ?_) ?_; rotate_left; (obtain ⟨F', FR', hb, hs⟩ := hz; have hzc := hs.cell hdl hnd hnr; clear hb hs; go_simp; first | exact UponS.value (Since.refl _) | exact UponS.skip (Since.refl _)); (try simp only [Act.put, List.setIfInBounds_toArray, List.set_cons_zero, List.set_cons_succ])
    refine SeqW.one (v := .int .i64 X) rfl (by decide) (by decide) rfl (fun c' wz hz => ?_) ?_
    · go_simp
      refine UponS.call ?_
      go_at_call 48
      refine hz.one fun F' FR' hn hs => ?_
      have hc := nandRetire_any hn u b
      rw [HX.out] at hc
      exact hc
    (try simp only [Act.put, List.setIfInBounds_toArray, List.set_cons_zero, List.set_cons_succ])
    refine SeqW.pure (v := ?_) (HDS.out S1) (by decide) (by decide) rfl (fun b' c' wz hz => ?_) ?_; rotate_left; (obtain ⟨F', FR', hb, hs⟩ := hz; have hzc := hs.cell hdl hnd hnr; clear hb hs; go_simp; first | exact UponS.value (Since.refl _) | exact UponS.skip (Since.refl _)); (try simp only [Act.put, List.setIfInBounds_toArray, List.set_cons_zero, List.set_cons_succ])
    refine SeqW.pure (v := ?_) (HDS.out S1) (by decide) (by decide) rfl (fun b' c' wz hz => ?_) ?_; rotate_left; (obtain ⟨F', FR', hb, hs⟩ := hz; have hzc := hs.cell hdl hnd hnr; clear hb hs; go_simp; first | exact UponS.value (Since.refl _) | exact UponS.skip (Since.refl _)); (try simp only [Act.put, List.setIfInBounds_toArray, List.set_cons_zero, List.set_cons_succ])
    refine SeqW.pure (v := ?_) (HDS.out S1) (by decide) (by decide) rfl (fun b' c' wz hz => ?_) ?_; rotate_left; (obtain ⟨F', FR', hb, hs⟩ := hz; have hzc := hs.cell hdl hnd hnr; clear hb hs; go_simp; first | exact UponS.value (Since.refl _) | exact UponS.skip (Since.refl _)); (try simp only [Act.put, List.setIfInBounds_toArray, List.set_cons_zero, List.set_cons_succ])
    refine SeqW.pure (v := ?_) (HDS.out S1) (by decide) (by decide) rfl (fun b' c' wz hz => ?_) ?_; rotate_left; (obtain ⟨F', FR', hb, hs⟩ := hz; have hzc := hs.cell hdl hnd hnr; clear hb hs; go_simp; first | exact UponS.value (Since.refl _) | exact UponS.skip (Since.refl _)); (try simp only [Act.put, List.setIfInBounds_toArray, List.set_cons_zero, List.set_cons_succ])
    refine SeqW.pure (v := ?_) (HDS.out S1) (by decide) (by decide) rfl (fun b' c' wz hz => ?_) ?_; rotate_left; (obtain ⟨F', FR', hb, hs⟩ := hz; have hzc := hs.cell hdl hnd hnr; clear hb hs; go_simp; first | exact UponS.value (Since.refl _) | exact UponS.skip (Since.refl _)); (try simp only [Act.put, List.setIfInBounds_toArray, List.set_cons_zero, List.set_cons_succ])
    refine SeqW.two (v := .int .i64 X) (by decide) rfl (by decide) rfl (fun b' wz hz => ?_) ?_
    · go_simp
      refine UponS.call ?_
      go_at_call 107
      refine hz.two fun F' FR' hn hs => ?_
      have hc := (ref08Retire_any hn u b).mono fun _ _ h => RNPost.more h (Nat.le_succ m)
      rw [HX.out] at hc
      exact hc
    (try simp only [Act.put, List.setIfInBounds_toArray, List.set_cons_zero, List.set_cons_succ])
    intro w4 hz
    have hz : DS w3 F FR d r ⟨gc, gl, gb, gp, gs⟩ S S1 m true true w4 := hz
    have HFIN : Hid (DoesPost w F FR d r ⟨gc, gl, gb, gp, gs⟩ S1 (m + 1) (.returned (.bool true)) w4) := by
      obtain ⟨F', FR', hb, hs⟩ := hz
      exact ⟨rfl, F', FR', hb, HS3.out.trans hs⟩
    clear hz
    go_wp2_with fail
    go_ret
    exact HFIN.out
  rw [if_neg h4] at hr2
  have e4 : (od == 4) = false := by rw [beq_eq_false_iff_ne]; omega
  clear h4
  by_cases h5 : od = 5
  · subst h5
    rw [if_pos rfl] at hr2
    have hpl := HO.out.len
    simp only at hpl
    clear e0 e1 e2 e3 e4
    by_cases h100 : zs.length ≤ 100
    · rw [if_pos h100] at hr2
      have HR2 : Hid (S1 = { S with plan := zs, many := 0 }) := hr2
      have hp1 : (pl : Int) ≤ 100 := by omega
      have HSL := Lib.hid (HO.out.sl h100)
      clear hr2 hpl h100
      (go_wp2_with fail); refine (nandPlan_any HB3.out.dn (.slice pa pl pc) zs (HS3.out.slq HSL.out).sl HO.out.isB).mono ?_
      intro e w4 hp
      obtain ⟨rfl, F4, hb4, hs4⟩ := HB3.out.dpost hp
      have HB4 := Lib.hid hb4
      have HS4 := Lib.hid (HS3.out.trans hs4)
      have hc4 := hs4.cell hdl hnd hnr
      have f6 : w4.cell? ⟨w.heap.size, 6, none⟩ = some (.slice pa pl pc) := (hc4 6).trans d6
      have hdl4 := Nat.lt_of_lt_of_le hdl hs4.only.size
      clear hp hb4 hs4 hc4 d0 d1 d2 d3 d6 hdl hp1
      (go_wp2_with fail); refine (ref07New_any (.slice pa pl pc) zs _ (HS4.out.slq HSL.out).sl).mono ?_
      intro e w5 hp
      obtain ⟨pp, lv2, rfl, hpb, hpl, hpn, hb⟩ := hp
      obtain ⟨FR5, hb5, hs5⟩ := HB4.out.newPlan hb hpb hpl hpn HO.out.isB 0
      have HFIN : Hid (DoesPost w F FR d r ⟨gc, gl, gb, gp, gs⟩ S1 (m + 1) (.returned (.bool true)) (w5.setCell ⟨r, 5, none⟩ (.pointer (some ⟨pp, 0, none⟩)))) := by
        show DoesPost _ _ _ _ _ _ _ _ _ _
        rw [HR2.out]
        exact ⟨rfl, F4, FR5, ⟨hb5.dn, hb5.rn.more (Nat.le_succ m), hb5.ap⟩, HS4.out.trans hs5⟩
      obtain ⟨L0, n0, evs, pb, nx, wrr, rt, lv, lg, hr⟩ := HB4.out.rn.below hb
      have r5 := hr.blk.cell 5
      have fr5 := hr.blk.free 5
      have hrl5 := hr.blk.lt
      clear hb hpb hpl hpn hb5 hs5 hr f6 hdl4
      go_wp2_with fail
      go_ret
      exact HFIN.out
    · rw [if_neg h100] at hr2
      obtain rfl : S1 = S := hr2
      have hp1 : ¬ (pl : Int) ≤ 100 := by omega
      have HFIN : Hid (DoesPost w F FR d r ⟨gc, gl, gb, gp, gs⟩ S1 (m + 1) (.returned (.bool true)) w3) := ⟨rfl, F, FR, ⟨HB3.out.dn, HB3.out.rn.more (Nat.le_succ m), HB3.out.ap⟩, HS3.out⟩
      clear hpl h100
      go_wp2_with fail
      go_ret
      exact HFIN.out
  rw [if_neg h5] at hr2
  have e5 : (od == 5) = false := by rw [beq_eq_false_iff_ne]; omega
  clear h5
  by_cases h6 : od = 6
  · subst h6
    rw [if_pos rfl] at hr2
    have HR2 : Hid (S1 = { S with off := false }) := hr2
    clear hr2 e0 e1 e2 e3 e4 e5
    (go_wp2_with fail); refine (nandPower_any HB3.out.dn).mono ?_
    intro e w4 hp
    obtain ⟨rfl, F4, hb4, hs4⟩ := HB3.out.dpost hp
    have HB4 := Lib.hid hb4
    have HS4 := Lib.hid (HS3.out.trans hs4)
    obtain ⟨hb5, hs5⟩ := HB4.out.rOff false
    have HFIN : Hid (DoesPost w F FR d r ⟨gc, gl, gb, gp, gs⟩ S1 (m + 1) (.returned (.bool true)) (w4.setCell ⟨r, 10, none⟩ (.bool false))) := by
      show DoesPost _ _ _ _ _ _ _ _ _ _
      rw [HR2.out]
      exact ⟨rfl, F4, FR, ⟨hb5.dn, hb5.rn.more (Nat.le_succ m), hb5.ap⟩, HS4.out.trans hs5⟩
    obtain ⟨L0, n0, evs, pb, nx, wrr, rt, lv, lg, hr⟩ := HB4.out.rn
    have r5 := hr.blk.cell 10
    have fr5 := hr.blk.free 10
    have hrl5 := hr.blk.lt
    clear hp hb4 hs4 hb5 hs5 hr d0 d1 d2 d3 d6 hdl
    go_wp2_with fail
    go_ret
    exact HFIN.out
  rw [if_neg h6] at hr2
  subst hr2
  have e6 : (od == 6) = false := by rw [beq_eq_false_iff_ne]; omega
  clear h6
  have HFIN : Hid (DoesPost w F FR d r ⟨gc, gl, gb, gp, gs⟩ S1 (m + 1) (.returned (.bool true)) w3) := ⟨rfl, F, FR, ⟨HB3.out.dn, HB3.out.rn.more (Nat.le_succ m), HB3.out.ap⟩, HS3.out⟩
  go_wp2_with fail
  go_ret
  exact HFIN.out

end Go.Proofs.Ytlkapaecaeldpaa
