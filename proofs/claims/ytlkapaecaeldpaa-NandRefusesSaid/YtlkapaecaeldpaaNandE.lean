/-
  Package nand: Program.
-/
import Derived.Test.YtlkapaecaeldpaaNandD
import Derived.Test.YtlkapaecaeldpaaGeom3
import Derived.Test.YtlkapaecaeldpaaRegT
set_option linter.unusedVariables false
set_option linter.unusedSimpArgs false
set_option maxRecDepth 16384
namespace Go.Proofs.Ytlkapaecaeldpaa
open Go.RowKit

/-- append to an empty literal: nothing that was there is touched -/
theorem run_append_fresh {P : Program} {w : World} (base : Nat) (t ty e : TypeId) (i : TypeInfo) (z : Value) (bytes : Nat) (ht : P.underlying t = some (.slice e)) (hi : P.info? e = some i) (hz : i.zero = some z)
    (hsize : i.size = 1) (hby : i.bytes = bytes) (hzs : z.cells.size = 1)
    (g : Nat) (hbg : base ≤ g) (hb : base ≤ w.heap.size) (hk : Blk w g e [])
    (B : Nat) (x : Value) (news : List Value) (hx : Sl w B x news) (h63 : news.length ≤ maxLen) (hbytes : news.length * bytes ≤ 140737488355328) :
    ∃ v' w', (Builtin.append_ #[t, t] ty #[.slice (some ⟨g, 0, none⟩) 0 0, x]).run P w = .ok v' w' ∧ w'.ownsRow base e 1 v' news.length news ∧ Since w w' := by
  have hown : w.ownsRow base e 1 (.slice (some ⟨g, 0, none⟩) 0 0) 0 [] := hk.own hbg (by simp)
  obtain ⟨a, cap, rfl, _, _, hnil, h3⟩ := hx
  by_cases h0 : news = []
  · subst h0
    refine ⟨_, w, ?_, hown, Since.refl w⟩
    cases a with
    | none =>
      obtain rfl := hnil rfl
      exact run_append_owned_none w base t ty e i 1 ht hi _ 0 [] hown
    | some ad =>
      have hf := run_firstCells_some (P := P) w i.size 0 ad 0 cap [] (by simp) (by simp)
      simp [Builtin.append_, run_underlying ht, sizeOf, typeInfo, hi, Builtin.lenOf, hf, storeCells]
  · rcases h3 with rfl | ⟨b, off, rfl, _, _, h6⟩
    · exact absurd rfl h0
    · have hpos : 0 < news.length := List.length_pos_iff.2 h0
      obtain ⟨v', w', hr, h2, h4⟩ := run_append_arg_grows (P := P) w t ty e i z 1 bytes ht hi hz hsize hby hzs (by decide) ⟨g, 0, none⟩ 0 0 [] (by simp) (by simp) ⟨b, off, none⟩ news.length cap news (by simp) (fun j u hu => by rw [addr_add]; exact h6 j u hu) (by omega) (by omega) (by rw [Nat.zero_add]; exact hbytes)
      refine ⟨v', w', hr, ?_, ⟨h4.os, h4.tape, h4.output, h4.size, fun k hk => h4.block k hk (by simp)⟩⟩
      have h5 := h2
      rw [Nat.zero_add, List.nil_append] at h5
      refine ⟨h5.1, ?_⟩
      rcases h5.2 with h7 | ⟨g', c', cur, h8, h9, h10⟩
      · exact .inl h7
      · exact .inr ⟨g', c', cur, h8, Nat.le_trans hb h9, h10⟩

/-- the sectors behind the programming of a page's first ones -/
def setPage (g : Geo) (sec : Nat → Option (List Int × List Int)) (u n page keep : Int) (data oob : List (List Int)) : Nat → Option (List Int × List Int) := fun a =>
  if (a : Int) < g.all ∧ (g.ofP a).unit = u ∧ (g.ofP a).block = n ∧ (g.ofP a).page = page ∧ (g.ofP a).sector < keep then some (data.getD (g.ofP a).sector.toNat [], oob.getD (g.ofP a).sector.toNat []) else sec a

/-- what Program tells, and what is there behind it -/
def progTo (g : Geo) (S : NSt) (u n page : Int) (data oob : List (List Int)) : Int × NSt :=
  if S.off = true then (5, S) else
  match findIx g u n with
  | none => (1, S.bad)
  | some i =>
    if 0 ≤ page ∧ page < g.pages ∧ sizedB data g.sectors 16 = true ∧ sizedB oob g.sectors 17 = true then
      if S.ret i = true then (10, S.bad)
      else if S.next i ≠ page then (7, S.bad)
      else
        (endE (nextP S.plan g.sectors).1 8,
          NSt.cut { S with next := fun j => if j = i then page + 1 else S.next j, plan := S.plan.tail, many := IntKind.i64.wrap (S.many + 1),
                           sec := setPage g S.sec u n page (if (nextP S.plan g.sectors).1 = 0 then g.sectors else (nextP S.plan g.sectors).2) data oob } (nextP S.plan g.sectors).1)
    else (1, S.bad)

theorem findIx_in {g : Geo} {u n : Int} {i : Nat} (h : findIx g u n = some i) : 0 ≤ u ∧ u < g.chans * g.luns ∧ 0 ≤ n ∧ n < g.blocks := by
  unfold findIx at h
  split at h
  · assumption
  · cases h

/-- a sector's address, and the place of it -/
theorem adr_of {g : Geo} (hok : g.okB = true) {u n page : Int} {j : Nat} (hu : 0 ≤ u ∧ u < g.chans * g.luns ∧ 0 ≤ n ∧ n < g.blocks) (hp : 0 ≤ page ∧ page < g.pages) (hj : (j : Int) < g.sectors) :
    ∃ a : Nat, g.numN ⟨u, n, page, j⟩ = a ∧ g.numE ⟨u, n, page, j⟩ = 0 ∧ (a : Int) < g.all ∧ g.ofP a = ⟨u, n, page, j⟩ ∧ ∀ b : Nat, (b : Int) < g.all → g.ofP b = ⟨u, n, page, j⟩ → b = a := by
  have hin : g.inB ⟨u, n, page, j⟩ = true := by
    unfold Geo.inB Geo.units
    rw [decide_eq_true_eq]
    exact ⟨⟨hu.1, hu.2.1⟩, ⟨hu.2.2.1, hu.2.2.2⟩, hp, Int.natCast_nonneg j, hj⟩
  obtain ⟨h1, h2⟩ := (Geo.num_ok g hok ⟨u, n, page, j⟩).1 hin
  have h3 := Geo.ix_in (Geo.in_of hin)
  obtain ⟨a, ha⟩ : ∃ a : Nat, g.ix ⟨u, n, page, j⟩ = a := ⟨(g.ix ⟨u, n, page, j⟩).toNat, by omega⟩
  have h4 := (Geo.of_ix (Geo.ok_of hok) (Geo.in_of hin)).1
  rw [ha] at h3 h4 h1
  refine ⟨a, h1, h2, h3.2, h4, fun b hb he => ?_⟩
  have h5 := (Geo.of_in (Geo.ok_of hok) (show (0 : Int) ≤ b by omega) hb).2
  rw [he, ha] at h5
  omega

/-- one sector more -/
theorem setPage_step {g : Geo} (hok : g.okB = true) {sec : Nat → Option (List Int × List Int)} {u n page : Int} {j : Nat} {data oob : List (List Int)} {a : Nat} (ha : (a : Int) < g.all) (hof : g.ofP a = ⟨u, n, page, j⟩) (hun : ∀ b : Nat, (b : Int) < g.all → g.ofP b = ⟨u, n, page, j⟩ → b = a) {x y : List Int} (hx : data[j]? = some x) (hy : oob[j]? = some y) (b : Nat) :
    setPage g sec u n page (j + 1 : Nat) data oob b = if b = a then some (x, y) else setPage g sec u n page j data oob b := by
  unfold setPage
  by_cases hb : b = a
  · subst hb
    rw [if_pos rfl, hof]
    rw [if_pos ⟨ha, rfl, rfl, rfl, show (j : Int) < ((j + 1 : Nat) : Int) by omega⟩, List.getD_eq_getElem?_getD, List.getD_eq_getElem?_getD, Int.toNat_natCast, hx, hy]
    rfl
  · rw [if_neg hb]
    by_cases hc : (b : Int) < g.all ∧ (g.ofP b).unit = u ∧ (g.ofP b).block = n ∧ (g.ofP b).page = page ∧ (g.ofP b).sector < (j + 1 : Nat)
    · have hs : (g.ofP b).sector ≠ j := fun e => hb (hun b hc.1 (by
        obtain ⟨q1, q2, q3, q4⟩ := hc.2
        have : g.ofP b = ⟨(g.ofP b).unit, (g.ofP b).block, (g.ofP b).page, (g.ofP b).sector⟩ := rfl
        rw [this, q1, q2, q3, e]))
      rw [if_pos hc, if_pos ⟨hc.1, hc.2.1, hc.2.2.1, hc.2.2.2.1, by have := hc.2.2.2.2; omega⟩]
    · rw [if_neg hc, if_neg (fun h => hc ⟨h.1, h.2.1, h.2.2.1, h.2.2.2.1, by have := h.2.2.2.2; omega⟩)]

theorem setPage_zero (g : Geo) (hok : g.okB = true) (sec : Nat → Option (List Int × List Int)) (u n page : Int) (data oob : List (List Int)) : setPage g sec u n page (0 : Nat) data oob = sec := by
  funext a
  unfold setPage
  by_cases ha : (a : Int) < g.all
  · have hin := (Geo.of_in (Geo.ok_of hok) (show (0 : Int) ≤ a by omega) ha).1
    have h0 := hin.s.1
    rw [if_neg (by omega)]
  · rw [if_neg (fun h => ha h.1)]


/-- what is known within the store of a sector -/
def SecJ (base : Nat) (xs ys : List Int) (i : Nat) (v : Value) (lo hi : Nat) (w : World) : Prop :=
  match i with
  | 5 => ∃ g, v = .slice (some ⟨g, 0, none⟩) 0 0 ∧ base ≤ g ∧ Blk w g 5 []
  | 10 => w.ownsRow base 5 1 v xs.length (bv xs)
  | 11 => ∃ g, v = .slice (some ⟨g, 0, none⟩) 0 0 ∧ base ≤ g ∧ Blk w g 5 []
  | 16 => w.ownsRow base 5 1 v ys.length (bv ys)
  | 17 => ∃ vx vy, v = .agg #[vx, vy] ∧ w.ownsRow base 5 1 vx xs.length (bv xs) ∧ w.ownsRow base 5 1 vy ys.length (bv ys)
  | _ => True
theorem SecJ.keep {base : Nat} {xs ys : List Int} (i : Nat) (v : Value) (lo hi : Nat) (w w' : World) (h : SecJ base xs ys i v lo hi w) (hs : Since w w') : SecJ base xs ys i v lo hi w' := by
  unfold SecJ at *
  split at h
  · obtain ⟨g, h1, h2, h3⟩ := h; exact ⟨g, h1, h2, h3.below hs⟩
  · exact own_below h hs
  · obtain ⟨g, h1, h2, h3⟩ := h; exact ⟨g, h1, h2, h3.below hs⟩
  · exact own_below h hs
  · obtain ⟨vx, vy, h1, h2, h3⟩ := h; exact ⟨vx, vy, h1, own_below h2 hs, own_below h3 hs⟩
  · trivial

theorem NandRaw.setNext {w : World} {F : Nat → Prop} {d : Nat} {g : Geo} {S : NSt} {pb bb mb : Nat} {lv : Value} {f : Nat → Option Value} (H : NandRaw w F d g S pb bb mb lv f) {i : Nat} (hi : i < g.nb) (x : Int) :
    NandRaw (w.setCell ⟨bb, i * 3, none⟩ (.int .i64 x)) F d g { S with next := fun j => if j = i then x else S.next j } pb bb mb lv f := by
  refine H.blockB (by simp) (fun k _ hk => Below.heap_setCell _ _ _ _ hk) fun j hj => ?_
  obtain ⟨h1, h2, h3⟩ := H.bls j hj
  have e1 := h1.set (b2 := bb) (o2 := i * 3) (.int .i64 x)
  have e2 := h2.set (b2 := bb) (o2 := i * 3) (.int .i64 x)
  have e3 := h3.set (b2 := bb) (o2 := i * 3) (.int .i64 x)
  rw [if_neg (by omega)] at e2 e3
  refine ⟨?_, e2, e3⟩
  by_cases hji : j = i
  · subst hji
    rw [if_pos ⟨rfl, rfl⟩] at e1
    rw [if_pos rfl]
    exact e1
  · rw [if_neg (by omega)] at e1
    rw [if_neg hji]
    exact e1

theorem keyed_int : Maps.Keyed Try.prog 3 := Maps.int_keyed Try.underlying3

/-- what stays where data came in: blocks that were there and are not the device's -/
def Away (F : Nat → Prop) (n k : Nat) : Prop := ¬ F k ∧ k < n

/-- what is known within the asking of the plan -/
def PlanJ (r1 r2 : Int) (i : Nat) (v : Value) (lo hi : Nat) (w : World) : Prop :=
  match i with
  | 9 => v = .tuple #[.int .i64 r1, .int .i64 r2]
  | 10 => v = .tuple #[.int .i64 r1, .int .i64 r2]
  | 11 => v = .int .i64 r1
  | 12 => v = .int .i64 r2
  | 13 => v = .int .i64 r1
  | _ => True
theorem PlanJ.keep {r1 r2 : Int} (i : Nat) (v : Value) (lo hi : Nat) (w w' : World) (h : PlanJ r1 r2 i v lo hi w) (hs : Since w w') : PlanJ r1 r2 i v lo hi w' := h

theorem OnlyF.cellD {w w' : World} {d pb : Nat} (h : OnlyF (fun k => k = pb) w w') (hd : d ≠ pb) (hl : d < w.heap.size) (o : Nat) : w'.cell? ⟨d, o, none⟩ = w.cell? ⟨d, o, none⟩ :=
  World.cell?_of_block (a := ⟨d, o, none⟩) (h.block d hl hd)

theorem NandPost.from {w w1 : World} {F F1 : Nat → Prop} {d : Nat} {g : Geo} {r : Value} {S : NSt} {e : Ending} {w' : World} (h : NandPost w1 F1 d g r S e w') (ho : OnlyF F w w1) (hf : Fresh F F1 w.heap.size) : NandPost w F d g r S e w' := by
  obtain ⟨h1, F', h2, h3, h4⟩ := h
  exact ⟨h1, F', h2, ho.trans hf h3, hf.trans h4 ho.size⟩

theorem nextP_le {p : List Int} (hb : ∀ x ∈ p, IsB x) {s : Int} (hs : 0 ≤ s) : 0 ≤ (nextP p s).2 ∧ (nextP p s).2 ≤ s := by
  unfold nextP
  split
  · exact ⟨by simp, hs⟩
  · split
    · rename_i b t _
      have h1 := Int.emod_nonneg (b / 4) (show s + 1 ≠ 0 by omega)
      have h2 := Int.emod_lt_of_pos (b / 4) (show (0 : Int) < s + 1 by omega)
      exact ⟨h1, by simp only; omega⟩
    · exact ⟨by simp, hs⟩

theorem Sls.away {w w' : World} {F : Nat → Prop} {v : Value} {xss : List (List Int)} (h : Sls w (Away F w.heap.size) v xss) (ho : OnlyF F w w') : Sls w' (Away F w.heap.size) v xss := h.keep ho.size fun k hk ha => ho.block k hk ha.1

set_option maxHeartbeats 4000000 in
theorem nandProgram_any {w : World} {F : Nat → Prop} {d : Nat} {g : Geo} {S : NSt} (H : NandAt w F d g S) (u n page : Int) (vd vo : Value) (data oob : List (List Int))
    (hd : Sls w (Away F w.heap.size) vd data) (ho : Sls w (Away F w.heap.size) vo oob) :
    Calls Try.prog 23 #[.pointer (some ⟨d, 0, none⟩), .int .i64 u, .int .i64 n, .int .i64 page, vd, vo] w fun e w' => NandPost w F d g (.int .i64 (progTo g S u n page data oob).1) (progTo g S u n page data oob).2 e w' := by
  obtain ⟨pb, bb, mb, lv, f, H⟩ := H
  have HH := Lib.hid H
  have HD := Lib.hid hd
  have HOO := Lib.hid ho
  have HP : Hid (progTo g S u n page data oob = if S.off = true then (5, S) else match findIx g u n with
    | none => (1, S.bad)
    | some i => if 0 ≤ page ∧ page < g.pages ∧ sizedB data g.sectors 16 = true ∧ sizedB oob g.sectors 17 = true then
        if S.ret i = true then (10, S.bad)
        else if S.next i ≠ page then (7, S.bad)
        else (endE (nextP S.plan g.sectors).1 8, NSt.cut { S with next := fun j => if j = i then page + 1 else S.next j, plan := S.plan.tail, many := IntKind.i64.wrap (S.many + 1), sec := setPage g S.sec u n page (if (nextP S.plan g.sectors).1 = 0 then g.sectors else (nextP S.plan g.sectors).2) data oob } (nextP S.plan g.sectors).1)
      else (1, S.bad)) := Lib.hid rfl
  obtain ⟨ad, cd, rfl, hd1, hd2, _⟩ := hd
  obtain ⟨ao, co, rfl, ho1, ho2, _⟩ := ho
  obtain ⟨R, hR⟩ : ∃ R, progTo g S u n page data oob = R := ⟨_, rfl⟩
  rw [hR] at HP
  rw [hR]
  clear hR
  have hgo := Geo.ok_of H.ok
  have hs4 := hgo.s
  have hp32 := hgo.p
  have HGW := Lib.hid hgo.wf
  obtain ⟨c, l, b, p, s⟩ := g
  simp only at HP hs4 hp32
  obtain ⟨hs1, hs4⟩ := hs4
  obtain ⟨sn, rfl⟩ : ∃ sn : Nat, s = sn := ⟨s.toNat, by omega⟩
  have hp32 : p ≤ 32 := hp32.2
  have hdb := H.blk; have n0 : w.cell? ⟨d, 0, none⟩ = some (.bool S.off) := hdb.cell 0; have n1 : w.cell? ⟨d, 1, none⟩ = some (.int .i64 c) := hdb.cell 1; have n2 : w.cell? ⟨d, 2, none⟩ = some (.int .i64 l) := hdb.cell 2; have n3 : w.cell? ⟨d, 3, none⟩ = some (.int .i64 b) := hdb.cell 3; have n4 : w.cell? ⟨d, 4, none⟩ = some (.int .i64 p) := hdb.cell 4; have n5 : w.cell? ⟨d, 5, none⟩ = some (.int .i64 (sn : Int)) := hdb.cell 5; have n6 : w.cell? ⟨d, 6, none⟩ = some (.pointer (some ⟨pb, 0, none⟩)) := hdb.cell 6; have n7 : w.cell? ⟨d, 7, none⟩ = some (.slice (some ⟨bb, 0, none⟩) (Geo.nb ⟨c, l, b, p, sn⟩) (Geo.nb ⟨c, l, b, p, sn⟩)) := hdb.cell 7; have n8 : w.cell? ⟨d, 8, none⟩ = some (.map (some mb)) := hdb.cell 8; have n9 : w.cell? ⟨d, 9, none⟩ = some (.int .i64 S.wrong) := hdb.cell 9; have nlt := hdb.lt; clear hdb
  clear H hgo
  obtain ⟨O, hO⟩ : ∃ O, S.off = O := ⟨_, rfl⟩
  rw [hO] at n0
  by_cases hoff : O = true
  · subst hoff
    have HFIN : Hid (NandPost w F d ⟨c, l, b, p, sn⟩ (.int .i64 R.1) R.2 (.returned (.int .i64 5)) w) := by
      show NandPost _ _ _ _ _ _ _ _
      rw [HP.out, if_pos hO]
      exact ⟨rfl, F, ⟨pb, bb, mb, lv, f, HH.out⟩, OnlyF.refl _ _, Fresh.refl _ _⟩
    clear hO
    go_enter Try.func23, Try.ntmps23
    go_wp2_with fail
    go_ret
    exact HFIN.out
  obtain rfl : O = false := by simpa using hoff
  have hp2 := HP.out
  rw [if_neg (by rw [hO]; decide)] at hp2
  have HP2 := Lib.hid hp2
  clear hO hoff HP hp2
  go_enter Try.func23, Try.ntmps23
  (go_wp2_with fail); refine (nandFind_any HH.out u n).mono ?_
  rintro e w1 ⟨rfl, hb⟩
  have H1 := Lib.hid (HH.out.below hb)
  have HO1 := Lib.hid (OnlyF.below (F := F) hb)
  have HD1 := Lib.hid (HD.out.below hb)
  have HE1 := Lib.hid (HOO.out.below hb)
  have h1 := H1.out
  clear n0 n1 n2 n3 n4 n5 n6 n7 n8 n9
  have hdb := h1.blk; have n0 : w1.cell? ⟨d, 0, none⟩ = some (.bool S.off) := hdb.cell 0; have n1 : w1.cell? ⟨d, 1, none⟩ = some (.int .i64 c) := hdb.cell 1; have n2 : w1.cell? ⟨d, 2, none⟩ = some (.int .i64 l) := hdb.cell 2; have n3 : w1.cell? ⟨d, 3, none⟩ = some (.int .i64 b) := hdb.cell 3; have n4 : w1.cell? ⟨d, 4, none⟩ = some (.int .i64 p) := hdb.cell 4; have n5 : w1.cell? ⟨d, 5, none⟩ = some (.int .i64 (sn : Int)) := hdb.cell 5; have n6 : w1.cell? ⟨d, 6, none⟩ = some (.pointer (some ⟨pb, 0, none⟩)) := hdb.cell 6; have n7 : w1.cell? ⟨d, 7, none⟩ = some (.slice (some ⟨bb, 0, none⟩) (Geo.nb ⟨c, l, b, p, sn⟩) (Geo.nb ⟨c, l, b, p, sn⟩)) := hdb.cell 7; have n8 : w1.cell? ⟨d, 8, none⟩ = some (.map (some mb)) := hdb.cell 8; have n9 : w1.cell? ⟨d, 9, none⟩ = some (.int .i64 S.wrong) := hdb.cell 9; have nlt := hdb.lt; clear hdb
  clear hb h1
  cases hf : findIx ⟨c, l, b, p, sn⟩ u n with
  | none =>
    have HRX : Hid (R = (1, S.bad)) := by show _ = _; rw [HP2.out, hf]
    clear hf HP2
    simp only [ptrO]
    (go_wp2_with fail); refine (nandRefuse_any H1.out 1).mono ?_
    intro e w9 hp
    obtain ⟨rfl, hq⟩ := hp
    have HFIN : Hid (NandPost w F d ⟨c, l, b, p, sn⟩ (.int .i64 R.1) R.2 (.returned (.int .i64 1)) w9) := by
      show NandPost _ _ _ _ _ _ _ _
      rw [HRX.out]
      exact NandPost.from (F1 := F) ⟨rfl, hq⟩ HO1.out (Fresh.refl _ _)
    clear hq
    go_wp2_with fail
    go_ret
    exact HFIN.out
  | some i =>
    have HR2 := HP2.out
    rw [hf] at HR2
    simp only at HR2
    have HR := Lib.hid HR2
    have hin := findIx_in hf
    have HIN := Lib.hid hin
    have hilt := findIx_lt hf
    have HILT := Lib.hid hilt
    obtain ⟨x0, x1, x2, y0, y1, y2⟩ := H1.out.cells hilt
    have hbl := World.block_lt_of_cell? w1 _ x0
    simp only at hin hbl
    obtain ⟨hu0, hu1, hn0, hn1⟩ := hin
    clear HR2 hf HP2 hilt
    simp only [ptrO]
    by_cases hp0 : page < 0
    · have HRX : Hid (R = (1, S.bad)) := by show _ = _; rw [HR.out, if_neg (by omega)]
      (go_wp2_with fail); refine (nandRefuse_any H1.out 1).mono ?_
      intro e w9 hp
      obtain ⟨rfl, hq⟩ := hp
      have HFIN : Hid (NandPost w F d ⟨c, l, b, p, sn⟩ (.int .i64 R.1) R.2 (.returned (.int .i64 1)) w9) := by
        show NandPost _ _ _ _ _ _ _ _
        rw [HRX.out]
        exact NandPost.from (F1 := F) ⟨rfl, hq⟩ HO1.out (Fresh.refl _ _)
      clear hq
      go_wp2_with fail
      go_ret
      exact HFIN.out
    by_cases hp1 : p ≤ page
    · have HRX : Hid (R = (1, S.bad)) := by show _ = _; rw [HR.out, if_neg (by omega)]
      (go_wp2_with fail); refine (nandRefuse_any H1.out 1).mono ?_
      intro e w9 hp
      obtain ⟨rfl, hq⟩ := hp
      have HFIN : Hid (NandPost w F d ⟨c, l, b, p, sn⟩ (.int .i64 R.1) R.2 (.returned (.int .i64 1)) w9) := by
        show NandPost _ _ _ _ _ _ _ _
        rw [HRX.out]
        exact NandPost.from (F1 := F) ⟨rfl, hq⟩ HO1.out (Fresh.refl _ _)
      clear hq
      go_wp2_with fail
      go_ret
      exact HFIN.out
    obtain ⟨SD, hSD⟩ : ∃ x, sizedB data (sn : Int) 16 = x := ⟨_, rfl⟩
    obtain ⟨SO, hSO⟩ : ∃ x, sizedB oob (sn : Int) 17 = x := ⟨_, rfl⟩
    have HSD := Lib.hid hSD
    have HSO := Lib.hid hSO
    rw [hSD, hSO] at HR
    clear hSD hSO
    (go_wp2_with fail); refine (nandSized_any _ data _ HD1.out sn 16).mono ?_
    rintro e w2 ⟨rfl, rfl⟩
    rw [HSD.out]
    cases SD with
    | false =>
      have HRX : Hid (R = (1, S.bad)) := by show _ = _; rw [HR.out, if_neg (fun h => absurd h.2.2.1 (by decide))]
      (go_wp2_with fail); refine (nandRefuse_any H1.out 1).mono ?_
      intro e w9 hp
      obtain ⟨rfl, hq⟩ := hp
      have HFIN : Hid (NandPost w F d ⟨c, l, b, p, sn⟩ (.int .i64 R.1) R.2 (.returned (.int .i64 1)) w9) := by
        show NandPost _ _ _ _ _ _ _ _
        rw [HRX.out]
        exact NandPost.from (F1 := F) ⟨rfl, hq⟩ HO1.out (Fresh.refl _ _)
      clear hq
      go_wp2_with fail
      go_ret
      exact HFIN.out
    | true =>
      (go_wp2_with fail); refine (nandSized_any _ oob _ HE1.out sn 17).mono ?_
      rintro e w2 ⟨rfl, rfl⟩
      rw [HSO.out]
      cases SO with
      | false =>
        have HRX : Hid (R = (1, S.bad)) := by show _ = _; rw [HR.out, if_neg (fun h => absurd h.2.2.2 (by decide))]
        (go_wp2_with fail); refine (nandRefuse_any H1.out 1).mono ?_
        intro e w9 hp
        obtain ⟨rfl, hq⟩ := hp
        have HFIN : Hid (NandPost w F d ⟨c, l, b, p, sn⟩ (.int .i64 R.1) R.2 (.returned (.int .i64 1)) w9) := by
          show NandPost _ _ _ _ _ _ _ _
          rw [HRX.out]
          exact NandPost.from (F1 := F) ⟨rfl, hq⟩ HO1.out (Fresh.refl _ _)
        clear hq
        go_wp2_with fail
        go_ret
        exact HFIN.out
      | true =>
        have HR2 := HR.out
        rw [if_pos ⟨by omega, by omega, by simp, by simp⟩] at HR2
        clear HR
        have HR := Lib.hid HR2
        clear HR2
        obtain ⟨RT, hRT⟩ : ∃ x, S.ret i = x := ⟨_, rfl⟩
        rw [hRT] at x2 HR
        clear hRT
        cases RT with
        | true =>
          have HRX : Hid (R = (10, S.bad)) := by show _ = _; rw [HR.out, if_pos rfl]
          (go_wp2_with fail); refine (nandRefuse_any H1.out 10).mono ?_
          intro e w9 hp
          obtain ⟨rfl, hq⟩ := hp
          have HFIN : Hid (NandPost w F d ⟨c, l, b, p, sn⟩ (.int .i64 R.1) R.2 (.returned (.int .i64 10)) w9) := by
            show NandPost _ _ _ _ _ _ _ _
            rw [HRX.out]
            exact NandPost.from (F1 := F) ⟨rfl, hq⟩ HO1.out (Fresh.refl _ _)
          clear hq
          go_wp2_with fail
          go_ret
          exact HFIN.out
        | false =>
          have HR2 := HR.out
          rw [if_neg (by decide)] at HR2
          clear HR
          have HR := Lib.hid HR2
          clear HR2
          by_cases hnx : S.next i = page
          · have HR2 := HR.out
            rw [if_neg (fun h => h hnx)] at HR2
            clear HR
            have HR := Lib.hid HR2
            rw [hnx] at x0
            clear HR2 hnx
            have hwp : IntKind.i64.wrap (page + 1) = page + 1 := wrap_in _ ⟨by omega, by omega⟩
            have H2 := Lib.hid (H1.out.setNext HILT.out (page + 1))
            have HO2 := Lib.hid (HO1.out.setCell (p := ⟨bb, i * 3, none⟩) H1.out.mem.2.2.1 (.int .i64 (page + 1)))
            have hap := H1.out.apart.2.1
            have hlen : data.length = sn ∧ oob.length = sn := by
              have h1 := HSD.out
              have h2 := HSO.out
              unfold sizedB at h1 h2
              rw [decide_eq_true_eq] at h1 h2
              exact ⟨by omega, by omega⟩
            have HLEN := Lib.hid hlen
            have HLX : Hid ((∀ x ∈ data, x.length = 16) ∧ (∀ x ∈ oob, x.length = 17)) := by
              have h1 := HSD.out
              have h2 := HSO.out
              unfold sizedB at h1 h2
              rw [decide_eq_true_eq] at h1 h2
              exact ⟨fun x hx => by have := h1.1 x hx; omega, fun x hx => by have := h2.1 x hx; omega⟩
            have hgo := Geo.ok_of H1.out.ok
            have HALL : Hid (Geo.all ⟨c, l, b, p, sn⟩ ≤ 65536) := by
              obtain ⟨m1, m2, m3, m4, m5', m6, m7, m8, m9, m10⟩ := geo_mul hgo.c.1 hgo.c.2 hgo.l.1 hgo.l.2 hgo.b.1 hgo.b.2 hgo.p.1 hgo.p.2 hgo.s.1 hgo.s.2
              exact m8
            have HPW : Hid (∀ j : Nat, j ≤ 4 → Place.Wf ⟨u, n, page, j⟩) := fun j hj => by
              have hcl : c * l ≤ 4 * 2 := Int.mul_le_mul hgo.c.2 hgo.l.2 (by have := hgo.l.1; simp only at this; omega) (by omega)
              have hb64 := hgo.b.2
              simp only at hb64
              exact ⟨⟨by simp only; omega, by simp only; omega⟩, ⟨by simp only; omega, by simp only; omega⟩, ⟨by simp only; omega, by simp only; omega⟩, ⟨by simp only; omega, by simp only; omega⟩⟩
            clear hgo
            clear hlen
            clear n0 n1 n2 n3 n4 n5 n6 n7 n8 n9
            go_wp2_with fail
            generalize hwa : w1.setCell ⟨bb, i * 3, none⟩ (.int .i64 (page + 1)) = wa at H2 HO2 ⊢
            have h2 := H2.out
            have hdb := h2.blk; have n0 : wa.cell? ⟨d, 0, none⟩ = some (.bool S.off) := hdb.cell 0; have n1 : wa.cell? ⟨d, 1, none⟩ = some (.int .i64 c) := hdb.cell 1; have n2 : wa.cell? ⟨d, 2, none⟩ = some (.int .i64 l) := hdb.cell 2; have n3 : wa.cell? ⟨d, 3, none⟩ = some (.int .i64 b) := hdb.cell 3; have n4 : wa.cell? ⟨d, 4, none⟩ = some (.int .i64 p) := hdb.cell 4; have n5 : wa.cell? ⟨d, 5, none⟩ = some (.int .i64 (sn : Int)) := hdb.cell 5; have n6 : wa.cell? ⟨d, 6, none⟩ = some (.pointer (some ⟨pb, 0, none⟩)) := hdb.cell 6; have n7 : wa.cell? ⟨d, 7, none⟩ = some (.slice (some ⟨bb, 0, none⟩) (Geo.nb ⟨c, l, b, p, sn⟩) (Geo.nb ⟨c, l, b, p, sn⟩)) := hdb.cell 7; have n8 : wa.cell? ⟨d, 8, none⟩ = some (.map (some mb)) := hdb.cell 8; have n9 : wa.cell? ⟨d, 9, none⟩ = some (.int .i64 S.wrong) := hdb.cell 9; have nlt := hdb.lt; clear hdb
            clear h2 hwa x0 x1 x2 y0 y1 y2
            have hle := nextP_le H2.out.leftB (s := sn) (by omega)
            simp only at hle
            obtain ⟨r2, hr2⟩ : ∃ x, nextP S.plan (sn : Int) = x := ⟨_, rfl⟩
            rw [hr2] at hle HR
            obtain ⟨sy, kp⟩ := r2
            simp only at hle HR
            have HR2N := Lib.hid hr2
            have hdp := H2.out.apart.1
            have hdl := H2.out.blk.lt
            clear hr2
            refine wp_region_g 14 [(9, []), (10, [9]), (11, [10]), (12, [10]), (13, [11])] 9 (fun q wz => OnlyF (fun k => k = pb) wa wz ∧ (q = false → NandRaw wz F d ⟨c, l, b, p, sn⟩ { S with next := fun x => if x = i then page + 1 else S.next x } pb bb mb lv f) ∧ (q = true → ∃ lv', NandRaw wz F d ⟨c, l, b, p, sn⟩ { S with next := fun x => if x = i then page + 1 else S.next x, plan := S.plan.tail, many := IntKind.i64.wrap (S.many + 1) } pb bb mb lv' f)) (PlanJ sy kp) [?_, ?_, ?_, ?_, ?_, ?_, ?_, ?_, ?_, undef, undef, undef, undef, undef] (by kernel_rfl) (by kernel_rfl) (by kernel_rfl) ⟨(OnlyF.refl _ wa).drew, fun _ => H2.out.below ((Below.refl wa.heap.size wa).drew), fun h => by cases h⟩ (fun b x y h1 h2 => ⟨h1.1.step h2, fun e => (h1.2.1 e).below h2, fun e => by obtain ⟨q, hq⟩ := h1.2.2 e; exact ⟨q, hq.below h2⟩⟩) PlanJ.keep ?_
            rotate_left 9
            simp only [List.take_succ_cons, List.take_zero, List.drop_succ_cons, List.drop_zero]
            refine SeqT.run (v := ?_) rfl rfl (fun _ wz hz => ?_) ?_ ?_; rotate_left; (have hzc := hz.1.cellD hdp hdl; go_simp; first | exact UponS.value (Since.refl _) | exact UponS.skip (Since.refl _)); (exact rfl); (try simp only [Act.put, List.setIfInBounds_toArray, List.set_cons_zero, List.set_cons_succ])
            refine SeqT.run (v := ?_) rfl rfl (fun _ wz hz => ?_) ?_ ?_; rotate_left; (have hzc := hz.1.cellD hdp hdl; go_simp; first | exact UponS.value (Since.refl _) | exact UponS.skip (Since.refl _)); (exact rfl); (try simp only [Act.put, List.setIfInBounds_toArray, List.set_cons_zero, List.set_cons_succ])
            refine SeqT.run (v := ?_) rfl rfl (fun _ wz hz => ?_) ?_ ?_; rotate_left; (have hzc := hz.1.cellD hdp hdl; go_simp; first | exact UponS.value (Since.refl _) | exact UponS.skip (Since.refl _)); (exact rfl); (try simp only [Act.put, List.setIfInBounds_toArray, List.set_cons_zero, List.set_cons_succ])
            refine SeqT.run (v := ?_) rfl rfl (fun _ wz hz => ?_) ?_ ?_; rotate_left; (have hzc := hz.1.cellD hdp hdl; go_simp; first | exact UponS.value (Since.refl _) | exact UponS.skip (Since.refl _)); (exact rfl); (try simp only [Act.put, List.setIfInBounds_toArray, List.set_cons_zero, List.set_cons_succ])
            refine SeqT.run (v := ?_) rfl rfl (fun _ wz hz => ?_) ?_ ?_; rotate_left; (have hzc := hz.1.cellD hdp hdl; go_simp; first | exact UponS.value (Since.refl _) | exact UponS.skip (Since.refl _)); (exact rfl); (try simp only [Act.put, List.setIfInBounds_toArray, List.set_cons_zero, List.set_cons_succ])
            refine SeqT.run (v := ?_) rfl rfl (fun _ wz hz => ?_) ?_ ?_; rotate_left; (have hzc := hz.1.cellD hdp hdl; go_simp; first | exact UponS.value (Since.refl _) | exact UponS.skip (Since.refl _)); (exact rfl); (try simp only [Act.put, List.setIfInBounds_toArray, List.set_cons_zero, List.set_cons_succ])
            refine SeqT.run (v := ?_) rfl rfl (fun _ wz hz => ?_) ?_ ?_; rotate_left; (have hzc := hz.1.cellD hdp hdl; go_simp; first | exact UponS.value (Since.refl _) | exact UponS.skip (Since.refl _)); (exact rfl); (try simp only [Act.put, List.setIfInBounds_toArray, List.set_cons_zero, List.set_cons_succ])
            refine SeqT.run (v := ?_) rfl rfl (fun _ wz hz => ?_) ?_ ?_; rotate_left; (have hzc := hz.1.cellD hdp hdl; go_simp; first | exact UponS.value (Since.refl _) | exact UponS.skip (Since.refl _)); (exact rfl); (try simp only [Act.put, List.setIfInBounds_toArray, List.set_cons_zero, List.set_cons_succ])
            refine SeqT.run (v := ?_) rfl rfl (fun _ wz hz => ?_) ?_ ?_; rotate_left; (have hzc := hz.1.cellD hdp hdl; go_simp; first | exact UponS.value (Since.refl _) | exact UponS.skip (Since.refl _)); (exact rfl); (try simp only [Act.put, List.setIfInBounds_toArray, List.set_cons_zero, List.set_cons_succ])
            refine SeqT.write rfl rfl rfl (fun wz hz hd => ?_) (fun v9 _ _ => ?_)
            · have hzc := hz.1.cellD hdp hdl
              have h2 := hz.2.1 rfl
              have hzo := Lib.hid hz.1
              clear hz hd
              go_simp
              refine UponT.call ?_
              go_at_call 78
              refine (planNext_any h2.pl h2.left (fun h => h.2.2.1 rfl) h2.leftB sn ⟨by omega, by omega⟩).mono ?_
              intro e wy hp
              obtain ⟨rfl, ⟨lv', hpb, hpl⟩, hpo⟩ := hp
              have h4 := h2.blockP hpo.size (fun k hk hne => hpo.block k hk hne) hpb hpl (fun x hx => h2.leftB x (List.mem_of_mem_tail hx))
              refine ⟨_, rfl, by show _ = _; rw [show nextP _ _ = _ from HR2N.out], hzo.out.trans (Fresh.refl _ _) hpo, ⟨lv', h4⟩⟩
            (try simp only [Act.put, List.setIfInBounds_toArray, List.set_cons_zero, List.set_cons_succ])
            refine SeqT.tie rfl (by decide) rfl (fun wz hz hd => ?_) (fun v10 _ _ => ?_)
            · obtain rfl : v9 = .tuple #[.int .i64 sy, .int .i64 kp] := hd.all 9 (by decide) v9 _ _ rfl
              clear hz hd
              go_simp
              exact UponT.value ⟨rfl, Since.refl _⟩
            (try simp only [Act.put, List.setIfInBounds_toArray, List.set_cons_zero, List.set_cons_succ])
            refine SeqT.tie rfl (by decide) rfl (fun wz hz hd => ?_) (fun v11 _ _ => ?_)
            · obtain rfl : v10 = .tuple #[.int .i64 sy, .int .i64 kp] := hd.all 10 (by decide) v10 _ _ rfl
              clear hz hd
              go_simp
              exact UponT.value ⟨rfl, Since.refl _⟩
            (try simp only [Act.put, List.setIfInBounds_toArray, List.set_cons_zero, List.set_cons_succ])
            refine SeqT.tie rfl (by decide) rfl (fun wz hz hd => ?_) (fun v12 _ _ => ?_)
            · obtain rfl : v10 = .tuple #[.int .i64 sy, .int .i64 kp] := hd.all 10 (by decide) v10 _ _ rfl
              clear hz hd
              go_simp
              exact UponT.value ⟨rfl, Since.refl _⟩
            (try simp only [Act.put, List.setIfInBounds_toArray, List.set_cons_zero, List.set_cons_succ])
            refine SeqT.tie rfl (by decide) rfl (fun wz hz hd => ?_) (fun v13 _ _ => ?_)
            · obtain rfl : v11 = .int .i64 sy := hd.all 11 (by decide) v11 _ _ rfl
              clear hz hd
              go_simp
              exact UponT.value ⟨rfl, Since.refl _⟩
            (try simp only [Act.put, List.setIfInBounds_toArray, List.set_cons_zero, List.set_cons_succ])
            intro w4 hz hi
            obtain rfl : v13 = .int .i64 sy := hi.all 13 v13 _ _ rfl
            obtain rfl : v11 = .int .i64 sy := hi.all 11 v11 _ _ rfl
            obtain rfl : v12 = .int .i64 kp := hi.all 12 v12 _ _ rfl
            obtain ⟨lv', h4⟩ := hz.2.2 rfl
            have HO4 := Lib.hid (HO2.out.trans (Fresh.refl F _) (hz.1.mono fun k hk => hk ▸ H2.out.mem.2.1))
            clear n0 n1 n2 n3 n4 n5 n6 n7 n8 n9
            have hdb := h4.blk; have n0 : w4.cell? ⟨d, 0, none⟩ = some (.bool S.off) := hdb.cell 0; have n1 : w4.cell? ⟨d, 1, none⟩ = some (.int .i64 c) := hdb.cell 1; have n2 : w4.cell? ⟨d, 2, none⟩ = some (.int .i64 l) := hdb.cell 2; have n3 : w4.cell? ⟨d, 3, none⟩ = some (.int .i64 b) := hdb.cell 3; have n4 : w4.cell? ⟨d, 4, none⟩ = some (.int .i64 p) := hdb.cell 4; have n5 : w4.cell? ⟨d, 5, none⟩ = some (.int .i64 (sn : Int)) := hdb.cell 5; have n6 : w4.cell? ⟨d, 6, none⟩ = some (.pointer (some ⟨pb, 0, none⟩)) := hdb.cell 6; have n7 : w4.cell? ⟨d, 7, none⟩ = some (.slice (some ⟨bb, 0, none⟩) (Geo.nb ⟨c, l, b, p, sn⟩) (Geo.nb ⟨c, l, b, p, sn⟩)) := hdb.cell 7; have n8 : w4.cell? ⟨d, 8, none⟩ = some (.map (some mb)) := hdb.cell 8; have n9 : w4.cell? ⟨d, 9, none⟩ = some (.int .i64 S.wrong) := hdb.cell 9; have nlt := hdb.lt; clear hdb
            have H4 := Lib.hid h4
            clear hz hi h4
            obtain ⟨hk0, hk1⟩ := hle
            by_cases hsy : sy = 0
            · subst hsy
              have HKS : Hid (sn ≤ sn) := Nat.le_refl _
              have HR3 := HR.out
              rw [if_pos rfl] at HR3
              clear HR
              have HR := Lib.hid HR3
              clear HR3
              go_wp2_with fail
              go_loopw [110] (fun t wr => ∃ (j : Nat) (F' : Nat → Prop) (f' : Nat → Option Value), j ≤ sn ∧ t = .int .i64 j ∧ Hid (NandRaw wr F' d ⟨c, l, b, p, sn⟩ { S with next := fun x => if x = i then page + 1 else S.next x, plan := S.plan.tail, many := IntKind.i64.wrap (S.many + 1), sec := setPage ⟨c, l, b, p, sn⟩ S.sec u n page (j : Nat) data oob } pb bb mb lv' f') ∧ Hid (OnlyF F w wr) ∧ Hid (Fresh F F' w.heap.size)) (fun t _ => ((sn : Int) - intOf t).toNat)
              case atStart =>
                refine ⟨0, F, f, Nat.zero_le _, rfl, ?_, HO4.out, Fresh.refl _ _⟩
                show NandRaw _ _ _ _ _ _ _ _ _ _
                rw [setPage_zero _ H4.out.ok]
                exact H4.out
              case round =>
                obtain ⟨j, F', f', hj, rfl, HRr, HOr, HFr⟩ := hrel
                have hr := HRr.out
                clear n0 n1 n2 n3 n4 n5 n6 n7 n8 n9
                have hdb := hr.blk; have n0 : wr.cell? ⟨d, 0, none⟩ = some (.bool S.off) := hdb.cell 0; have n1 : wr.cell? ⟨d, 1, none⟩ = some (.int .i64 c) := hdb.cell 1; have n2 : wr.cell? ⟨d, 2, none⟩ = some (.int .i64 l) := hdb.cell 2; have n3 : wr.cell? ⟨d, 3, none⟩ = some (.int .i64 b) := hdb.cell 3; have n4 : wr.cell? ⟨d, 4, none⟩ = some (.int .i64 p) := hdb.cell 4; have n5 : wr.cell? ⟨d, 5, none⟩ = some (.int .i64 (sn : Int)) := hdb.cell 5; have n6 : wr.cell? ⟨d, 6, none⟩ = some (.pointer (some ⟨pb, 0, none⟩)) := hdb.cell 6; have n7 : wr.cell? ⟨d, 7, none⟩ = some (.slice (some ⟨bb, 0, none⟩) (Geo.nb ⟨c, l, b, p, sn⟩) (Geo.nb ⟨c, l, b, p, sn⟩)) := hdb.cell 7; have n8 : wr.cell? ⟨d, 8, none⟩ = some (.map (some mb)) := hdb.cell 8; have n9 : wr.cell? ⟨d, 9, none⟩ = some (.int .i64 S.wrong) := hdb.cell 9; have nlt := hdb.lt; clear hdb
                clear hr
                by_cases hlt : j < sn
                · have hjs : (j : Int) < sn := by have := HKS.out; omega
                  obtain ⟨x, hx⟩ : ∃ x, data[j]? = some x := ⟨_, List.getElem?_eq_getElem (by rw [HLEN.out.1]; omega)⟩
                  obtain ⟨y, hy⟩ : ∃ y, oob[j]? = some y := ⟨_, List.getElem?_eq_getElem (by rw [HLEN.out.2]; omega)⟩
                  have HX := Lib.hid hx
                  have HY := Lib.hid hy
                  have HXL := Lib.hid (HLX.out.1 x (List.mem_of_getElem? hx))
                  have HYL := Lib.hid (HLX.out.2 y (List.mem_of_getElem? hy))
                  obtain ⟨A, hA1, hA2, hA3, hA4, hA5⟩ := adr_of (g := ⟨c, l, b, p, sn⟩) (page := page) (j := j) HRr.out.ok HIN.out ⟨by omega, by simp only; omega⟩ (by simp only; exact hjs)
                  have HA1 := Lib.hid hA1
                  have HA2 := Lib.hid hA2
                  have HA := Lib.hid (And.intro hA3 (And.intro hA4 hA5))
                  clear hx hy hA1 hA2 hA3 hA4 hA5
                  (go_wp2_with fail); refine (geomNumber_any ⟨c, l, b, p, sn⟩ ⟨u, n, page, j⟩ _ HGW.out (HPW.out j (by omega))).mono ?_
                  rintro e w5 ⟨rfl, hb⟩
                  rw [HA1.out, HA2.out]
                  have h5 := HRr.out.below hb
                  have HB5 := Lib.hid hb
                  have H5 := Lib.hid h5
                  obtain ⟨xb, xo, xua, xuc, hxe, hxl, hxc, hxs⟩ := ((HD.out.away HOr.out).below hb).get HX.out
                  obtain ⟨yb, yo, yua, yuc, hye, hyl, hyc, hys⟩ := ((HOO.out.away HOr.out).below hb).get HY.out
                  subst hxe hye
                  have HXS := Lib.hid hxs.sl
                  have HYS := Lib.hid hys.sl
                  have hsz5 := hb.size
                  have hj0 : (0 : Int) ≤ j := by omega
                  have hjd : (j : Int) < data.length := by rw [HLEN.out.1]; omega
                  have hjo : (j : Int) < oob.length := by rw [HLEN.out.2]; omega
                  have hsw : HOr.out.size = HOr.out.size := rfl
                  clear n0 n1 n2 n3 n4 n5 n6 n7 n8 n9
                  have hdb := h5.blk; have n0 : w5.cell? ⟨d, 0, none⟩ = some (.bool S.off) := hdb.cell 0; have n1 : w5.cell? ⟨d, 1, none⟩ = some (.int .i64 c) := hdb.cell 1; have n2 : w5.cell? ⟨d, 2, none⟩ = some (.int .i64 l) := hdb.cell 2; have n3 : w5.cell? ⟨d, 3, none⟩ = some (.int .i64 b) := hdb.cell 3; have n4 : w5.cell? ⟨d, 4, none⟩ = some (.int .i64 p) := hdb.cell 4; have n5 : w5.cell? ⟨d, 5, none⟩ = some (.int .i64 (sn : Int)) := hdb.cell 5; have n6 : w5.cell? ⟨d, 6, none⟩ = some (.pointer (some ⟨pb, 0, none⟩)) := hdb.cell 6; have n7 : w5.cell? ⟨d, 7, none⟩ = some (.slice (some ⟨bb, 0, none⟩) (Geo.nb ⟨c, l, b, p, sn⟩) (Geo.nb ⟨c, l, b, p, sn⟩)) := hdb.cell 7; have n8 : w5.cell? ⟨d, 8, none⟩ = some (.map (some mb)) := hdb.cell 8; have n9 : w5.cell? ⟨d, 9, none⟩ = some (.int .i64 S.wrong) := hdb.cell 9; have nlt := hdb.lt; clear hdb
                  clear hb h5 hxs hys hsw
                  obtain ⟨i0, hif, hz0, hz1, hz2⟩ := info_parts info_u8
                  go_wp2_with fail
                  refine wp_region_t 18 [(5, []), (10, [5]), (11, []), (16, [11]), (17, [10, 16])] 19 (SecJ w5.drew.heap.size x y) [?_, ?_, ?_, ?_, ?_, undef, ?_, ?_, ?_, ?_, undef, undef, ?_, ?_, ?_, ?_, undef, undef] (by kernel_rfl) (by kernel_rfl) (by kernel_rfl) SecJ.keep ?_
                  rotate_left 13
                  simp only [List.take_succ_cons, List.take_zero, List.drop_succ_cons, List.drop_zero]
                  refine SeqT.run (v := ?_) rfl rfl (fun _ wz hz => ?_) ?_ ?_; rotate_left; (have hzc := hz.cell; have hzf := hz.frozen; go_simp; first | exact UponS.value (Since.refl _) | exact UponS.skip (Since.refl _)); (exact rfl); (try simp only [Act.put, List.setIfInBounds_toArray, List.set_cons_zero, List.set_cons_succ])
                  refine SeqT.run (v := ?_) rfl rfl (fun _ wz hz => ?_) ?_ ?_; rotate_left; (have hzc := hz.cell; have hzf := hz.frozen; go_simp; first | exact UponS.value (Since.refl _) | exact UponS.skip (Since.refl _)); (exact rfl); (try simp only [Act.put, List.setIfInBounds_toArray, List.set_cons_zero, List.set_cons_succ])
                  refine SeqT.run (v := ?_) rfl rfl (fun _ wz hz => ?_) ?_ ?_; rotate_left; (have hzc := hz.cell; have hzf := hz.frozen; go_simp; first | exact UponS.value (Since.refl _) | exact UponS.skip (Since.refl _)); (exact rfl); (try simp only [Act.put, List.setIfInBounds_toArray, List.set_cons_zero, List.set_cons_succ])
                  refine SeqT.run (v := ?_) rfl rfl (fun _ wz hz => ?_) ?_ ?_; rotate_left; (have hzc := hz.cell; have hzf := hz.frozen; go_simp; first | exact UponS.value (Since.refl _) | exact UponS.skip (Since.refl _)); (exact rfl); (try simp only [Act.put, List.setIfInBounds_toArray, List.set_cons_zero, List.set_cons_succ])
                  refine SeqT.run (v := ?_) rfl rfl (fun _ wz hz => ?_) ?_ ?_; rotate_left; (have hzc := hz.cell; have hzf := hz.frozen; go_simp; first | exact UponS.value (Since.refl _) | exact UponS.skip (Since.refl _)); (exact rfl); (try simp only [Act.put, List.setIfInBounds_toArray, List.set_cons_zero, List.set_cons_succ])
                  refine SeqT.tie rfl (by decide) rfl (fun wz hz hd => ?_) (fun v5 _ _ => ?_)
                  · clear hd
                    go_simp
                    exact UponT.value ⟨⟨wz.heap.size, rfl, hz.below.size, Blk.new wz 5 []⟩, (Below.refl _ _).alloc (Nat.le_refl _) _⟩
                  (try simp only [Act.put, List.setIfInBounds_toArray, List.set_cons_zero, List.set_cons_succ])
                  refine SeqT.run (v := ?_) rfl rfl (fun _ wz hz => ?_) ?_ ?_; rotate_left; (have hzc := hz.cell; have hzf := hz.frozen; go_simp; first | exact UponS.value (Since.refl _) | exact UponS.skip (Since.refl _)); (exact rfl); (try simp only [Act.put, List.setIfInBounds_toArray, List.set_cons_zero, List.set_cons_succ])
                  refine SeqT.run (v := ?_) rfl rfl (fun _ wz hz => ?_) ?_ ?_; rotate_left; (have hzc := hz.cell; have hzf := hz.frozen; go_simp; first | exact UponS.value (Since.refl _) | exact UponS.skip (Since.refl _)); (exact rfl); (try simp only [Act.put, List.setIfInBounds_toArray, List.set_cons_zero, List.set_cons_succ])
                  refine SeqT.run (v := ?_) rfl rfl (fun _ wz hz => ?_) ?_ ?_; rotate_left; (have hzc := hz.cell; have hzf := hz.frozen; go_simp; first | exact UponS.value (Since.refl _) | exact UponS.skip (Since.refl _)); (exact rfl); (try simp only [Act.put, List.setIfInBounds_toArray, List.set_cons_zero, List.set_cons_succ])
                  refine SeqT.run (v := ?_) rfl rfl (fun _ wz hz => ?_) ?_ ?_; rotate_left; (have hzc := hz.cell; have hzf := hz.frozen; go_simp; first | exact UponS.value (Since.refl _) | exact UponS.skip (Since.refl _)); (exact rfl); (try simp only [Act.put, List.setIfInBounds_toArray, List.set_cons_zero, List.set_cons_succ])
                  refine SeqT.tie rfl (by decide) rfl (fun wz hz hd => ?_) (fun v10 _ _ => ?_)
                  · obtain ⟨g0, rfl, hg0, hk0'⟩ := hd.all 5 (by decide) v5 _ _ rfl
                    obtain ⟨v', w', hr, ho, hs⟩ := run_append_fresh (P := Try.prog) w5.drew.heap.size 45 45 5 _ (.int .u8 0) 1 Try.underlying45 hif hz0 hz1 hz2 rfl g0 hg0 hz.below.size hk0' 0 (.slice xua x.length xuc) (bv x) (HXS.out.below ((Below.refl w5.heap.size w5).drew.trans hz.below)) (by rw [bv_length, HXL.out]; unfold maxLen; omega) (by rw [bv_length, HXL.out]; omega)
                    rw [bv_length] at ho
                    exact UponT.append _ _ _ _ _ _ rfl rfl rfl hr ⟨ho, hs⟩
                  (try simp only [Act.put, List.setIfInBounds_toArray, List.set_cons_zero, List.set_cons_succ])
                  refine SeqT.tie rfl (by decide) rfl (fun wz hz hd => ?_) (fun v11 _ _ => ?_)
                  · clear hd
                    go_simp
                    exact UponT.value ⟨⟨wz.heap.size, rfl, hz.below.size, Blk.new wz 5 []⟩, (Below.refl _ _).alloc (Nat.le_refl _) _⟩
                  (try simp only [Act.put, List.setIfInBounds_toArray, List.set_cons_zero, List.set_cons_succ])
                  refine SeqT.run (v := ?_) rfl rfl (fun _ wz hz => ?_) ?_ ?_; rotate_left; (have hzc := hz.cell; have hzf := hz.frozen; go_simp; first | exact UponS.value (Since.refl _) | exact UponS.skip (Since.refl _)); (exact rfl); (try simp only [Act.put, List.setIfInBounds_toArray, List.set_cons_zero, List.set_cons_succ])
                  refine SeqT.run (v := ?_) rfl rfl (fun _ wz hz => ?_) ?_ ?_; rotate_left; (have hzc := hz.cell; have hzf := hz.frozen; go_simp; first | exact UponS.value (Since.refl _) | exact UponS.skip (Since.refl _)); (exact rfl); (try simp only [Act.put, List.setIfInBounds_toArray, List.set_cons_zero, List.set_cons_succ])
                  refine SeqT.run (v := ?_) rfl rfl (fun _ wz hz => ?_) ?_ ?_; rotate_left; (have hzc := hz.cell; have hzf := hz.frozen; go_simp; first | exact UponS.value (Since.refl _) | exact UponS.skip (Since.refl _)); (exact rfl); (try simp only [Act.put, List.setIfInBounds_toArray, List.set_cons_zero, List.set_cons_succ])
                  refine SeqT.run (v := ?_) rfl rfl (fun _ wz hz => ?_) ?_ ?_; rotate_left; (have hzc := hz.cell; have hzf := hz.frozen; go_simp; first | exact UponS.value (Since.refl _) | exact UponS.skip (Since.refl _)); (exact rfl); (try simp only [Act.put, List.setIfInBounds_toArray, List.set_cons_zero, List.set_cons_succ])
                  refine SeqT.tie rfl (by decide) rfl (fun wz hz hd => ?_) (fun v16 _ _ => ?_)
                  · obtain ⟨g0, rfl, hg0, hk0'⟩ := hd.all 11 (by decide) v11 _ _ rfl
                    obtain ⟨v', w', hr, ho, hs⟩ := run_append_fresh (P := Try.prog) w5.drew.heap.size 45 45 5 _ (.int .u8 0) 1 Try.underlying45 hif hz0 hz1 hz2 rfl g0 hg0 hz.below.size hk0' 0 (.slice yua y.length yuc) (bv y) (HYS.out.below ((Below.refl w5.heap.size w5).drew.trans hz.below)) (by rw [bv_length, HYL.out]; unfold maxLen; omega) (by rw [bv_length, HYL.out]; omega)
                    rw [bv_length] at ho
                    exact UponT.append _ _ _ _ _ _ rfl rfl rfl hr ⟨ho, hs⟩
                  (try simp only [Act.put, List.setIfInBounds_toArray, List.set_cons_zero, List.set_cons_succ])
                  refine SeqT.tie rfl (by decide) rfl (fun wz hz hd => ?_) (fun v17 _ _ => ?_)
                  · have h10 : wz.ownsRow w5.drew.heap.size 5 1 v10 x.length (bv x) := hd.all 10 (by decide) v10 _ _ rfl
                    have h16 : wz.ownsRow w5.drew.heap.size 5 1 v16 y.length (bv y) := hd.all 16 (by decide) v16 _ _ rfl
                    obtain ⟨q1, q2, rfl⟩ := own_slice h10
                    obtain ⟨q3, q4, rfl⟩ := own_slice h16
                    have HJ : Hid (SecJ w5.drew.heap.size x y 17 (.agg #[.slice q1 x.length q2, .slice q3 y.length q4]) wz.heap.size wz.heap.size wz) := Lib.hid ⟨_, _, rfl, h10, h16⟩
                    clear hd h10 h16
                    go_simp
                    exact UponT.value ⟨HJ.out, Since.refl _⟩
                  (try simp only [Act.put, List.setIfInBounds_toArray, List.set_cons_zero, List.set_cons_succ])
                  intro wz hz hi
                  obtain ⟨vx, vy, rfl, ox, oy⟩ := hi.all 17 v17 _ _ rfl
                  have h6 := H5.out.sinceD hz
                  have hsz6 : w5.heap.size ≤ wz.heap.size := hz.below.size
                  have hA9 : Geo.all ⟨c, l, b, p, sn⟩ ≤ 65536 := HALL.out
                  have hAlt : A < (Geo.all ⟨c, l, b, p, sn⟩).toNat := by have := HA.out.1; omega
                  have HO6 := Lib.hid ((OnlyF.below (F := F') HB5.out).since hz)
                  refine wpList_store_is wz rfl (.tmp 129) (.tmp 130) (.tmp 143) 60 rfl 3 134 keyed_int Try.underlying3 Try.underlying60 mb _ f' rfl h6.map (by omega) A hAlt (.agg #[vx, vy]) rfl rfl ?_
                  intro w7 hm7 hg7
                  have hmem := h6.mem
                  have hinF := H5.out.inF
                  have H7 : Hid (NandRaw w7 (fun k => F' k ∨ w5.heap.size ≤ k ∧ k < w7.heap.size) d ⟨c, l, b, p, sn⟩ { S with next := fun x => if x = i then page + 1 else S.next x, plan := S.plan.tail, many := IntKind.i64.wrap (S.many + 1), sec := setPage ⟨c, l, b, p, sn⟩ S.sec u n page (j + 1 : Nat) data oob } pb bb mb lv' (fun j => if j = A then some (.agg #[vx, vy]) else f' j)) := by
                    refine h6.blockM hg7.size (fun k hk hne => hg7.block k hk (fun e => hne (Option.some.inj e))) (fun k hk => .inl hk) (fun k hk => ?_) hm7 (fun a => ?_)
                    · rcases hk with hk | hk
                      · have := hinF k hk
                        have := hg7.size
                        omega
                      · exact hk.2
                    · have hstep := setPage_step H5.out.ok (sec := S.sec) (u := u) (n := n) (page := page) HA.out.1 HA.out.2.1 HA.out.2.2 HX.out HY.out a
                      rw [hstep]
                      have hrow : ∀ {v : Value} {zs : List Int}, zs.length ≤ 100 → wz.ownsRow w5.drew.heap.size 5 1 v zs.length (bv zs) → SlQ w7 (Rows (fun k => F' k ∨ w5.heap.size ≤ k ∧ k < w7.heap.size) d pb bb mb) v (bv zs) := fun {v zs} hzl ho => by
                        have h1 := SlQ.of_sl (Sl.of_own ho (by rw [bv_length]; omega))
                        refine (h1.keep hg7.size fun k hk hq => hg7.block k hk (fun e => ?_)).mono fun k hk hq => ?_
                        · have e2 := Option.some.inj e
                          have h2 : w5.heap.size ≤ k := hq.1
                          have h3 := hinF mb hmem.2.2.2
                          omega
                        · have h2 : w5.heap.size ≤ k := hq.1
                          have h3 := hinF d hmem.1
                          have h4 := hinF pb hmem.2.1
                          have h5 := hinF bb hmem.2.2.1
                          have h6 := hinF mb hmem.2.2.2
                          exact ⟨.inr ⟨h2, hk⟩, by omega, by omega, by omega, by omega⟩
                      by_cases ha : a = A
                      · rw [if_pos ha, if_pos ha]
                        exact ⟨vx, vy, rfl, hrow (zs := x) (by rw [HXL.out]; omega) ox, hrow (zs := y) (by rw [HYL.out]; omega) oy⟩
                      · rw [if_neg ha, if_neg ha]
                        exact ((h6.secs a).keep hg7.size fun k hk hr => hg7.block k hk (fun e => hr.2.2.2.2 (Option.some.inj e))).mono fun k _ hr => ⟨.inl hr.1, hr.2⟩
                  have HO7 : Hid (OnlyF F w w7) := Lib.hid (HOr.out.trans HFr.out (HO6.out.grown hmem.2.2.2 hg7))
                  have HF7 : Hid (Fresh F (fun k => F' k ∨ w5.heap.size ≤ k ∧ k < w7.heap.size) w.heap.size) := Lib.hid (fun k hk => by
                    rcases hk with hk | hk
                    · exact HFr.out k hk
                    · have := HOr.out.size
                      exact .inr (by omega))
                  clear hz hi ox oy h6 hm7 hg7 hinF hmem HO6 hAlt hA9
                  go_wp2_with fail
                  go_roundw
                  case rel => exact ⟨j + 1, _, _, by omega, by go_num, H7.out, HO7.out, HF7.out⟩
                  case measure => simp [intOf]; omega
                · obtain rfl : sn = j := by omega
                  (go_wp2_with fail); refine (nandEnd_any HRr.out 0 8).mono ?_
                  intro e w9 hp
                  obtain ⟨rfl, hq⟩ := hp
                  have HFIN : Hid (NandPost w F d ⟨c, l, b, p, sn⟩ (.int .i64 R.1) R.2 (.returned (.int .i64 (endE 0 8))) w9) := by
                    show NandPost _ _ _ _ _ _ _ _
                    rw [HR.out]
                    exact NandPost.from (F1 := F') ⟨rfl, hq⟩ HOr.out HFr.out
                  clear hq
                  go_wp2_with fail
                  go_ret
                  exact HFIN.out
            · have hsb : (sy == 0) = false := by simp [hsy]
              obtain ⟨K, rfl⟩ : ∃ K : Nat, kp = K := ⟨kp.toNat, by omega⟩
              have HKS : Hid (K ≤ sn) := show K ≤ sn by omega
              have HR3 := HR.out
              rw [if_neg hsy] at HR3
              clear HR
              have HR := Lib.hid HR3
              clear HR3 hsy
              go_wp2_with fail
              go_loopw [110] (fun t wr => ∃ (j : Nat) (F' : Nat → Prop) (f' : Nat → Option Value), j ≤ K ∧ t = .int .i64 j ∧ Hid (NandRaw wr F' d ⟨c, l, b, p, sn⟩ { S with next := fun x => if x = i then page + 1 else S.next x, plan := S.plan.tail, many := IntKind.i64.wrap (S.many + 1), sec := setPage ⟨c, l, b, p, sn⟩ S.sec u n page (j : Nat) data oob } pb bb mb lv' f') ∧ Hid (OnlyF F w wr) ∧ Hid (Fresh F F' w.heap.size)) (fun t _ => ((K : Int) - intOf t).toNat)
              case atStart =>
                refine ⟨0, F, f, Nat.zero_le _, rfl, ?_, HO4.out, Fresh.refl _ _⟩
                show NandRaw _ _ _ _ _ _ _ _ _ _
                rw [setPage_zero _ H4.out.ok]
                exact H4.out
              case round =>
                obtain ⟨j, F', f', hj, rfl, HRr, HOr, HFr⟩ := hrel
                have hr := HRr.out
                clear n0 n1 n2 n3 n4 n5 n6 n7 n8 n9
                have hdb := hr.blk; have n0 : wr.cell? ⟨d, 0, none⟩ = some (.bool S.off) := hdb.cell 0; have n1 : wr.cell? ⟨d, 1, none⟩ = some (.int .i64 c) := hdb.cell 1; have n2 : wr.cell? ⟨d, 2, none⟩ = some (.int .i64 l) := hdb.cell 2; have n3 : wr.cell? ⟨d, 3, none⟩ = some (.int .i64 b) := hdb.cell 3; have n4 : wr.cell? ⟨d, 4, none⟩ = some (.int .i64 p) := hdb.cell 4; have n5 : wr.cell? ⟨d, 5, none⟩ = some (.int .i64 (sn : Int)) := hdb.cell 5; have n6 : wr.cell? ⟨d, 6, none⟩ = some (.pointer (some ⟨pb, 0, none⟩)) := hdb.cell 6; have n7 : wr.cell? ⟨d, 7, none⟩ = some (.slice (some ⟨bb, 0, none⟩) (Geo.nb ⟨c, l, b, p, sn⟩) (Geo.nb ⟨c, l, b, p, sn⟩)) := hdb.cell 7; have n8 : wr.cell? ⟨d, 8, none⟩ = some (.map (some mb)) := hdb.cell 8; have n9 : wr.cell? ⟨d, 9, none⟩ = some (.int .i64 S.wrong) := hdb.cell 9; have nlt := hdb.lt; clear hdb
                clear hr
                by_cases hlt : j < K
                · have hjs : (j : Int) < sn := by have := HKS.out; omega
                  obtain ⟨x, hx⟩ : ∃ x, data[j]? = some x := ⟨_, List.getElem?_eq_getElem (by rw [HLEN.out.1]; omega)⟩
                  obtain ⟨y, hy⟩ : ∃ y, oob[j]? = some y := ⟨_, List.getElem?_eq_getElem (by rw [HLEN.out.2]; omega)⟩
                  have HX := Lib.hid hx
                  have HY := Lib.hid hy
                  have HXL := Lib.hid (HLX.out.1 x (List.mem_of_getElem? hx))
                  have HYL := Lib.hid (HLX.out.2 y (List.mem_of_getElem? hy))
                  obtain ⟨A, hA1, hA2, hA3, hA4, hA5⟩ := adr_of (g := ⟨c, l, b, p, sn⟩) (page := page) (j := j) HRr.out.ok HIN.out ⟨by omega, by simp only; omega⟩ (by simp only; exact hjs)
                  have HA1 := Lib.hid hA1
                  have HA2 := Lib.hid hA2
                  have HA := Lib.hid (And.intro hA3 (And.intro hA4 hA5))
                  clear hx hy hA1 hA2 hA3 hA4 hA5
                  (go_wp2_with fail); refine (geomNumber_any ⟨c, l, b, p, sn⟩ ⟨u, n, page, j⟩ _ HGW.out (HPW.out j (by omega))).mono ?_
                  rintro e w5 ⟨rfl, hb⟩
                  rw [HA1.out, HA2.out]
                  have h5 := HRr.out.below hb
                  have HB5 := Lib.hid hb
                  have H5 := Lib.hid h5
                  obtain ⟨xb, xo, xua, xuc, hxe, hxl, hxc, hxs⟩ := ((HD.out.away HOr.out).below hb).get HX.out
                  obtain ⟨yb, yo, yua, yuc, hye, hyl, hyc, hys⟩ := ((HOO.out.away HOr.out).below hb).get HY.out
                  subst hxe hye
                  have HXS := Lib.hid hxs.sl
                  have HYS := Lib.hid hys.sl
                  have hsz5 := hb.size
                  have hj0 : (0 : Int) ≤ j := by omega
                  have hjd : (j : Int) < data.length := by rw [HLEN.out.1]; omega
                  have hjo : (j : Int) < oob.length := by rw [HLEN.out.2]; omega
                  have hsw : HOr.out.size = HOr.out.size := rfl
                  clear n0 n1 n2 n3 n4 n5 n6 n7 n8 n9
                  have hdb := h5.blk; have n0 : w5.cell? ⟨d, 0, none⟩ = some (.bool S.off) := hdb.cell 0; have n1 : w5.cell? ⟨d, 1, none⟩ = some (.int .i64 c) := hdb.cell 1; have n2 : w5.cell? ⟨d, 2, none⟩ = some (.int .i64 l) := hdb.cell 2; have n3 : w5.cell? ⟨d, 3, none⟩ = some (.int .i64 b) := hdb.cell 3; have n4 : w5.cell? ⟨d, 4, none⟩ = some (.int .i64 p) := hdb.cell 4; have n5 : w5.cell? ⟨d, 5, none⟩ = some (.int .i64 (sn : Int)) := hdb.cell 5; have n6 : w5.cell? ⟨d, 6, none⟩ = some (.pointer (some ⟨pb, 0, none⟩)) := hdb.cell 6; have n7 : w5.cell? ⟨d, 7, none⟩ = some (.slice (some ⟨bb, 0, none⟩) (Geo.nb ⟨c, l, b, p, sn⟩) (Geo.nb ⟨c, l, b, p, sn⟩)) := hdb.cell 7; have n8 : w5.cell? ⟨d, 8, none⟩ = some (.map (some mb)) := hdb.cell 8; have n9 : w5.cell? ⟨d, 9, none⟩ = some (.int .i64 S.wrong) := hdb.cell 9; have nlt := hdb.lt; clear hdb
                  clear hb h5 hxs hys hsw
                  obtain ⟨i0, hif, hz0, hz1, hz2⟩ := info_parts info_u8
                  go_wp2_with fail
                  refine wp_region_t 18 [(5, []), (10, [5]), (11, []), (16, [11]), (17, [10, 16])] 19 (SecJ w5.drew.heap.size x y) [?_, ?_, ?_, ?_, ?_, undef, ?_, ?_, ?_, ?_, undef, undef, ?_, ?_, ?_, ?_, undef, undef] (by kernel_rfl) (by kernel_rfl) (by kernel_rfl) SecJ.keep ?_
                  rotate_left 13
                  simp only [List.take_succ_cons, List.take_zero, List.drop_succ_cons, List.drop_zero]
                  refine SeqT.run (v := ?_) rfl rfl (fun _ wz hz => ?_) ?_ ?_; rotate_left; (have hzc := hz.cell; have hzf := hz.frozen; go_simp; first | exact UponS.value (Since.refl _) | exact UponS.skip (Since.refl _)); (exact rfl); (try simp only [Act.put, List.setIfInBounds_toArray, List.set_cons_zero, List.set_cons_succ])
                  refine SeqT.run (v := ?_) rfl rfl (fun _ wz hz => ?_) ?_ ?_; rotate_left; (have hzc := hz.cell; have hzf := hz.frozen; go_simp; first | exact UponS.value (Since.refl _) | exact UponS.skip (Since.refl _)); (exact rfl); (try simp only [Act.put, List.setIfInBounds_toArray, List.set_cons_zero, List.set_cons_succ])
                  refine SeqT.run (v := ?_) rfl rfl (fun _ wz hz => ?_) ?_ ?_; rotate_left; (have hzc := hz.cell; have hzf := hz.frozen; go_simp; first | exact UponS.value (Since.refl _) | exact UponS.skip (Since.refl _)); (exact rfl); (try simp only [Act.put, List.setIfInBounds_toArray, List.set_cons_zero, List.set_cons_succ])
                  refine SeqT.run (v := ?_) rfl rfl (fun _ wz hz => ?_) ?_ ?_; rotate_left; (have hzc := hz.cell; have hzf := hz.frozen; go_simp; first | exact UponS.value (Since.refl _) | exact UponS.skip (Since.refl _)); (exact rfl); (try simp only [Act.put, List.setIfInBounds_toArray, List.set_cons_zero, List.set_cons_succ])
                  refine SeqT.run (v := ?_) rfl rfl (fun _ wz hz => ?_) ?_ ?_; rotate_left; (have hzc := hz.cell; have hzf := hz.frozen; go_simp; first | exact UponS.value (Since.refl _) | exact UponS.skip (Since.refl _)); (exact rfl); (try simp only [Act.put, List.setIfInBounds_toArray, List.set_cons_zero, List.set_cons_succ])
                  refine SeqT.tie rfl (by decide) rfl (fun wz hz hd => ?_) (fun v5 _ _ => ?_)
                  · clear hd
                    go_simp
                    exact UponT.value ⟨⟨wz.heap.size, rfl, hz.below.size, Blk.new wz 5 []⟩, (Below.refl _ _).alloc (Nat.le_refl _) _⟩
                  (try simp only [Act.put, List.setIfInBounds_toArray, List.set_cons_zero, List.set_cons_succ])
                  refine SeqT.run (v := ?_) rfl rfl (fun _ wz hz => ?_) ?_ ?_; rotate_left; (have hzc := hz.cell; have hzf := hz.frozen; go_simp; first | exact UponS.value (Since.refl _) | exact UponS.skip (Since.refl _)); (exact rfl); (try simp only [Act.put, List.setIfInBounds_toArray, List.set_cons_zero, List.set_cons_succ])
                  refine SeqT.run (v := ?_) rfl rfl (fun _ wz hz => ?_) ?_ ?_; rotate_left; (have hzc := hz.cell; have hzf := hz.frozen; go_simp; first | exact UponS.value (Since.refl _) | exact UponS.skip (Since.refl _)); (exact rfl); (try simp only [Act.put, List.setIfInBounds_toArray, List.set_cons_zero, List.set_cons_succ])
                  refine SeqT.run (v := ?_) rfl rfl (fun _ wz hz => ?_) ?_ ?_; rotate_left; (have hzc := hz.cell; have hzf := hz.frozen; go_simp; first | exact UponS.value (Since.refl _) | exact UponS.skip (Since.refl _)); (exact rfl); (try simp only [Act.put, List.setIfInBounds_toArray, List.set_cons_zero, List.set_cons_succ])
                  refine SeqT.run (v := ?_) rfl rfl (fun _ wz hz => ?_) ?_ ?_; rotate_left; (have hzc := hz.cell; have hzf := hz.frozen; go_simp; first | exact UponS.value (Since.refl _) | exact UponS.skip (Since.refl _)); (exact rfl); (try simp only [Act.put, List.setIfInBounds_toArray, List.set_cons_zero, List.set_cons_succ])
                  refine SeqT.tie rfl (by decide) rfl (fun wz hz hd => ?_) (fun v10 _ _ => ?_)
                  · obtain ⟨g0, rfl, hg0, hk0'⟩ := hd.all 5 (by decide) v5 _ _ rfl
                    obtain ⟨v', w', hr, ho, hs⟩ := run_append_fresh (P := Try.prog) w5.drew.heap.size 45 45 5 _ (.int .u8 0) 1 Try.underlying45 hif hz0 hz1 hz2 rfl g0 hg0 hz.below.size hk0' 0 (.slice xua x.length xuc) (bv x) (HXS.out.below ((Below.refl w5.heap.size w5).drew.trans hz.below)) (by rw [bv_length, HXL.out]; unfold maxLen; omega) (by rw [bv_length, HXL.out]; omega)
                    rw [bv_length] at ho
                    exact UponT.append _ _ _ _ _ _ rfl rfl rfl hr ⟨ho, hs⟩
                  (try simp only [Act.put, List.setIfInBounds_toArray, List.set_cons_zero, List.set_cons_succ])
                  refine SeqT.tie rfl (by decide) rfl (fun wz hz hd => ?_) (fun v11 _ _ => ?_)
                  · clear hd
                    go_simp
                    exact UponT.value ⟨⟨wz.heap.size, rfl, hz.below.size, Blk.new wz 5 []⟩, (Below.refl _ _).alloc (Nat.le_refl _) _⟩
                  (try simp only [Act.put, List.setIfInBounds_toArray, List.set_cons_zero, List.set_cons_succ])
                  refine SeqT.run (v := ?_) rfl rfl (fun _ wz hz => ?_) ?_ ?_; rotate_left; (have hzc := hz.cell; have hzf := hz.frozen; go_simp; first | exact UponS.value (Since.refl _) | exact UponS.skip (Since.refl _)); (exact rfl); (try simp only [Act.put, List.setIfInBounds_toArray, List.set_cons_zero, List.set_cons_succ])
                  refine SeqT.run (v := ?_) rfl rfl (fun _ wz hz => ?_) ?_ ?_; rotate_left; (have hzc := hz.cell; have hzf := hz.frozen; go_simp; first | exact UponS.value (Since.refl _) | exact UponS.skip (Since.refl _)); (exact rfl); (try simp only [Act.put, List.setIfInBounds_toArray, List.set_cons_zero, List.set_cons_succ])
                  refine SeqT.run (v := ?_) rfl rfl (fun _ wz hz => ?_) ?_ ?_; rotate_left; (have hzc := hz.cell; have hzf := hz.frozen; go_simp; first | exact UponS.value (Since.refl _) | exact UponS.skip (Since.refl _)); (exact rfl); (try simp only [Act.put, List.setIfInBounds_toArray, List.set_cons_zero, List.set_cons_succ])
                  refine SeqT.run (v := ?_) rfl rfl (fun _ wz hz => ?_) ?_ ?_; rotate_left; (have hzc := hz.cell; have hzf := hz.frozen; go_simp; first | exact UponS.value (Since.refl _) | exact UponS.skip (Since.refl _)); (exact rfl); (try simp only [Act.put, List.setIfInBounds_toArray, List.set_cons_zero, List.set_cons_succ])
                  refine SeqT.tie rfl (by decide) rfl (fun wz hz hd => ?_) (fun v16 _ _ => ?_)
                  · obtain ⟨g0, rfl, hg0, hk0'⟩ := hd.all 11 (by decide) v11 _ _ rfl
                    obtain ⟨v', w', hr, ho, hs⟩ := run_append_fresh (P := Try.prog) w5.drew.heap.size 45 45 5 _ (.int .u8 0) 1 Try.underlying45 hif hz0 hz1 hz2 rfl g0 hg0 hz.below.size hk0' 0 (.slice yua y.length yuc) (bv y) (HYS.out.below ((Below.refl w5.heap.size w5).drew.trans hz.below)) (by rw [bv_length, HYL.out]; unfold maxLen; omega) (by rw [bv_length, HYL.out]; omega)
                    rw [bv_length] at ho
                    exact UponT.append _ _ _ _ _ _ rfl rfl rfl hr ⟨ho, hs⟩
                  (try simp only [Act.put, List.setIfInBounds_toArray, List.set_cons_zero, List.set_cons_succ])
                  refine SeqT.tie rfl (by decide) rfl (fun wz hz hd => ?_) (fun v17 _ _ => ?_)
                  · have h10 : wz.ownsRow w5.drew.heap.size 5 1 v10 x.length (bv x) := hd.all 10 (by decide) v10 _ _ rfl
                    have h16 : wz.ownsRow w5.drew.heap.size 5 1 v16 y.length (bv y) := hd.all 16 (by decide) v16 _ _ rfl
                    obtain ⟨q1, q2, rfl⟩ := own_slice h10
                    obtain ⟨q3, q4, rfl⟩ := own_slice h16
                    have HJ : Hid (SecJ w5.drew.heap.size x y 17 (.agg #[.slice q1 x.length q2, .slice q3 y.length q4]) wz.heap.size wz.heap.size wz) := Lib.hid ⟨_, _, rfl, h10, h16⟩
                    clear hd h10 h16
                    go_simp
                    exact UponT.value ⟨HJ.out, Since.refl _⟩
                  (try simp only [Act.put, List.setIfInBounds_toArray, List.set_cons_zero, List.set_cons_succ])
                  intro wz hz hi
                  obtain ⟨vx, vy, rfl, ox, oy⟩ := hi.all 17 v17 _ _ rfl
                  have h6 := H5.out.sinceD hz
                  have hsz6 : w5.heap.size ≤ wz.heap.size := hz.below.size
                  have hA9 : Geo.all ⟨c, l, b, p, sn⟩ ≤ 65536 := HALL.out
                  have hAlt : A < (Geo.all ⟨c, l, b, p, sn⟩).toNat := by have := HA.out.1; omega
                  have HO6 := Lib.hid ((OnlyF.below (F := F') HB5.out).since hz)
                  refine wpList_store_is wz rfl (.tmp 129) (.tmp 130) (.tmp 143) 60 rfl 3 134 keyed_int Try.underlying3 Try.underlying60 mb _ f' rfl h6.map (by omega) A hAlt (.agg #[vx, vy]) rfl rfl ?_
                  intro w7 hm7 hg7
                  have hmem := h6.mem
                  have hinF := H5.out.inF
                  have H7 : Hid (NandRaw w7 (fun k => F' k ∨ w5.heap.size ≤ k ∧ k < w7.heap.size) d ⟨c, l, b, p, sn⟩ { S with next := fun x => if x = i then page + 1 else S.next x, plan := S.plan.tail, many := IntKind.i64.wrap (S.many + 1), sec := setPage ⟨c, l, b, p, sn⟩ S.sec u n page (j + 1 : Nat) data oob } pb bb mb lv' (fun j => if j = A then some (.agg #[vx, vy]) else f' j)) := by
                    refine h6.blockM hg7.size (fun k hk hne => hg7.block k hk (fun e => hne (Option.some.inj e))) (fun k hk => .inl hk) (fun k hk => ?_) hm7 (fun a => ?_)
                    · rcases hk with hk | hk
                      · have := hinF k hk
                        have := hg7.size
                        omega
                      · exact hk.2
                    · have hstep := setPage_step H5.out.ok (sec := S.sec) (u := u) (n := n) (page := page) HA.out.1 HA.out.2.1 HA.out.2.2 HX.out HY.out a
                      rw [hstep]
                      have hrow : ∀ {v : Value} {zs : List Int}, zs.length ≤ 100 → wz.ownsRow w5.drew.heap.size 5 1 v zs.length (bv zs) → SlQ w7 (Rows (fun k => F' k ∨ w5.heap.size ≤ k ∧ k < w7.heap.size) d pb bb mb) v (bv zs) := fun {v zs} hzl ho => by
                        have h1 := SlQ.of_sl (Sl.of_own ho (by rw [bv_length]; omega))
                        refine (h1.keep hg7.size fun k hk hq => hg7.block k hk (fun e => ?_)).mono fun k hk hq => ?_
                        · have e2 := Option.some.inj e
                          have h2 : w5.heap.size ≤ k := hq.1
                          have h3 := hinF mb hmem.2.2.2
                          omega
                        · have h2 : w5.heap.size ≤ k := hq.1
                          have h3 := hinF d hmem.1
                          have h4 := hinF pb hmem.2.1
                          have h5 := hinF bb hmem.2.2.1
                          have h6 := hinF mb hmem.2.2.2
                          exact ⟨.inr ⟨h2, hk⟩, by omega, by omega, by omega, by omega⟩
                      by_cases ha : a = A
                      · rw [if_pos ha, if_pos ha]
                        exact ⟨vx, vy, rfl, hrow (zs := x) (by rw [HXL.out]; omega) ox, hrow (zs := y) (by rw [HYL.out]; omega) oy⟩
                      · rw [if_neg ha, if_neg ha]
                        exact ((h6.secs a).keep hg7.size fun k hk hr => hg7.block k hk (fun e => hr.2.2.2.2 (Option.some.inj e))).mono fun k _ hr => ⟨.inl hr.1, hr.2⟩
                  have HO7 : Hid (OnlyF F w w7) := Lib.hid (HOr.out.trans HFr.out (HO6.out.grown hmem.2.2.2 hg7))
                  have HF7 : Hid (Fresh F (fun k => F' k ∨ w5.heap.size ≤ k ∧ k < w7.heap.size) w.heap.size) := Lib.hid (fun k hk => by
                    rcases hk with hk | hk
                    · exact HFr.out k hk
                    · have := HOr.out.size
                      exact .inr (by omega))
                  clear hz hi ox oy h6 hm7 hg7 hinF hmem HO6 hAlt hA9
                  go_wp2_with fail
                  go_roundw
                  case rel => exact ⟨j + 1, _, _, by omega, by go_num, H7.out, HO7.out, HF7.out⟩
                  case measure => simp [intOf]; omega
                · obtain rfl : K = j := by omega
                  (go_wp2_with fail); refine (nandEnd_any HRr.out sy 8).mono ?_
                  intro e w9 hp
                  obtain ⟨rfl, hq⟩ := hp
                  have HFIN : Hid (NandPost w F d ⟨c, l, b, p, sn⟩ (.int .i64 R.1) R.2 (.returned (.int .i64 (endE sy 8))) w9) := by
                    show NandPost _ _ _ _ _ _ _ _
                    rw [HR.out]
                    exact NandPost.from (F1 := F') ⟨rfl, hq⟩ HOr.out HFr.out
                  clear hq
                  go_wp2_with fail
                  go_ret
                  exact HFIN.out
          · have HRX : Hid (R = (7, S.bad)) := by show _ = _; rw [HR.out, if_pos hnx]
            have hnb : (S.next i != page) = true := by simp [hnx]
            clear hnx
            (go_wp2_with fail); refine (nandRefuse_any H1.out 7).mono ?_
            intro e w9 hp
            obtain ⟨rfl, hq⟩ := hp
            have HFIN : Hid (NandPost w F d ⟨c, l, b, p, sn⟩ (.int .i64 R.1) R.2 (.returned (.int .i64 7)) w9) := by
              show NandPost _ _ _ _ _ _ _ _
              rw [HRX.out]
              exact NandPost.from (F1 := F) ⟨rfl, hq⟩ HO1.out (Fresh.refl _ _)
            clear hq
            go_wp2_with fail
            go_ret
            exact HFIN.out

end Go.Proofs.Ytlkapaecaeldpaa
