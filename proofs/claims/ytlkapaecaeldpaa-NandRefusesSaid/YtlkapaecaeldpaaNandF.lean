/-
  Package nand: Erase.
-/
import Derived.Test.YtlkapaecaeldpaaNandE
set_option linter.unusedVariables false
set_option linter.unusedSimpArgs false
set_option maxRecDepth 16384
namespace Go.Proofs.Ytlkapaecaeldpaa
open Go.RowKit

/-- the sectors behind the erasing of a block's first k ones -/
def clrTo (g : Geo) (sec : Nat → Option (List Int × List Int)) (u n k : Int) : Nat → Option (List Int × List Int) := fun a =>
  if (a : Int) < g.all ∧ (g.ofP a).unit = u ∧ (g.ofP a).block = n ∧ (g.ofP a).page * g.sectors + (g.ofP a).sector < k then none else sec a
/-- .. of the block -/
def clrBlock (g : Geo) (sec : Nat → Option (List Int × List Int)) (u n : Int) : Nat → Option (List Int × List Int) := fun a =>
  if (a : Int) < g.all ∧ (g.ofP a).unit = u ∧ (g.ofP a).block = n then none else sec a

/-- what Erase tells, and what is there behind it -/
def eraseTo (g : Geo) (S : NSt) (u n : Int) : Int × NSt :=
  if S.off = true then (5, S) else
  match findIx g u n with
  | none => (1, S.bad)
  | some i =>
    if S.ret i = true then (10, S.bad)
    else
      (endE (nextP S.plan 0).1 9,
        NSt.cut { S with next := fun j => if j = i then (if (nextP S.plan 0).1 = 0 then 0 else g.pages) else S.next j, wear := fun j => if j = i then IntKind.i64.wrap (S.wear i + 1) else S.wear j,
                         plan := S.plan.tail, many := IntKind.i64.wrap (S.many + 1), sec := clrBlock g S.sec u n } (nextP S.plan 0).1)

theorem clrTo_zero (g : Geo) (hok : g.okB = true) (sec : Nat → Option (List Int × List Int)) (u n : Int) : clrTo g sec u n 0 = sec := by
  funext a
  unfold clrTo
  by_cases ha : (a : Int) < g.all
  · have hin := (Geo.of_in (Geo.ok_of hok) (show (0 : Int) ≤ a by omega) ha).1
    have h0 := hin.s.1
    have h1 := Int.mul_nonneg hin.pg.1 (show 0 ≤ g.sectors by have := (Geo.ok_of hok).s.1; omega)
    rw [if_neg (by omega)]
  · rw [if_neg (fun h => ha h.1)]

theorem clrTo_all (g : Geo) (hok : g.okB = true) (sec : Nat → Option (List Int × List Int)) (u n : Int) : clrTo g sec u n (g.pages * g.sectors) = clrBlock g sec u n := by
  funext a
  unfold clrTo clrBlock
  by_cases ha : (a : Int) < g.all
  · have hin := (Geo.of_in (Geo.ok_of hok) (show (0 : Int) ≤ a by omega) ha).1
    have h0 := hin.s.2
    have h1 : ((g.ofP a).page + 1) * g.sectors ≤ g.pages * g.sectors := Int.mul_le_mul_of_nonneg_right (by have := hin.pg.2; omega) (by have := (Geo.ok_of hok).s.1; omega)
    rw [Int.add_mul] at h1
    by_cases hc : (a : Int) < g.all ∧ (g.ofP a).unit = u ∧ (g.ofP a).block = n
    · rw [if_pos hc, if_pos ⟨hc.1, hc.2.1, hc.2.2, by omega⟩]
    · rw [if_neg hc, if_neg (fun h => hc ⟨h.1, h.2.1, h.2.2.1⟩)]
  · rw [if_neg (fun h => ha h.1), if_neg (fun h => ha h.1)]

theorem clrTo_step {g : Geo} (hok : g.okB = true) {sec : Nat → Option (List Int × List Int)} {u n page : Int} {j : Nat} {a : Nat} (hj : (j : Int) < g.sectors) (ha : (a : Int) < g.all) (hof : g.ofP a = ⟨u, n, page, j⟩) (hun : ∀ b : Nat, (b : Int) < g.all → g.ofP b = ⟨u, n, page, j⟩ → b = a) (b : Nat) :
    clrTo g sec u n (page * g.sectors + (j + 1 : Nat)) b = if b = a then none else clrTo g sec u n (page * g.sectors + j) b := by
  unfold clrTo
  by_cases hb : b = a
  · subst hb
    rw [if_pos rfl, hof]
    rw [if_pos ⟨ha, rfl, rfl, show page * g.sectors + (j : Int) < page * g.sectors + ((j + 1 : Nat) : Int) by omega⟩]
  · rw [if_neg hb]
    by_cases hc : (b : Int) < g.all ∧ (g.ofP b).unit = u ∧ (g.ofP b).block = n ∧ (g.ofP b).page * g.sectors + (g.ofP b).sector < page * g.sectors + (j + 1 : Nat)
    · have hin := (Geo.of_in (Geo.ok_of hok) (show (0 : Int) ≤ b by omega) hc.1).1
      have hne : (g.ofP b).page * g.sectors + (g.ofP b).sector ≠ page * g.sectors + j := fun e => by
        obtain ⟨e1, e2⟩ := div_of (q := (g.ofP b).page) hin.s.1 hin.s.2
        obtain ⟨e3, e4⟩ := div_of (q := page) (show (0 : Int) ≤ j by omega) hj
        rw [e] at e1 e2
        refine hb (hun b hc.1 ?_)
        have : g.ofP b = ⟨(g.ofP b).unit, (g.ofP b).block, (g.ofP b).page, (g.ofP b).sector⟩ := rfl
        rw [this, hc.2.1, hc.2.2.1, show (g.ofP b).page = page by omega, show (g.ofP b).sector = j by omega]
      rw [if_pos hc, if_pos ⟨hc.1, hc.2.1, hc.2.2.1, by have := hc.2.2.2; omega⟩]
    · rw [if_neg hc, if_neg (fun h => hc ⟨h.1, h.2.1, h.2.2.1, by have := h.2.2.2; omega⟩)]

theorem NandRaw.setWear {w : World} {F : Nat → Prop} {d : Nat} {g : Geo} {S : NSt} {pb bb mb : Nat} {lv : Value} {f : Nat → Option Value} (H : NandRaw w F d g S pb bb mb lv f) {i : Nat} (hi : i < g.nb) (x : Int) :
    NandRaw (w.setCell ⟨bb, i * 3 + 1, none⟩ (.int .i64 x)) F d g { S with wear := fun j => if j = i then x else S.wear j } pb bb mb lv f := by
  refine H.blockB (by simp) (fun k _ hk => Below.heap_setCell _ _ _ _ hk) fun j hj => ?_
  obtain ⟨h1, h2, h3⟩ := H.bls j hj
  have e1 := h1.set (b2 := bb) (o2 := i * 3 + 1) (.int .i64 x)
  have e2 := h2.set (b2 := bb) (o2 := i * 3 + 1) (.int .i64 x)
  have e3 := h3.set (b2 := bb) (o2 := i * 3 + 1) (.int .i64 x)
  rw [if_neg (by omega)] at e1 e3
  refine ⟨e1, ?_, e3⟩
  by_cases hji : j = i
  · subst hji
    rw [if_pos ⟨rfl, rfl⟩] at e2
    rw [if_pos rfl]
    exact e2
  · rw [if_neg (by omega)] at e2
    rw [if_neg hji]
    exact e2
theorem NandRaw.setRet {w : World} {F : Nat → Prop} {d : Nat} {g : Geo} {S : NSt} {pb bb mb : Nat} {lv : Value} {f : Nat → Option Value} (H : NandRaw w F d g S pb bb mb lv f) {i : Nat} (hi : i < g.nb) (x : Bool) :
    NandRaw (w.setCell ⟨bb, i * 3 + 2, none⟩ (.bool x)) F d g { S with ret := fun j => if j = i then x else S.ret j } pb bb mb lv f := by
  refine H.blockB (by simp) (fun k _ hk => Below.heap_setCell _ _ _ _ hk) fun j hj => ?_
  obtain ⟨h1, h2, h3⟩ := H.bls j hj
  have e1 := h1.set (b2 := bb) (o2 := i * 3 + 2) (.bool x)
  have e2 := h2.set (b2 := bb) (o2 := i * 3 + 2) (.bool x)
  have e3 := h3.set (b2 := bb) (o2 := i * 3 + 2) (.bool x)
  rw [if_neg (by omega)] at e1 e2
  refine ⟨e1, e2, ?_⟩
  by_cases hji : j = i
  · subst hji
    rw [if_pos ⟨rfl, rfl⟩] at e3
    rw [if_pos rfl]
    exact e3
  · rw [if_neg (by omega)] at e3
    rw [if_neg hji]
    exact e3

/-- what Retire tells, and what is there behind it -/
def retireTo (g : Geo) (S : NSt) (u n : Int) : Int × NSt :=
  if S.off = true then (5, S) else
  match findIx g u n with
  | none => (1, S.bad)
  | some i => (0, { S with ret := fun j => if j = i then true else S.ret j })

set_option maxHeartbeats 1000000 in
theorem nandRetire_any {w : World} {F : Nat → Prop} {d : Nat} {g : Geo} {S : NSt} (H : NandAt w F d g S) (u n : Int) :
    Calls Try.prog 48 #[.pointer (some ⟨d, 0, none⟩), .int .i64 u, .int .i64 n] w fun e w' => NandPost w F d g (.int .i64 (retireTo g S u n).1) (retireTo g S u n).2 e w' := by
  obtain ⟨pb, bb, mb, lv, f, H⟩ := H
  have HH := Lib.hid H
  have HP : Hid (retireTo g S u n = (if S.off = true then (5, S) else match findIx g u n with | none => (1, S.bad) | some i => (0, { S with ret := fun j => if j = i then true else S.ret j }) : Int × NSt)) := Lib.hid rfl
  obtain ⟨R, hR⟩ : ∃ R, retireTo g S u n = R := ⟨_, rfl⟩
  rw [hR] at HP
  rw [hR]
  clear hR
  obtain ⟨c, l, b, p, s⟩ := g
  have hdb := H.blk; have n0 : w.cell? ⟨d, 0, none⟩ = some (.bool S.off) := hdb.cell 0; have n1 : w.cell? ⟨d, 1, none⟩ = some (.int .i64 c) := hdb.cell 1; have n2 : w.cell? ⟨d, 2, none⟩ = some (.int .i64 l) := hdb.cell 2; have n3 : w.cell? ⟨d, 3, none⟩ = some (.int .i64 b) := hdb.cell 3; have n4 : w.cell? ⟨d, 4, none⟩ = some (.int .i64 p) := hdb.cell 4; have n5 : w.cell? ⟨d, 5, none⟩ = some (.int .i64 s) := hdb.cell 5; have n6 : w.cell? ⟨d, 6, none⟩ = some (.pointer (some ⟨pb, 0, none⟩)) := hdb.cell 6; have n7 : w.cell? ⟨d, 7, none⟩ = some (.slice (some ⟨bb, 0, none⟩) (Geo.nb ⟨c, l, b, p, s⟩) (Geo.nb ⟨c, l, b, p, s⟩)) := hdb.cell 7; have n8 : w.cell? ⟨d, 8, none⟩ = some (.map (some mb)) := hdb.cell 8; have n9 : w.cell? ⟨d, 9, none⟩ = some (.int .i64 S.wrong) := hdb.cell 9; have nlt := hdb.lt; clear hdb
  clear H
  obtain ⟨O, hO⟩ : ∃ O, S.off = O := ⟨_, rfl⟩
  rw [hO] at n0
  by_cases hoff : O = true
  · subst hoff
    have HFIN : Hid (NandPost w F d ⟨c, l, b, p, s⟩ (.int .i64 R.1) R.2 (.returned (.int .i64 5)) w) := by
      show NandPost _ _ _ _ _ _ _ _
      rw [HP.out, if_pos hO]
      exact ⟨rfl, F, ⟨pb, bb, mb, lv, f, HH.out⟩, OnlyF.refl _ _, Fresh.refl _ _⟩
    clear hO
    go_enter Try.func48, Try.ntmps48
    go_wp2_with fail
    go_ret
    exact HFIN.out
  obtain rfl : O = false := by simpa using hoff
  have hp2 := HP.out
  rw [if_neg (by rw [hO]; decide)] at hp2
  have HP2 := Lib.hid hp2
  clear hO hoff HP hp2
  go_enter Try.func48, Try.ntmps48
  (go_wp2_with fail); refine (nandFind_any HH.out u n).mono ?_
  rintro e w1 ⟨rfl, hb⟩
  have H1 := Lib.hid (HH.out.below hb)
  have HO1 := Lib.hid (OnlyF.below (F := F) hb)
  clear n0 n1 n2 n3 n4 n5 n6 n7 n8 n9
  clear hb
  cases hf : findIx ⟨c, l, b, p, s⟩ u n with
  | none =>
    have HRX : Hid (R = (1, S.bad)) := by show _ = _; rw [HP2.out, hf]
    clear hf HP2
    simp only [ptrO]
    (go_wp2_with fail); refine (nandRefuse_any H1.out 1).mono ?_
    intro e w9 hp
    obtain ⟨rfl, hq⟩ := hp
    have HFIN : Hid (NandPost w F d ⟨c, l, b, p, s⟩ (.int .i64 R.1) R.2 (.returned (.int .i64 1)) w9) := by
      show NandPost _ _ _ _ _ _ _ _
      rw [HRX.out]
      exact NandPost.from (F1 := F) ⟨rfl, hq⟩ HO1.out (Fresh.refl _ _)
    clear hq
    go_wp2_with fail
    go_ret
    exact HFIN.out
  | some i =>
    have hilt := findIx_lt hf
    obtain ⟨x0, x1, x2, y0, y1, y2⟩ := H1.out.cells hilt
    have hbl := World.block_lt_of_cell? w1 _ x0
    have HFIN : Hid (NandPost w F d ⟨c, l, b, p, s⟩ (.int .i64 R.1) R.2 (.returned (.int .i64 0)) (w1.setCell ⟨bb, i * 3 + 2, none⟩ (.bool true))) := by
      show NandPost _ _ _ _ _ _ _ _
      rw [HP2.out, hf]
      exact ⟨rfl, F, ⟨pb, bb, mb, lv, f, H1.out.setRet hilt true⟩, HO1.out.setCell (p := ⟨bb, i * 3 + 2, none⟩) H1.out.mem.2.2.1 _, Fresh.refl _ _⟩
    clear hf HP2 hilt
    simp only [ptrO]
    go_wp2_with fail
    go_ret
    exact HFIN.out

set_option maxHeartbeats 1000000 in
theorem nandPlan_any {w : World} {F : Nat → Prop} {d : Nat} {g : Geo} {S : NSt} (H : NandAt w F d g S) (v : Value) (xs : List Int) (hs : Sl w 0 v (bv xs)) (hb : ∀ x ∈ xs, IsB x) :
    Calls Try.prog 49 #[.pointer (some ⟨d, 0, none⟩), v] w fun e w' => NandPost w F d g (.tuple #[]) { S with plan := xs, many := 0 } e w' := by
  obtain ⟨pb, bb, mb, lv, f, H⟩ := H
  have HH := Lib.hid H
  have HS := Lib.hid hs
  have HB := Lib.hid hb
  clear H hs hb
  go_enter Try.func49, Try.ntmps49
  (go_wp2_with fail); refine (planNew_any v xs _ HS.out).mono ?_
  intro e w1 hp
  obtain ⟨p', lv', rfl, hpb, hpl, hple, hbw⟩ := hp
  have h1 := HH.out.below hbw
  have hdb := h1.blk
  have n6 : w1.cell? ⟨d, 6, none⟩ = some (.pointer (some ⟨pb, 0, none⟩)) := hdb.cell 6
  have f6 := hdb.free 6
  have nlt := hdb.lt
  have hF : ∀ k, F k → k < w.heap.size := HH.out.inF
  have hdw := hF d HH.out.mem.1
  have hpw1 := hpb.lt
  have HFIN : Hid (NandPost w F d g (.tuple #[]) { S with plan := xs, many := 0 } (.returned (.tuple #[])) (w1.setCell ⟨d, 6, none⟩ (.pointer (some ⟨p', 0, none⟩)))) := by
    refine ⟨rfl, fun k => F k ∨ w.heap.size ≤ k ∧ k < w1.heap.size, ⟨p', bb, mb, lv', f, ?_⟩, (OnlyF.below hbw).setCell (p := ⟨d, 6, none⟩) HH.out.mem.1 _, fun k hk => ?_⟩
    · refine HH.out.newPlan (by simpa using hbw.size) (fun k hk hne => (Below.heap_setCell _ _ _ _ hne).trans (hbw.block k hk)) (fun k hk => .inl hk) (fun k hk => ?_) ⟨.inr ⟨hple, hpw1⟩, hple⟩ ?_ ?_ ?_ HB.out
      · rcases hk with hk | hk
        · have := hF k hk; have := hbw.size; simp; omega
        · simpa using hk.2
      · exact hdb.set 6 _
      · exact hpb.set_other (a := ⟨d, 6, none⟩) (by show p' ≠ d; omega) _
      · refine (hpl.keep (by simp) fun k hk hq => Below.heap_setCell _ _ _ _ (fun e => ?_)).mono fun k hk hq => ?_
        · have e2 : k = d := e
          have := hq.1
          omega
        · have hk2 : k < w1.heap.size := by simpa using hk
          have h3 := hF bb HH.out.mem.2.2.1
          have h4 := hF mb HH.out.mem.2.2.2
          have h5 := hq.1
          exact ⟨.inr ⟨hq.1, hk2⟩, by omega, hq.2, by omega, by omega⟩
    · rcases hk with hk | hk
      · exact .inl hk
      · exact .inr hk.1
  clear h1 hdb hF hdw hpb hpl hple hbw hpw1
  go_wp2_with fail
  (first | (refine bodyPost_ret (results_none rfl _ _ _) rfl ?_) | (refine bodyPost_end (results_none rfl _ _ _) rfl ?_))
  exact HFIN.out

set_option maxHeartbeats 4000000 in
theorem nandErase_any {w : World} {F : Nat → Prop} {d : Nat} {g : Geo} {S : NSt} (H : NandAt w F d g S) (u n : Int) :
    Calls Try.prog 47 #[.pointer (some ⟨d, 0, none⟩), .int .i64 u, .int .i64 n] w fun e w' => NandPost w F d g (.int .i64 (eraseTo g S u n).1) (eraseTo g S u n).2 e w' := by
  obtain ⟨pb, bb, mb, lv, f, H⟩ := H
  have HH := Lib.hid H
  have HP : Hid (eraseTo g S u n = if S.off = true then (5, S) else match findIx g u n with
    | none => (1, S.bad)
    | some i => if S.ret i = true then (10, S.bad) else (endE (nextP S.plan 0).1 9, NSt.cut { S with next := fun j => if j = i then (if (nextP S.plan 0).1 = 0 then 0 else g.pages) else S.next j, wear := fun j => if j = i then IntKind.i64.wrap (S.wear i + 1) else S.wear j, plan := S.plan.tail, many := IntKind.i64.wrap (S.many + 1), sec := clrBlock g S.sec u n } (nextP S.plan 0).1)) := Lib.hid rfl
  obtain ⟨R, hR⟩ : ∃ R, eraseTo g S u n = R := ⟨_, rfl⟩
  rw [hR] at HP
  rw [hR]
  clear hR
  have hgo := Geo.ok_of H.ok
  have hs4 := hgo.s
  have hp32 := hgo.p
  have HGW := Lib.hid hgo.wf
  have HALL : Hid (g.all ≤ 65536) := by
    obtain ⟨m1, m2, m3, m4, m5', m6, m7, m8, m9, m10⟩ := geo_mul hgo.c.1 hgo.c.2 hgo.l.1 hgo.l.2 hgo.b.1 hgo.b.2 hgo.p.1 hgo.p.2 hgo.s.1 hgo.s.2
    exact m8
  obtain ⟨c, l, b, p, s⟩ := g
  simp only at HP hs4 hp32
  obtain ⟨hs1, hs4⟩ := hs4
  obtain ⟨hp1, hp32⟩ := hp32
  obtain ⟨sn, rfl⟩ : ∃ sn : Nat, s = sn := ⟨s.toNat, by omega⟩
  obtain ⟨pn, rfl⟩ : ∃ pn : Nat, p = pn := ⟨p.toNat, by omega⟩
  have hdb := H.blk; have n0 : w.cell? ⟨d, 0, none⟩ = some (.bool S.off) := hdb.cell 0; have n1 : w.cell? ⟨d, 1, none⟩ = some (.int .i64 c) := hdb.cell 1; have n2 : w.cell? ⟨d, 2, none⟩ = some (.int .i64 l) := hdb.cell 2; have n3 : w.cell? ⟨d, 3, none⟩ = some (.int .i64 b) := hdb.cell 3; have n4 : w.cell? ⟨d, 4, none⟩ = some (.int .i64 (pn : Int)) := hdb.cell 4; have n5 : w.cell? ⟨d, 5, none⟩ = some (.int .i64 (sn : Int)) := hdb.cell 5; have n6 : w.cell? ⟨d, 6, none⟩ = some (.pointer (some ⟨pb, 0, none⟩)) := hdb.cell 6; have n7 : w.cell? ⟨d, 7, none⟩ = some (.slice (some ⟨bb, 0, none⟩) (Geo.nb ⟨c, l, b, pn, sn⟩) (Geo.nb ⟨c, l, b, pn, sn⟩)) := hdb.cell 7; have n8 : w.cell? ⟨d, 8, none⟩ = some (.map (some mb)) := hdb.cell 8; have n9 : w.cell? ⟨d, 9, none⟩ = some (.int .i64 S.wrong) := hdb.cell 9; have nlt := hdb.lt; clear hdb
  clear H
  obtain ⟨O, hO⟩ : ∃ O, S.off = O := ⟨_, rfl⟩
  rw [hO] at n0
  by_cases hoff : O = true
  · subst hoff
    have HFIN : Hid (NandPost w F d ⟨c, l, b, pn, sn⟩ (.int .i64 R.1) R.2 (.returned (.int .i64 5)) w) := by
      show NandPost _ _ _ _ _ _ _ _
      rw [HP.out, if_pos hO]
      exact ⟨rfl, F, ⟨pb, bb, mb, lv, f, HH.out⟩, OnlyF.refl _ _, Fresh.refl _ _⟩
    clear hO hgo
    go_enter Try.func47, Try.ntmps47
    go_wp2_with fail
    go_ret
    exact HFIN.out
  obtain rfl : O = false := by simpa using hoff
  have hp2 := HP.out
  rw [if_neg (by rw [hO]; decide)] at hp2
  have HP2 := Lib.hid hp2
  clear hO hoff HP hp2
  go_enter Try.func47, Try.ntmps47
  (go_wp2_with fail); refine (nandFind_any HH.out u n).mono ?_
  rintro e w1 ⟨rfl, hb⟩
  have H1 := Lib.hid (HH.out.below hb)
  have HO1 := Lib.hid (OnlyF.below (F := F) hb)
  have h1 := H1.out
  clear n0 n1 n2 n3 n4 n5 n6 n7 n8 n9
  have hdb := h1.blk; have n0 : w1.cell? ⟨d, 0, none⟩ = some (.bool S.off) := hdb.cell 0; have n1 : w1.cell? ⟨d, 1, none⟩ = some (.int .i64 c) := hdb.cell 1; have n2 : w1.cell? ⟨d, 2, none⟩ = some (.int .i64 l) := hdb.cell 2; have n3 : w1.cell? ⟨d, 3, none⟩ = some (.int .i64 b) := hdb.cell 3; have n4 : w1.cell? ⟨d, 4, none⟩ = some (.int .i64 (pn : Int)) := hdb.cell 4; have n5 : w1.cell? ⟨d, 5, none⟩ = some (.int .i64 (sn : Int)) := hdb.cell 5; have n6 : w1.cell? ⟨d, 6, none⟩ = some (.pointer (some ⟨pb, 0, none⟩)) := hdb.cell 6; have n7 : w1.cell? ⟨d, 7, none⟩ = some (.slice (some ⟨bb, 0, none⟩) (Geo.nb ⟨c, l, b, pn, sn⟩) (Geo.nb ⟨c, l, b, pn, sn⟩)) := hdb.cell 7; have n8 : w1.cell? ⟨d, 8, none⟩ = some (.map (some mb)) := hdb.cell 8; have n9 : w1.cell? ⟨d, 9, none⟩ = some (.int .i64 S.wrong) := hdb.cell 9; have nlt := hdb.lt; clear hdb
  clear hb h1
  cases hf : findIx ⟨c, l, b, pn, sn⟩ u n with
  | none =>
    have HRX : Hid (R = (1, S.bad)) := by show _ = _; rw [HP2.out, hf]
    clear hf HP2 hgo
    simp only [ptrO]
    (go_wp2_with fail); refine (nandRefuse_any H1.out 1).mono ?_
    intro e w9 hp
    obtain ⟨rfl, hq⟩ := hp
    have HFIN : Hid (NandPost w F d ⟨c, l, b, pn, sn⟩ (.int .i64 R.1) R.2 (.returned (.int .i64 1)) w9) := by
      show NandPost _ _ _ _ _ _ _ _
      rw [HRX.out]
      exact NandPost.from (F1 := F) ⟨rfl, hq⟩ HO1.out (Fresh.refl _ _)
    clear hq
    go_wp2_with fail
    go_ret
    exact HFIN.out
  | some i =>
    have HR2 := HP2.out
    rw [hf] at HR2
    simp only at HR2
    have HR := Lib.hid HR2
    have hin := findIx_in hf
    have HIN := Lib.hid hin
    have hilt := findIx_lt hf
    have HILT := Lib.hid hilt
    obtain ⟨x0, x1, x2, y0, y1, y2⟩ := H1.out.cells hilt
    have hbl := World.block_lt_of_cell? w1 _ x0
    simp only at hin hbl
    obtain ⟨hu0, hu1, hn0, hn1⟩ := hin
    have HPW : Hid (∀ pg j : Nat, pg ≤ 32 → j ≤ 4 → Place.Wf ⟨u, n, pg, j⟩) := fun pg j hpg hj => by
      have hcl : c * l ≤ 4 * 2 := Int.mul_le_mul hgo.c.2 hgo.l.2 (by have := hgo.l.1; simp only at this; omega) (by omega)
      have hb64 := hgo.b.2
      simp only at hb64
      exact ⟨⟨by simp only; omega, by simp only; omega⟩, ⟨by simp only; omega, by simp only; omega⟩, ⟨by simp only; omega, by simp only; omega⟩, ⟨by simp only; omega, by simp only; omega⟩⟩
    clear HR2 hf HP2 hilt hgo
    simp only [ptrO]
    obtain ⟨RT, hRT⟩ : ∃ x, S.ret i = x := ⟨_, rfl⟩
    rw [hRT] at x2 HR
    clear hRT
    cases RT with
    | true =>
      have HRX : Hid (R = (10, S.bad)) := by show _ = _; rw [HR.out, if_pos rfl]
      (go_wp2_with fail); refine (nandRefuse_any H1.out 10).mono ?_
      intro e w9 hp
      obtain ⟨rfl, hq⟩ := hp
      have HFIN : Hid (NandPost w F d ⟨c, l, b, pn, sn⟩ (.int .i64 R.1) R.2 (.returned (.int .i64 10)) w9) := by
        show NandPost _ _ _ _ _ _ _ _
        rw [HRX.out]
        exact NandPost.from (F1 := F) ⟨rfl, hq⟩ HO1.out (Fresh.refl _ _)
      clear hq
      go_wp2_with fail
      go_ret
      exact HFIN.out
    | false =>
      have HR2 := HR.out
      rw [if_neg (by decide)] at HR2
      clear HR
      have HR := Lib.hid HR2
      clear HR2
      obtain ⟨WR, hWR⟩ : ∃ x, IntKind.i64.wrap (S.wear i + 1) = x := ⟨_, rfl⟩
      rw [hWR] at HR
      have H2 := Lib.hid (H1.out.setWear HILT.out WR)
      have HO2 := Lib.hid (HO1.out.setCell (p := ⟨bb, i * 3 + 1, none⟩) H1.out.mem.2.2.1 (.int .i64 WR))
      have hap := H1.out.apart.2.1
      go_wp2_with fail
      go_loopw [45] (fun t wr => ∃ (pg : Nat) (f' : Nat → Option Value), pg ≤ pn ∧ t = .int .i64 pg ∧ Hid (NandRaw wr F d ⟨c, l, b, pn, sn⟩ { S with wear := fun x => if x = i then WR else S.wear x, sec := clrTo ⟨c, l, b, pn, sn⟩ S.sec u n ((pg : Int) * (sn : Int)) } pb bb mb lv f') ∧ Hid (OnlyF F w wr)) (fun t _ => ((pn : Int) - intOf t).toNat)
      case atStart =>
        refine ⟨0, f, Nat.zero_le _, rfl, ?_, HO2.out⟩
        show NandRaw _ _ _ _ _ _ _ _ _ _
        rw [show ((0 : Nat) : Int) * (sn : Int) = 0 by simp, clrTo_zero _ H2.out.ok]
        exact H2.out
      case round =>
        obtain ⟨pg, f', hpg, rfl, HRr, HOr⟩ := hrel
        have hr := HRr.out
        clear n0 n1 n2 n3 n4 n5 n6 n7 n8 n9
        have hdb := hr.blk; have n0 : wr.cell? ⟨d, 0, none⟩ = some (.bool S.off) := hdb.cell 0; have n1 : wr.cell? ⟨d, 1, none⟩ = some (.int .i64 c) := hdb.cell 1; have n2 : wr.cell? ⟨d, 2, none⟩ = some (.int .i64 l) := hdb.cell 2; have n3 : wr.cell? ⟨d, 3, none⟩ = some (.int .i64 b) := hdb.cell 3; have n4 : wr.cell? ⟨d, 4, none⟩ = some (.int .i64 (pn : Int)) := hdb.cell 4; have n5 : wr.cell? ⟨d, 5, none⟩ = some (.int .i64 (sn : Int)) := hdb.cell 5; have n6 : wr.cell? ⟨d, 6, none⟩ = some (.pointer (some ⟨pb, 0, none⟩)) := hdb.cell 6; have n7 : wr.cell? ⟨d, 7, none⟩ = some (.slice (some ⟨bb, 0, none⟩) (Geo.nb ⟨c, l, b, pn, sn⟩) (Geo.nb ⟨c, l, b, pn, sn⟩)) := hdb.cell 7; have n8 : wr.cell? ⟨d, 8, none⟩ = some (.map (some mb)) := hdb.cell 8; have n9 : wr.cell? ⟨d, 9, none⟩ = some (.int .i64 S.wrong) := hdb.cell 9; have nlt := hdb.lt; clear hdb
        clear hr H2 HO2 x0 x1 x2 y0 y1 y2
        by_cases hlt : pg < pn
        · have hpg0 : (0 : Int) ≤ pg := by omega
          go_wp2_with fail
          go_loopw [53] (fun t wr => ∃ (j : Nat) (f' : Nat → Option Value), j ≤ sn ∧ t = .int .i64 j ∧ Hid (NandRaw wr F d ⟨c, l, b, pn, sn⟩ { S with wear := fun x => if x = i then WR else S.wear x, sec := clrTo ⟨c, l, b, pn, sn⟩ S.sec u n ((pg : Int) * (sn : Int) + (j : Nat)) } pb bb mb lv f') ∧ Hid (OnlyF F w wr)) (fun t _ => ((sn : Int) - intOf t).toNat)
          case atStart =>
            refine ⟨0, f', Nat.zero_le _, rfl, ?_, HOr.out⟩
            show NandRaw _ _ _ _ _ _ _ _ _ _
            rw [show (pg : Int) * (sn : Int) + ((0 : Nat) : Int) = (pg : Int) * sn by simp]
            exact HRr.out
          case round =>
            clear HRr HOr
            obtain ⟨j, f2, hj, rfl, HR2, HO2⟩ := hrel
            have hr := HR2.out
            clear n0 n1 n2 n3 n4 n5 n6 n7 n8 n9
            have hdb := hr.blk; have n0 : wr.cell? ⟨d, 0, none⟩ = some (.bool S.off) := hdb.cell 0; have n1 : wr.cell? ⟨d, 1, none⟩ = some (.int .i64 c) := hdb.cell 1; have n2 : wr.cell? ⟨d, 2, none⟩ = some (.int .i64 l) := hdb.cell 2; have n3 : wr.cell? ⟨d, 3, none⟩ = some (.int .i64 b) := hdb.cell 3; have n4 : wr.cell? ⟨d, 4, none⟩ = some (.int .i64 (pn : Int)) := hdb.cell 4; have n5 : wr.cell? ⟨d, 5, none⟩ = some (.int .i64 (sn : Int)) := hdb.cell 5; have n6 : wr.cell? ⟨d, 6, none⟩ = some (.pointer (some ⟨pb, 0, none⟩)) := hdb.cell 6; have n7 : wr.cell? ⟨d, 7, none⟩ = some (.slice (some ⟨bb, 0, none⟩) (Geo.nb ⟨c, l, b, pn, sn⟩) (Geo.nb ⟨c, l, b, pn, sn⟩)) := hdb.cell 7; have n8 : wr.cell? ⟨d, 8, none⟩ = some (.map (some mb)) := hdb.cell 8; have n9 : wr.cell? ⟨d, 9, none⟩ = some (.int .i64 S.wrong) := hdb.cell 9; have nlt := hdb.lt; clear hdb
            clear hr
            by_cases hlt2 : j < sn
            · have hjs : (j : Int) < sn := by omega
              obtain ⟨A, hA1, hA2, hA3, hA4, hA5⟩ := adr_of (g := ⟨c, l, b, pn, sn⟩) (page := pg) (j := j) HR2.out.ok HIN.out ⟨by omega, by simp only; omega⟩ (by simp only; exact hjs)
              have HA1 := Lib.hid hA1
              have HA2 := Lib.hid hA2
              have HA := Lib.hid (And.intro hA3 (And.intro hA4 hA5))
              clear hA1 hA2 hA3 hA4 hA5
              (go_wp2_with fail); refine (geomNumber_any ⟨c, l, b, pn, sn⟩ ⟨u, n, pg, j⟩ _ HGW.out (HPW.out pg j (by omega) (by omega))).mono ?_
              rintro e w5 ⟨rfl, hb⟩
              rw [HA1.out, HA2.out]
              have h5 := HR2.out.below hb
              have HO5 := Lib.hid (HO2.out.step hb)
              have hA9 : Geo.all ⟨c, l, b, pn, sn⟩ ≤ 65536 := HALL.out
              have hA9' : A ≤ 9223372036854775807 := by have := HA.out.1; omega
              clear n0 n1 n2 n3 n4 n5 n6 n7 n8 n9
              have hdb := h5.blk; have n0 : w5.cell? ⟨d, 0, none⟩ = some (.bool S.off) := hdb.cell 0; have n1 : w5.cell? ⟨d, 1, none⟩ = some (.int .i64 c) := hdb.cell 1; have n2 : w5.cell? ⟨d, 2, none⟩ = some (.int .i64 l) := hdb.cell 2; have n3 : w5.cell? ⟨d, 3, none⟩ = some (.int .i64 b) := hdb.cell 3; have n4 : w5.cell? ⟨d, 4, none⟩ = some (.int .i64 (pn : Int)) := hdb.cell 4; have n5 : w5.cell? ⟨d, 5, none⟩ = some (.int .i64 (sn : Int)) := hdb.cell 5; have n6 : w5.cell? ⟨d, 6, none⟩ = some (.pointer (some ⟨pb, 0, none⟩)) := hdb.cell 6; have n7 : w5.cell? ⟨d, 7, none⟩ = some (.slice (some ⟨bb, 0, none⟩) (Geo.nb ⟨c, l, b, pn, sn⟩) (Geo.nb ⟨c, l, b, pn, sn⟩)) := hdb.cell 7; have n8 : w5.cell? ⟨d, 8, none⟩ = some (.map (some mb)) := hdb.cell 8; have n9 : w5.cell? ⟨d, 9, none⟩ = some (.int .i64 S.wrong) := hdb.cell 9; have nlt := hdb.lt; clear hdb
              have H5 := Lib.hid h5
              clear hb h5
              go_wp2_with (first | (at_delete; refine wpList_delete_is w5 rfl (.tmp 72) (.tmp 73) 60 3 rfl 134 keyed_int Try.underlying3 Try.underlying60 mb _ f2 rfl H5.out.map A hA9' rfl ?KDEL))
              case KDEL =>
                intro w7 hm7 hg7
                have H7 : Hid (NandRaw w7 F d ⟨c, l, b, pn, sn⟩ { S with wear := fun x => if x = i then WR else S.wear x, sec := clrTo ⟨c, l, b, pn, sn⟩ S.sec u n ((pg : Int) * (sn : Int) + (j + 1 : Nat)) } pb bb mb lv (fun x => if x = A then none else f2 x)) := by
                  refine H5.out.blockM hg7.size (fun k hk hne => hg7.block k hk (fun e => hne (Option.some.inj e))) (fun k hk => hk) (fun k hk => Nat.lt_of_lt_of_le (H5.out.inF k hk) hg7.size) hm7 (fun a => ?_)
                  have hstep := clrTo_step H5.out.ok (sec := S.sec) (u := u) (n := n) (page := pg) (by simp only; exact hjs) HA.out.1 HA.out.2.1 HA.out.2.2 a
                  simp only at hstep
                  rw [hstep]
                  by_cases ha : a = A
                  · rw [if_pos ha, if_pos ha]; rfl
                  · rw [if_neg ha, if_neg ha]
                    exact (H5.out.secs a).keep hg7.size fun k hk hr => hg7.block k hk (fun e => hr.2.2.2.2 (Option.some.inj e))
                have HO7 := Lib.hid (HO5.out.grown H5.out.mem.2.2.2 hg7)
                clear hm7 hg7
                go_wp2_with fail
                go_roundw
                case rel => exact ⟨j + 1, _, by omega, by go_num, H7.out, HO7.out⟩
                case measure => simp [intOf]; omega
            · obtain rfl : sn = j := by omega
              have HN : Hid (NandRaw wr F d ⟨c, l, b, pn, sn⟩ { S with wear := fun x => if x = i then WR else S.wear x, sec := clrTo ⟨c, l, b, pn, sn⟩ S.sec u n (((pg + 1 : Nat) : Int) * (sn : Int)) } pb bb mb lv f2) := by
                show NandRaw _ _ _ _ _ _ _ _ _ _
                rw [show ((pg + 1 : Nat) : Int) * (sn : Int) = (pg : Int) * sn + (sn : Nat) by rw [show ((pg + 1 : Nat) : Int) = (pg : Int) + 1 by omega, Int.add_mul, Int.one_mul]]
                exact HR2.out
              go_wp2_with fail
              go_roundw
              case rel => exact ⟨pg + 1, f2, by omega, by go_num, HN.out, HO2.out⟩
              case measure => simp [intOf]; omega
        · obtain rfl : pn = pg := by omega
          have hcl := clrTo_all ⟨c, l, b, pn, sn⟩ HRr.out.ok S.sec u n
          simp only at hcl
          rw [hcl] at HRr
          have h2 := HRr.out
          have HNP : Hid (0 ≤ (0 : Int)) := Lib.hid (by omega)
          (go_wp2_with fail); refine (planNext_any h2.pl h2.left (fun h => h.2.2.1 rfl) h2.leftB 0 ⟨by omega, by omega⟩).mono ?_
          intro e w4 hp
          obtain ⟨rfl, ⟨lv', hpb, hpl⟩, hpo⟩ := hp
          have h4 := HRr.out.blockP hpo.size (fun k hk hne => hpo.block k hk hne) hpb hpl (fun x hx => h2.leftB x (List.mem_of_mem_tail hx))
          have HO4 := Lib.hid (HOr.out.trans (Fresh.refl F _) (hpo.mono fun k hk => hk ▸ HRr.out.mem.2.1))
          simp only at h4 ⊢
          obtain ⟨r2, hr2⟩ : ∃ x, nextP S.plan 0 = x := ⟨_, rfl⟩
          rw [hr2] at HR ⊢
          obtain ⟨sy, kp⟩ := r2
          simp only at HR ⊢
          clear n0 n1 n2 n3 n4 n5 n6 n7 n8 n9
          have hdb := h4.blk; have n0 : w4.cell? ⟨d, 0, none⟩ = some (.bool S.off) := hdb.cell 0; have n1 : w4.cell? ⟨d, 1, none⟩ = some (.int .i64 c) := hdb.cell 1; have n2 : w4.cell? ⟨d, 2, none⟩ = some (.int .i64 l) := hdb.cell 2; have n3 : w4.cell? ⟨d, 3, none⟩ = some (.int .i64 b) := hdb.cell 3; have n4 : w4.cell? ⟨d, 4, none⟩ = some (.int .i64 (pn : Int)) := hdb.cell 4; have n5 : w4.cell? ⟨d, 5, none⟩ = some (.int .i64 (sn : Int)) := hdb.cell 5; have n6 : w4.cell? ⟨d, 6, none⟩ = some (.pointer (some ⟨pb, 0, none⟩)) := hdb.cell 6; have n7 : w4.cell? ⟨d, 7, none⟩ = some (.slice (some ⟨bb, 0, none⟩) (Geo.nb ⟨c, l, b, pn, sn⟩) (Geo.nb ⟨c, l, b, pn, sn⟩)) := hdb.cell 7; have n8 : w4.cell? ⟨d, 8, none⟩ = some (.map (some mb)) := hdb.cell 8; have n9 : w4.cell? ⟨d, 9, none⟩ = some (.int .i64 S.wrong) := hdb.cell 9; have nlt := hdb.lt; clear hdb
          obtain ⟨x0, x1, x2, y0, y1, y2⟩ := h4.cells HILT.out
          have hbl4 := World.block_lt_of_cell? w4 _ x0
          have H4 := Lib.hid h4
          have H5 := Lib.hid (h4.setNext HILT.out (pn : Int))
          have HO5 := Lib.hid (HO4.out.setCell (p := ⟨bb, i * 3, none⟩) H4.out.mem.2.2.1 (.int .i64 (pn : Int)))
          have hap4 := h4.apart
          clear h2 h4 hpb hpl hpo hr2 hcl
          by_cases hsy : sy = 0
          · subst hsy
            have h5 := H5.out
            have H6 := Lib.hid (h5.setNext HILT.out 0)
            have HO6 := Lib.hid (HO5.out.setCell (p := ⟨bb, i * 3, none⟩) H4.out.mem.2.2.1 (.int .i64 0))
            clear h5
            (go_wp2_with fail); refine (nandEnd_any H6.out 0 9).mono ?_
            intro e w9 hp
            obtain ⟨rfl, hq⟩ := hp
            have HFIN : Hid (NandPost w F d ⟨c, l, b, pn, sn⟩ (.int .i64 R.1) R.2 (.returned (.int .i64 (endE 0 9))) w9) := by
              show NandPost _ _ _ _ _ _ _ _
              have hrr := HR.out
              simp only [if_true] at hrr
              rw [hrr]
              refine NandPost.from (F1 := F) ⟨rfl, ?_⟩ HO6.out (Fresh.refl _ _)
              obtain ⟨F', hq1, hq2⟩ := hq
              refine ⟨F', ?_, hq2⟩
              have e : (fun j => if j = i then (0 : Int) else if j = i then (pn : Int) else S.next j) = fun j => if j = i then (0 : Int) else S.next j := by
                funext j
                by_cases hj : j = i
                · rw [if_pos hj, if_pos hj]
                · rw [if_neg hj, if_neg hj, if_neg hj]
              rw [e] at hq1
              exact hq1
            clear hq
            go_wp2_with fail
            go_ret
            exact HFIN.out
          · have hsb : (sy == 0) = false := by simp [hsy]
            have HR3 := HR.out
            rw [if_neg hsy] at HR3
            clear HR hsy
            have HR := Lib.hid HR3
            clear HR3
            (go_wp2_with fail); refine (nandEnd_any H5.out sy 9).mono ?_
            intro e w9 hp
            obtain ⟨rfl, hq⟩ := hp
            have HFIN : Hid (NandPost w F d ⟨c, l, b, pn, sn⟩ (.int .i64 R.1) R.2 (.returned (.int .i64 (endE sy 9))) w9) := by
              show NandPost _ _ _ _ _ _ _ _
              rw [HR.out]
              exact NandPost.from (F1 := F) ⟨rfl, hq⟩ HO5.out (Fresh.refl _ _)
            clear hq
            go_wp2_with fail
            go_ret
            exact HFIN.out

end Go.Proofs.Ytlkapaecaeldpaa
