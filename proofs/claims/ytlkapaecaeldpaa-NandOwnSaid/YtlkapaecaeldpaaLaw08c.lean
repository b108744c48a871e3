/-
  The walks of the laws over package nand: NandOwn.
-/
import Derived.Test.YtlkapaecaeldpaaLaw08b
set_option linter.unusedVariables false
set_option linter.unusedSimpArgs false
set_option maxRecDepth 16384
namespace Go.Proofs.Ytlkapaecaeldpaa
open Go.RowKit

def gOwn : Geo := ⟨1, 1, 1, 1, 2⟩
def sOwn (n : Int) : NSt := (progTo gOwn (newS []) 0 0 0 (secsD 2 n) (secsO 2 n false)).2
theorem own_new : badOk gOwn [] = true := by decide +kernel
theorem own_prog (n : Int) : (progTo gOwn (newS []) 0 0 0 (secsD 2 n) (secsO 2 n false)).1 = 0 := by kernel_rfl
theorem own_read (n : Int) (i : Nat) (hi : i < 2) : readOf gOwn (sOwn n) i = (secD n i, secO n i, 0) := by
  rcases (show i = 0 ∨ i = 1 by omega) with rfl | rfl
  · kernel_rfl
  · kernel_rfl

theorem own_above {w w' : World} {B : Nat} {t : TypeId} {sz n : Nat} {v : Value} {xs : List Value} (h : w.ownsRow B t sz v n xs) (hb : ∀ k, k < w.heap.size → B ≤ k → w'.heap[k]? = w.heap[k]?) : w'.ownsRow B t sz v n xs := by
  obtain ⟨h1, h2⟩ := h
  refine ⟨h1, ?_⟩
  rcases h2 with h2 | ⟨b, cap, cur, h3, h4, h5, h6⟩
  · exact .inl h2
  · exact .inr ⟨b, cap, cur, h3, h4, (hb b (Array.getElem?_eq_some_iff.1 h5).1 h4).trans h5, h6⟩
theorem SecsAt.keep {t tt : TypeId} {w w' : World} {base : Nat} {vd vo : Value} {n : Int} {odd : Bool} {bs cs : List Nat} (h : SecsAt t tt w base vd vo n odd bs cs) (hb : ∀ k, k < w.heap.size → base ≤ k → w'.heap[k]? = w.heap[k]?) : SecsAt t tt w' base vd vo n odd bs cs :=
  ⟨own_above h.rd hb, own_above h.ro hb, fun j b hj => ⟨(h.bd j b hj).1, (hb b (h.bd j b hj).2.lt (h.bd j b hj).1).trans (h.bd j b hj).2⟩, fun j b hj => ⟨(h.bo j b hj).1, (hb b (h.bo j b hj).2.lt (h.bo j b hj).1).trans (h.bo j b hj).2⟩, h.len, h.le, h.ap⟩

/-- rows of slices into blocks of any bytes -/
structure AnyRows (t tt : TypeId) (w : World) (base : Nat) (vd vo : Value) (bs cs : List Nat) : Prop where
  rd : w.ownsRow base tt 1 vd bs.length (rowD bs)
  ro : w.ownsRow base tt 1 vo cs.length (rowO false cs)
  bd : ∀ (j b : Nat), bs[j]? = some b → base ≤ b ∧ ∃ zs : List Int, zs.length = 16 ∧ Blk w b t (bv zs)
  bo : ∀ (j c : Nat), cs[j]? = some c → base ≤ c ∧ ∃ zs : List Int, zs.length = 17 ∧ Blk w c t (bv zs)

theorem AnyRows.below {t tt : TypeId} {w w' : World} {base : Nat} {vd vo : Value} {bs cs : List Nat} (h : AnyRows t tt w base vd vo bs cs) (hb : ∀ k, k < w.heap.size → base ≤ k → w'.heap[k]? = w.heap[k]?) : AnyRows t tt w' base vd vo bs cs :=
  ⟨own_above h.rd hb, own_above h.ro hb, fun j b hj => by obtain ⟨h1, zs, h2, h3⟩ := h.bd j b hj; exact ⟨h1, zs, h2, (hb b h3.lt h1).trans h3⟩, fun j b hj => by obtain ⟨h1, zs, h2, h3⟩ := h.bo j b hj; exact ⟨h1, zs, h2, (hb b h3.lt h1).trans h3⟩⟩

/-- a byte of one of them is written -/
theorem AnyRows.set {t tt : TypeId} (ht : tt ≠ t) {w : World} {base : Nat} {vd vo : Value} {bs cs : List Nat} (h : AnyRows t tt w base vd vo bs cs) {g : Nat} {xs : List Int} (hg : Blk w g t (bv xs)) (k : Nat) (x : Int) : AnyRows t tt (w.setCell ⟨g, k, none⟩ (.int .u8 x)) base vd vo bs cs := by
  have hne : ∀ v n ys, w.ownsRow base tt 1 v n ys → (w.setCell ⟨g, k, none⟩ (.int .u8 x)).ownsRow base tt 1 v n ys := fun v n ys ho => by
    have h1 := own_ne_blk ho hg ht
    obtain ⟨h2, h3⟩ := ho
    refine ⟨h2, ?_⟩
    rcases h3 with h3 | ⟨b, cap, cur, rfl, h4, h5, h6⟩
    · exact .inl h3
    · exact .inr ⟨b, cap, cur, rfl, h4, (Below.heap_setCell _ _ _ _ (fun e => h1 (by rw [show b = g from e]; rfl))).trans h5, h6⟩
  have hblk : ∀ b m, (∃ zs : List Int, zs.length = m ∧ Blk w b t (bv zs)) → ∃ zs : List Int, zs.length = m ∧ Blk (w.setCell ⟨g, k, none⟩ (.int .u8 x)) b t (bv zs) := fun b m ⟨zs, hl, hb⟩ => by
    by_cases e : b = g
    · subst e
      refine ⟨zs.set k x, by rw [List.length_set]; exact hl, ?_⟩
      have := hb.set k (.int .u8 x)
      rwa [show (bv zs).set k (.int .u8 x) = bv (zs.set k x) by simp [bv, List.map_set]] at this
    · exact ⟨zs, hl, hb.set_other (a := ⟨g, k, none⟩) e _⟩
  exact ⟨hne _ _ _ h.rd, hne _ _ _ h.ro, fun j b hj => ⟨(h.bd j b hj).1, hblk b _ (h.bd j b hj).2⟩, fun j b hj => ⟨(h.bo j b hj).1, hblk b _ (h.bo j b hj).2⟩⟩

theorem SecsAt.any {t tt : TypeId} {w : World} {base : Nat} {vd vo : Value} {n : Int} {bs cs : List Nat} (h : SecsAt t tt w base vd vo n false bs cs) : AnyRows t tt w base vd vo bs cs :=
  ⟨h.rd, h.ro, fun j b hj => ⟨(h.bd j b hj).1, _, secD_length n j, (h.bd j b hj).2⟩, fun j b hj => ⟨(h.bo j b hj).1, _, secO_length n j, (h.bo j b hj).2⟩⟩

/-- what an index finds in a row of slices -/
theorem row_at {w : World} {base m : Nat} {tt : TypeId} {v : Value} {ys : List Value} (h : w.ownsRow base tt 1 v m ys) {j : Nat} {x : Value} (hj : ys[j]? = some x) : ∃ g cap, v = .slice (some ⟨g, 0, none⟩) m cap ∧ g < w.heap.size ∧ w.cell? ⟨g, j, none⟩ = some x := by
  obtain ⟨h1, h2⟩ := h
  have hjl := (List.getElem?_eq_some_iff.1 hj).1
  rcases h2 with ⟨_, rfl⟩ | ⟨g, cap, cur, rfl, h3, h4, h5, h6, h7, h8⟩
  · omega
  · refine ⟨g, cap, rfl, (Array.getElem?_eq_some_iff.1 h4).1, ?_⟩
    rw [← h8, List.getElem?_take] at hj
    split at hj
    · simp only [World.cell?, h4]
      simpa using hj
    · cases hj

set_option maxHeartbeats 4000000 in
theorem nandOwnWalk (n : Int) (w : World) (hn : (Lit.int .i64 n).wf = true) :
    Calls Try.prog 4 #[.int .i64 n] w fun e w' => e = .returned (.bool true) ∧ Below w.heap.size w w' := by
  clear hn
  go_enter Try.func4, Try.ntmps4
  (go_wp2_with fail); refine (awake08_any _).mono ?_
  rintro e w1 ⟨rfl, hb⟩
  have HB1 := Lib.hid hb
  have HG := Lib.hid (Blk.new w1 23 [.int .i64 1, .int .i64 1, .int .i64 1, .int .i64 1, .int .i64 2])
  have HBa : Hid (Below w.heap.size w (w1.alloc (.cells #[.int .i64 1, .int .i64 1, .int .i64 1, .int .i64 1, .int .i64 2] 23))) := Lib.hid (hb.alloc hb.size _)
  clear hb
  (go_wp2_with fail); refine (nandNew_any gOwn (.slice none 0 0) [] _ ⟨⟨by decide, by decide⟩, ⟨by decide, by decide⟩, ⟨by decide, by decide⟩, ⟨by decide, by decide⟩, ⟨by decide, by decide⟩⟩ (show Sl _ 0 (.slice none 0 0) (iv []) from (SlQ.nil _ (fun _ => True)).sl) (by simp)).mono ?_
  intro e w2 hp
  obtain ⟨hb, d, F, rfl, hn, hF⟩ := newN_is hp own_new
  have HN2 := Lib.hid hn
  have hw1s := HB1.out.size
  have HF2 : Hid (∀ k, F k → w.heap.size ≤ k) := fun k hk => by have := hF k hk; simp at this; omega
  have HB2 := Lib.hid (HBa.out.trans (hb.mono HBa.out.size))
  have HG2 := Lib.hid (HG.out.below hb)
  have hg1 := HG2.out
  have k0 : w2.cell? ⟨w1.heap.size, 0, none⟩ = some (.int .i64 1) := hg1.cell 0
  have k1 : w2.cell? ⟨w1.heap.size, 1, none⟩ = some (.int .i64 1) := hg1.cell 1
  have k2 : w2.cell? ⟨w1.heap.size, 2, none⟩ = some (.int .i64 1) := hg1.cell 2
  have k3 : w2.cell? ⟨w1.heap.size, 3, none⟩ = some (.int .i64 1) := hg1.cell 3
  have k4 : w2.cell? ⟨w1.heap.size, 4, none⟩ = some (.int .i64 2) := hg1.cell 4
  have hgl := hg1.lt
  clear hp hb hn hF hg1
  (go_wp2_with fail); refine (sectors_any gOwn n false _).mono ?_
  intro e w3 hp
  obtain ⟨vd, vo, bs, cs, rfl, hs, hbl, hb⟩ := hp
  have hbl1 : bs.length = 2 := hbl
  have hcl1 : cs.length = 2 := by rw [← hs.len]; exact hbl1
  obtain ⟨gd, cd, rfl⟩ : ∃ g cap, vd = .slice (some ⟨g, 0, none⟩) 2 cap := by have := hs.rd; rw [hbl1] at this; exact own_form this (by decide)
  obtain ⟨go, co, rfl⟩ : ∃ g cap, vo = .slice (some ⟨g, 0, none⟩) 2 cap := by have := hs.ro; rw [hcl1] at this; exact own_form this (by decide)
  have HN3 := Lib.hid (HN2.out.below hb)
  have HB3 := Lib.hid (HB2.out.trans (hb.mono HB2.out.size))
  have HS3 := Lib.hid hs
  have HIN := Lib.hid HN2.out.inF
  have HSZ3 := Lib.hid hb.size
  have HBL := Lib.hid hbl1
  have hg1 := HG2.out.below hb
  have k0 : w3.cell? ⟨w1.heap.size, 0, none⟩ = some (.int .i64 1) := hg1.cell 0
  have k1 : w3.cell? ⟨w1.heap.size, 1, none⟩ = some (.int .i64 1) := hg1.cell 1
  have k2 : w3.cell? ⟨w1.heap.size, 2, none⟩ = some (.int .i64 1) := hg1.cell 2
  have k3 : w3.cell? ⟨w1.heap.size, 3, none⟩ = some (.int .i64 1) := hg1.cell 3
  have k4 : w3.cell? ⟨w1.heap.size, 4, none⟩ = some (.int .i64 2) := hg1.cell 4
  have hgl := hg1.lt
  clear hs hbl hbl1 hcl1 hb hg1
  simp only []
  (go_wp2_with fail); refine (sectors_any gOwn n false _).mono ?_
  intro e w4 hp
  obtain ⟨ve, vp, es, ps, rfl, hs, hbl, hb⟩ := hp
  have hbl1 : es.length = 2 := hbl
  have hcl1 : ps.length = 2 := by rw [← hs.len]; exact hbl1
  obtain ⟨ge, ce, rfl⟩ : ∃ g cap, ve = .slice (some ⟨g, 0, none⟩) 2 cap := by have := hs.rd; rw [hbl1] at this; exact own_form this (by decide)
  obtain ⟨gp, cp, rfl⟩ : ∃ g cap, vp = .slice (some ⟨g, 0, none⟩) 2 cap := by have := hs.ro; rw [hcl1] at this; exact own_form this (by decide)
  have HN4 := Lib.hid (HN3.out.below hb)
  have HB4 := Lib.hid (HB3.out.trans (hb.mono HB3.out.size))
  have HS4 := Lib.hid (HS3.out.below hb)
  have HT4 := Lib.hid hs
  have HBE := Lib.hid hbl1
  have hin := HN2.out.inF
  have hd2 := HS4.out.slsD
  have ho2 := HS4.out.slsO
  rw [HBL.out] at hd2 ho2
  have hsz := HSZ3.out
  have hsz4 := hb.size
  have hd3 : Sls w4 (Away F w4.heap.size) (.slice (some ⟨gd, 0, none⟩) 2 cd) (secsD 2 n) := hd2.mono fun k hk hq => ⟨fun hf => by have := hin k hf; have := hq.1; omega, hk⟩
  have ho3 : Sls w4 (Away F w4.heap.size) (.slice (some ⟨go, 0, none⟩) 2 co) (secsO 2 n false) := ho2.mono fun k hk hq => ⟨fun hf => by have := hin k hf; have := hq.1; omega, hk⟩
  have HD := Lib.hid hd3
  have HO := Lib.hid ho3
  have HSZ4 := Lib.hid hsz4
  clear hs hbl hbl1 hcl1 hb hin hd2 ho2 hd3 ho3 k0 k1 k2 k3 k4 hgl hsz hsz4
  simp only []
  (go_wp2_with fail); refine (nandProgram_any HN4.out 0 0 0 _ _ _ _ HD.out HO.out).mono ?_
  intro e w5 hp
  obtain ⟨rfl, F5, hn, hof, hfr⟩ := hp
  rw [own_prog]
  have HN5 : Hid (NandAt w5 F5 d gOwn (sOwn n)) := hn
  have HB5 := Lib.hid (HB4.out.trans (hof.toBelow (B := w.heap.size) HF2.out HB4.out.size))
  have hkeep : ∀ k, k < w4.heap.size → w2.heap.size ≤ k → w5.heap[k]? = w4.heap[k]? := fun k hk h2 => hof.block k hk fun hf => by have := HIN.out k hf; omega
  have HR5 : Hid (AnyRows 5 45 w5 w2.heap.size (.slice (some ⟨gd, 0, none⟩) 2 cd) (.slice (some ⟨go, 0, none⟩) 2 co) bs cs) := HS4.out.any.below hkeep
  have HT5 : Hid (SecsAt 5 45 w5 w3.heap.size (.slice (some ⟨ge, 0, none⟩) 2 ce) (.slice (some ⟨gp, 0, none⟩) 2 cp) n false es ps) := HT4.out.keep fun k hk h3 => hkeep k hk (Nat.le_trans HSZ3.out h3)
  have HF5 : Hid (∀ k, F5 k → k < w2.heap.size ∨ w4.heap.size ≤ k) := fun k hk => (hfr k hk).imp (fun h => HIN.out k h) id
  have HBD : Hid ((∀ (j b : Nat), bs[j]? = some b → w2.heap.size ≤ b ∧ b < w3.heap.size) ∧ (∀ (j b : Nat), cs[j]? = some b → w2.heap.size ≤ b ∧ b < w3.heap.size)) := ⟨fun j b hj => ⟨(HS3.out.bd j b hj).1, (HS3.out.bd j b hj).2.lt⟩, fun j b hj => ⟨(HS3.out.bo j b hj).1, (HS3.out.bo j b hj).2.lt⟩⟩
  have HCL : Hid (cs.length = 2) := show cs.length = 2 by rw [← HS3.out.len]; exact HBL.out
  have HPL : Hid (ps.length = 2) := show ps.length = 2 by rw [← HT4.out.len]; exact HBE.out
  have HB5s := HB5.out.size
  clear hn hof hfr hkeep
  go_wp2_with fail
  go_loopw [12] (fun t wr => ∃ i : Nat, i ≤ 2 ∧ t = .int .i64 i ∧ Hid (AnyRows 5 45 wr w2.heap.size (.slice (some ⟨gd, 0, none⟩) 2 cd) (.slice (some ⟨go, 0, none⟩) 2 co) bs cs) ∧ Hid (SecsAt 5 45 wr w3.heap.size (.slice (some ⟨ge, 0, none⟩) 2 ce) (.slice (some ⟨gp, 0, none⟩) 2 cp) n false es ps) ∧ Hid (NandAt wr F5 d gOwn (sOwn n)) ∧ Hid (Below w.heap.size w wr)) (fun t _ => ((2 : Int) - intOf t).toNat)
  case atStart => exact ⟨0, by decide, rfl, HR5.out, HT5.out, HN5.out, HB5.out⟩
  case round =>
    obtain ⟨i, hi, rfl, HRr, HTr, HNr, HBr⟩ := hrel
    by_cases hlt : i < 2
    · have hi0 : (0 : Int) ≤ i := by omega
      have hi2 : (i : Int) < 2 := by omega
      obtain ⟨b, hb⟩ : ∃ b, bs[i]? = some b := ⟨_, List.getElem?_eq_getElem (by rw [HBL.out]; exact hlt)⟩
      obtain ⟨c, hc⟩ : ∃ b, cs[i]? = some b := ⟨_, List.getElem?_eq_getElem (by rw [HCL.out]; exact hlt)⟩
      have HB := Lib.hid hb
      have HC := Lib.hid hc
      have HBB := Lib.hid (HBD.out.1 i b hb)
      have HCC := Lib.hid (HBD.out.2 i c hc)
      clear hb hc
      obtain ⟨_, zs, hzl, hzb⟩ := HRr.out.bd i b HB.out
      obtain ⟨z, hz3⟩ : ∃ z, zs[3]? = some z := ⟨_, List.getElem?_eq_getElem (by omega)⟩
      have hcr : wr.cell? ⟨gd, i, none⟩ = some (.slice (some ⟨b, 0, none⟩) 16 16) := by
        have h := HRr.out.rd
        rw [HBL.out] at h
        rw [h.cellAt i (by omega)]
        unfold rowD
        rw [List.getElem?_map, HB.out]; rfl
      have hcz : wr.cell? ⟨b, 3, none⟩ = some (.int .u8 z) := by rw [hzb.cell]; unfold bv; rw [List.getElem?_map, hz3]; rfl
      have hgdl := World.block_lt_of_cell? wr _ hcr
      have hbl := hzb.lt
      obtain ⟨X, hX⟩ : ∃ X, bits .xor .u8 z 255 = X := ⟨_, rfl⟩
      have HZB := Lib.hid hzb
      clear hzb hz3 hzl
      go_wp2_with fail
      refine wp_region_b 11 (by kernel_rfl) (by kernel_rfl) ?_
      simp only [List.take_succ_cons, List.take_zero, List.drop_succ_cons, List.drop_zero]
      repeat (first
        | (refine SeqC.run (v := ?_) ?_ (fun wz hz => ?_) ?_; rotate_left; (· rfl); (· have hzc := hz.cell; have hzf := hz.frozen; go_simp; first | exact UponS.value hz | exact UponS.skip hz | (refine UponS.call ?_; fail)); (try simp only [Act.put, List.setIfInBounds_toArray, List.set_cons_zero, List.set_cons_succ]))
        | (refine SeqC.skip ?_ ?_; (· rfl); (try simp only [Act.put, List.setIfInBounds_toArray, List.set_cons_zero, List.set_cons_succ])))
      refine fun wz hz => ?_
      have hbz : Below wr.heap.size wr wz := (Below.refl _ _).drew.trans hz.below
      have hzz := HZB.out.below hbz
      have hfz := hzz.free 3
      have hcz2 : wz.cell? ⟨b, 3, none⟩ = some (.int .u8 z) := (hbz.cell (p := ⟨b, 3, none⟩) hbl).trans hcz
      have hbl2 := hzz.lt
      have HRz := Lib.hid ((HRr.out.below fun k hk _ => hbz.block k hk).set (by decide) hzz 3 X)
      have HTz := Lib.hid ((HTr.out.below hbz).keep (w' := wz.setCell ⟨b, 3, none⟩ (.int .u8 X)) fun k hk h3 => Below.heap_setCell _ _ _ _ (fun e => by have e2 : k = b := e; have := HBB.out.2; omega))
      have HNz := Lib.hid ((HNr.out.below hbz).keep (w' := wz.setCell ⟨b, 3, none⟩ (.int .u8 X)) (by simp) fun k hk hf => Below.heap_setCell _ _ _ _ (fun e => by have e2 : k = b := e; have h1 := HBB.out; have h2 := HF5.out k hf; have h3 := HSZ4.out; omega))
      have HBz := Lib.hid ((HBr.out.trans (hbz.mono HBr.out.size)).setCell (p := ⟨b, 3, none⟩) (by have h1 := HBB.out.1; have h2 := HB2.out.size; show w.heap.size ≤ b; omega) (.int .u8 X))
      clear hz hbz hzz hcr hcz hgdl hbl hX HRr HTr HNr HBr HZB
      go_wp2_with fail
      generalize hwa : wz.setCell ⟨b, 3, none⟩ (.int .u8 X) = wa at HRz HTz HNz HBz ⊢
      clear hwa hfz hcz2 hbl2
      obtain ⟨_, zs, hzl, hzb⟩ := HRz.out.bo i c HC.out
      obtain ⟨z, hz3⟩ : ∃ z, zs[3]? = some z := ⟨_, List.getElem?_eq_getElem (by omega)⟩
      have hcr : wa.cell? ⟨go, i, none⟩ = some (.slice (some ⟨c, 0, none⟩) 17 17) := by
        have h := HRz.out.ro
        rw [HCL.out] at h
        rw [h.cellAt i (by omega)]
        unfold rowO
        rw [List.getElem?_mapIdx, HC.out]; rfl
      have hcz : wa.cell? ⟨c, 3, none⟩ = some (.int .u8 z) := by rw [hzb.cell]; unfold bv; rw [List.getElem?_map, hz3]; rfl
      have hgdl := World.block_lt_of_cell? wa _ hcr
      have hbl := hzb.lt
      obtain ⟨Y, hY⟩ : ∃ X, bits .xor .u8 z 255 = X := ⟨_, rfl⟩
      have HZB := Lib.hid hzb
      clear hzb hz3 hzl
      refine wp_region_b 11 (by kernel_rfl) (by kernel_rfl) ?_
      simp only [List.take_succ_cons, List.take_zero, List.drop_succ_cons, List.drop_zero]
      repeat (first
        | (refine SeqC.run (v := ?_) ?_ (fun wz hz => ?_) ?_; rotate_left; (· rfl); (· have hzc := hz.cell; have hzf := hz.frozen; go_simp; first | exact UponS.value hz | exact UponS.skip hz | (refine UponS.call ?_; fail)); (try simp only [Act.put, List.setIfInBounds_toArray, List.set_cons_zero, List.set_cons_succ]))
        | (refine SeqC.skip ?_ ?_; (· rfl); (try simp only [Act.put, List.setIfInBounds_toArray, List.set_cons_zero, List.set_cons_succ])))
      refine fun wy hz => ?_
      have hbz : Below wa.heap.size wa wy := (Below.refl _ _).drew.trans hz.below
      have hzz := HZB.out.below hbz
      have hfz := hzz.free 3
      have hcz2 : wy.cell? ⟨c, 3, none⟩ = some (.int .u8 z) := (hbz.cell (p := ⟨c, 3, none⟩) hbl).trans hcz
      have hbl2 := hzz.lt
      have HRy := Lib.hid ((HRz.out.below fun k hk _ => hbz.block k hk).set (by decide) hzz 3 Y)
      have HTy := Lib.hid ((HTz.out.below hbz).keep (w' := wy.setCell ⟨c, 3, none⟩ (.int .u8 Y)) fun k hk h3 => Below.heap_setCell _ _ _ _ (fun e => by have e2 : k = c := e; have := HCC.out.2; omega))
      have HNy := Lib.hid ((HNz.out.below hbz).keep (w' := wy.setCell ⟨c, 3, none⟩ (.int .u8 Y)) (by simp) fun k hk hf => Below.heap_setCell _ _ _ _ (fun e => by have e2 : k = c := e; have h1 := HCC.out; have h2 := HF5.out k hf; have h3 := HSZ4.out; omega))
      have HBy := Lib.hid ((HBz.out.trans (hbz.mono HBz.out.size)).setCell (p := ⟨c, 3, none⟩) (by have h1 := HCC.out.1; have h2 := HB2.out.size; show w.heap.size ≤ c; omega) (.int .u8 Y))
      clear hz hbz hzz hcr hcz hgdl hbl hY
      go_wp2_with fail
      go_roundw
      case rel => exact ⟨i + 1, by omega, by go_num, HRy.out, HTy.out, HNy.out, HBy.out⟩
      case measure => simp [intOf]; omega
    · go_wp2_with fail
      go_loopw [13] (fun t wr => ∃ i : Nat, i ≤ 2 ∧ t = .int .i64 i ∧ Hid (SecsAt 5 45 wr w3.heap.size (.slice (some ⟨ge, 0, none⟩) 2 ce) (.slice (some ⟨gp, 0, none⟩) 2 cp) n false es ps) ∧ Hid (NandAt wr F5 d gOwn (sOwn n)) ∧ Hid (Below w.heap.size w wr)) (fun t _ => ((2 : Int) - intOf t).toNat)
      case atStart => exact ⟨0, by decide, rfl, HTr.out, HNr.out, HBr.out⟩
      case round =>
        clear HRr HTr HNr HBr
        obtain ⟨i, hi, rfl, HTr, HNr, HBr⟩ := hrel
        by_cases hlt : i < 2
        · have hi0 : (0 : Int) ≤ i := by omega
          have hi2 : (i : Int) < 2 := by omega
          have HI := Lib.hid hlt
          (go_wp2_with fail); refine (nandRead_any HNr.out i).mono ?_
          intro e w6 hp
          have hrd : readOf gOwn (sOwn n) (i : Int) = (secD n i, secO n i, 0) := own_read n i hlt
          rw [hrd] at hp
          obtain ⟨va, vb, rfl, oa, ob, hb⟩ := hp
          rw [secD_length] at oa
          rw [secO_length] at ob
          have HA6 := Lib.hid oa
          have HB6 := Lib.hid ob
          obtain ⟨ga, ca, rfl⟩ := own_form oa (by decide)
          obtain ⟨gb, cb, rfl⟩ := own_form ob (by decide)
          have HT6 := Lib.hid (HTr.out.below hb)
          have HN6 := Lib.hid (HNr.out.below hb)
          have HBW6 := Lib.hid (HBr.out.trans (hb.mono HBr.out.size))
          have HBL6 := Lib.hid hb
          clear hrd oa ob hb
          obtain ⟨b, hb⟩ : ∃ b, es[i]? = some b := ⟨_, List.getElem?_eq_getElem (by rw [HBE.out]; exact hlt)⟩
          obtain ⟨c, hc⟩ : ∃ b, ps[i]? = some b := ⟨_, List.getElem?_eq_getElem (by rw [HPL.out]; exact hlt)⟩
          have HBI := Lib.hid hb
          have HCI := Lib.hid hc
          clear hb hc
          have hcr : w6.cell? ⟨ge, i, none⟩ = some (.slice (some ⟨b, 0, none⟩) 16 16) := by
            have h := HT6.out.rd
            rw [HBE.out] at h
            rw [h.cellAt i (by omega)]
            unfold rowD
            rw [List.getElem?_map, HBI.out]; rfl
          have hcs : w6.cell? ⟨gp, i, none⟩ = some (.slice (some ⟨c, 0, none⟩) 17 17) := by
            have h := HT6.out.ro
            rw [HPL.out] at h
            rw [h.cellAt i (by omega)]
            unfold rowO
            rw [List.getElem?_mapIdx, HCI.out]; rfl
          have hgel := World.block_lt_of_cell? w6 _ hcr
          have hgpl := World.block_lt_of_cell? w6 _ hcs
          have HSA := Lib.hid (fun (wz : World) (hbz : Below w6.heap.size w6 wz) => own_str (P := Try.prog) Try.underlying45 Try.underlying5 Try.underlying9 (own_below HA6.out hbz) (by decide))
          have HSB := Lib.hid (fun (wz : World) (hbz : Below w6.heap.size w6 wz) => own_str (P := Try.prog) Try.underlying45 Try.underlying5 Try.underlying9 (own_below HB6.out hbz) (by decide))
          have HSC := Lib.hid (fun (wz : World) (hbz : Below w6.heap.size w6 wz) => Blk.str (P := Try.prog) Try.underlying45 Try.underlying5 Try.underlying9 ((HT6.out.bd i b HBI.out).2.below hbz) (secD_length n i) (by decide))
          have HSD := Lib.hid (fun (wz : World) (hbz : Below w6.heap.size w6 wz) => Blk.str (P := Try.prog) Try.underlying45 Try.underlying5 Try.underlying9 ((HT6.out.bo i c HCI.out).2.below hbz) (secO_length n i) (by decide))
          obtain ⟨SD, hSD⟩ : ∃ x, strOfNums (secD n i) = x := ⟨_, rfl⟩
          obtain ⟨SO, hSO⟩ : ∃ x, strOfNums (secO n i) = x := ⟨_, rfl⟩
          rw [hSD] at HSA HSC
          rw [hSO] at HSB HSD
          clear hSD hSO
          have hq1 : ∀ wz, Since w6.drew wz → (convert 45 9 (.slice (some ⟨ga, 0, none⟩) 16 ca)).run Try.prog wz = .ok (.string SD) wz := fun wz hz => HSA.out wz ((Below.refl _ _).drew.trans hz.below)
          have hq2 : ∀ wz, Since w6.drew wz → (convert 45 9 (.slice (some ⟨gb, 0, none⟩) 17 cb)).run Try.prog wz = .ok (.string SO) wz := fun wz hz => HSB.out wz ((Below.refl _ _).drew.trans hz.below)
          have hq3 : ∀ wz, Since w6.drew wz → (convert 45 9 (.slice (some ⟨b, 0, none⟩) 16 16)).run Try.prog wz = .ok (.string SD) wz := fun wz hz => HSC.out wz ((Below.refl _ _).drew.trans hz.below)
          have hq4 : ∀ wz, Since w6.drew wz → (convert 45 9 (.slice (some ⟨c, 0, none⟩) 17 17)).run Try.prog wz = .ok (.string SO) wz := fun wz hz => HSD.out wz ((Below.refl _ _).drew.trans hz.below)
          simp only []
          go_wp2_with fail
          refine wp_region_b 21 (by kernel_rfl) (by kernel_rfl) ?_
          simp only [List.take_succ_cons, List.take_zero, List.drop_succ_cons, List.drop_zero]
          repeat (first
            | (refine SeqC.run (v := ?_) ?_ (fun wz hz => ?_) ?_; rotate_left; (· rfl); (· have hzc := hz.cell; have hzf := hz.frozen; go_simp; first | exact UponS.value hz | exact UponS.skip hz | (refine UponS.call ?_; fail)); (try simp only [Act.put, List.setIfInBounds_toArray, List.set_cons_zero, List.set_cons_succ]))
            | (refine SeqC.skip ?_ ?_; (· rfl); (try simp only [Act.put, List.setIfInBounds_toArray, List.set_cons_zero, List.set_cons_succ])))
          refine fun wz hz => ?_
          have hbz : Below w6.heap.size w6 wz := (Below.refl _ _).drew.trans hz.below
          clear hq1 hq2 hq3 hq4 HSA HSB HSC HSD hcr hcs hgel hgpl hz
          have ha7 := own_below HA6.out hbz
          have hb7 := own_below HB6.out hbz
          obtain ⟨za, hza⟩ : ∃ z, wz.cell? ⟨ga, 0, none⟩ = some (.int .u8 z) := by
            rw [ha7.cellAt 0 (by decide)]
            exact ⟨_, by unfold bv; rw [List.getElem?_map, List.getElem?_eq_getElem (by rw [secD_length]; decide)]; rfl⟩
          obtain ⟨zb, hzb⟩ : ∃ z, wz.cell? ⟨gb, 0, none⟩ = some (.int .u8 z) := by
            rw [hb7.cellAt 0 (by decide)]
            exact ⟨_, by unfold bv; rw [List.getElem?_map, List.getElem?_eq_getElem (by rw [secO_length]; decide)]; rfl⟩
          have fa := ha7.frozenAt 0
          have fb := hb7.frozenAt 0
          have hgal := World.block_lt_of_cell? wz _ hza
          have hgbl := World.block_lt_of_cell? wz _ hzb
          obtain ⟨hga0, _⟩ := HA6.out.lt ga rfl
          obtain ⟨hgb0, _⟩ := HB6.out.lt gb rfl
          obtain ⟨X, hX⟩ : ∃ X, bits .xor .u8 za 255 = X := ⟨_, rfl⟩
          have HFIN : Hid (∀ Y : Int, SecsAt 5 45 ((wz.setCell ⟨ga, 0, none⟩ (.int .u8 X)).setCell ⟨gb, 0, none⟩ (.int .u8 Y)) w3.heap.size (.slice (some ⟨ge, 0, none⟩) 2 ce) (.slice (some ⟨gp, 0, none⟩) 2 cp) n false es ps ∧ NandAt ((wz.setCell ⟨ga, 0, none⟩ (.int .u8 X)).setCell ⟨gb, 0, none⟩ (.int .u8 Y)) F5 d gOwn (sOwn n) ∧ Below w.heap.size w ((wz.setCell ⟨ga, 0, none⟩ (.int .u8 X)).setCell ⟨gb, 0, none⟩ (.int .u8 Y))) := by
            intro Y
            have hB : Below wr.heap.size wr ((wz.setCell ⟨ga, 0, none⟩ (.int .u8 X)).setCell ⟨gb, 0, none⟩ (.int .u8 Y)) := ((HBL6.out.trans (hbz.mono HBL6.out.size)).setCell (p := ⟨ga, 0, none⟩) hga0 _).setCell (p := ⟨gb, 0, none⟩) hgb0 _
            exact ⟨HTr.out.below hB, HNr.out.below hB, HBr.out.trans (hB.mono HBr.out.size)⟩
          clear ha7 hb7 hbz HA6 HB6 HTr HNr HBr HBL6 HT6 HN6 HBW6
          by_cases hgg : gb = ga
          · subst hgg
            obtain rfl : za = zb := by
              rw [hza] at hzb
              injection hzb with hzb
              injection hzb
            obtain ⟨Y, hY⟩ : ∃ Y, bits .xor .u8 X 255 = Y := ⟨_, rfl⟩
            obtain ⟨ht7, hn7, hb7⟩ := HFIN.out Y
            have HT7 := Lib.hid ht7
            have HN7 := Lib.hid hn7
            have HB7 := Lib.hid hb7
            clear ht7 hn7 hb7
            go_wp2_with fail
            generalize hw7 : (wz.setCell ⟨gb, 0, none⟩ (.int .u8 X)).setCell ⟨gb, 0, none⟩ (.int .u8 Y) = w7 at HT7 HN7 HB7 ⊢
            clear hw7 hX hY hza hzb fa fb hgal hgbl HFIN
            refine (nandRead_any HN7.out i).mono ?_
            intro e w8 hp
            have hrd : readOf gOwn (sOwn n) (i : Int) = (secD n i, secO n i, 0) := own_read n i HI.out
            rw [hrd] at hp
            obtain ⟨va, vb, rfl, oa, ob, hb⟩ := hp
            rw [secD_length] at oa
            rw [secO_length] at ob
            have HA8 := Lib.hid oa
            have HB8 := Lib.hid ob
            obtain ⟨ga2, ca2, rfl⟩ := own_form oa (by decide)
            obtain ⟨gb2, cb2, rfl⟩ := own_form ob (by decide)
            have HT8 := Lib.hid (HT7.out.below hb)
            have HN8 := Lib.hid (HN7.out.below hb)
            have HBW8 := Lib.hid (HB7.out.trans (hb.mono HB7.out.size))
            clear hrd oa ob hb
            have hcr : w8.cell? ⟨ge, i, none⟩ = some (.slice (some ⟨b, 0, none⟩) 16 16) := by
              have h := HT8.out.rd
              rw [HBE.out] at h
              rw [h.cellAt i (by omega)]
              unfold rowD
              rw [List.getElem?_map, HBI.out]; rfl
            have hcs : w8.cell? ⟨gp, i, none⟩ = some (.slice (some ⟨c, 0, none⟩) 17 17) := by
              have h := HT8.out.ro
              rw [HPL.out] at h
              rw [h.cellAt i (by omega)]
              unfold rowO
              rw [List.getElem?_mapIdx, HCI.out]; rfl
            have hgel := World.block_lt_of_cell? w8 _ hcr
            have hgpl := World.block_lt_of_cell? w8 _ hcs
            have HSA := Lib.hid (fun (wz : World) (hbz : Below w8.heap.size w8 wz) => own_str (P := Try.prog) Try.underlying45 Try.underlying5 Try.underlying9 (own_below HA8.out hbz) (by decide))
            have HSB := Lib.hid (fun (wz : World) (hbz : Below w8.heap.size w8 wz) => own_str (P := Try.prog) Try.underlying45 Try.underlying5 Try.underlying9 (own_below HB8.out hbz) (by decide))
            have HSC := Lib.hid (fun (wz : World) (hbz : Below w8.heap.size w8 wz) => Blk.str (P := Try.prog) Try.underlying45 Try.underlying5 Try.underlying9 ((HT8.out.bd i b HBI.out).2.below hbz) (secD_length n i) (by decide))
            have HSD := Lib.hid (fun (wz : World) (hbz : Below w8.heap.size w8 wz) => Blk.str (P := Try.prog) Try.underlying45 Try.underlying5 Try.underlying9 ((HT8.out.bo i c HCI.out).2.below hbz) (secO_length n i) (by decide))
            obtain ⟨SD, hSD⟩ : ∃ x, strOfNums (secD n i) = x := ⟨_, rfl⟩
            obtain ⟨SO, hSO⟩ : ∃ x, strOfNums (secO n i) = x := ⟨_, rfl⟩
            rw [hSD] at HSA HSC
            rw [hSO] at HSB HSD
            clear hSD hSO
            have hq1 : ∀ wz, Since w8.drew wz → (convert 45 9 (.slice (some ⟨ga2, 0, none⟩) 16 ca2)).run Try.prog wz = .ok (.string SD) wz := fun wz hz => HSA.out wz ((Below.refl _ _).drew.trans hz.below)
            have hq2 : ∀ wz, Since w8.drew wz → (convert 45 9 (.slice (some ⟨gb2, 0, none⟩) 17 cb2)).run Try.prog wz = .ok (.string SO) wz := fun wz hz => HSB.out wz ((Below.refl _ _).drew.trans hz.below)
            have hq3 : ∀ wz, Since w8.drew wz → (convert 45 9 (.slice (some ⟨b, 0, none⟩) 16 16)).run Try.prog wz = .ok (.string SD) wz := fun wz hz => HSC.out wz ((Below.refl _ _).drew.trans hz.below)
            have hq4 : ∀ wz, Since w8.drew wz → (convert 45 9 (.slice (some ⟨c, 0, none⟩) 17 17)).run Try.prog wz = .ok (.string SO) wz := fun wz hz => HSD.out wz ((Below.refl _ _).drew.trans hz.below)
            simp only []
            go_wp2_with fail
            refine wp_region_b 17 (by kernel_rfl) (by kernel_rfl) ?_
            simp only [List.take_succ_cons, List.take_zero, List.drop_succ_cons, List.drop_zero]
            repeat (first
              | (refine SeqC.run (v := ?_) ?_ (fun wz hz => ?_) ?_; rotate_left; (· rfl); (· have hzc := hz.cell; have hzf := hz.frozen; go_simp; first | exact UponS.value hz | exact UponS.skip hz | (refine UponS.call ?_; fail)); (try simp only [Act.put, List.setIfInBounds_toArray, List.set_cons_zero, List.set_cons_succ]))
              | (refine SeqC.skip ?_ ?_; (· rfl); (try simp only [Act.put, List.setIfInBounds_toArray, List.set_cons_zero, List.set_cons_succ])))
            refine fun wy hz => ?_
            have hbz : Below w8.heap.size w8 wy := (Below.refl _ _).drew.trans hz.below
            have HT9 := Lib.hid (HT8.out.below hbz)
            have HN9 := Lib.hid (HN8.out.below hbz)
            have HBW9 := Lib.hid (HBW8.out.trans (hbz.mono HBW8.out.size))
            clear hq1 hq2 hq3 hq4 HSA HSB HSC HSD hcr hcs hgel hgpl hz hbz
            go_wp2_with fail
            go_roundw
            case rel => exact ⟨i + 1, by omega, by go_num, HT9.out, HN9.out, HBW9.out⟩
            case measure => simp [intOf]; omega
          · obtain ⟨Y, hY⟩ : ∃ Y, bits .xor .u8 zb 255 = Y := ⟨_, rfl⟩
            obtain ⟨ht7, hn7, hb7⟩ := HFIN.out Y
            have HT7 := Lib.hid ht7
            have HN7 := Lib.hid hn7
            have HB7 := Lib.hid hb7
            clear ht7 hn7 hb7
            go_wp2_with fail
            generalize hw7 : (wz.setCell ⟨ga, 0, none⟩ (.int .u8 X)).setCell ⟨gb, 0, none⟩ (.int .u8 Y) = w7 at HT7 HN7 HB7 ⊢
            clear hw7 hX hY hza hzb fa fb hgal hgbl HFIN
            refine (nandRead_any HN7.out i).mono ?_
            intro e w8 hp
            have hrd : readOf gOwn (sOwn n) (i : Int) = (secD n i, secO n i, 0) := own_read n i HI.out
            rw [hrd] at hp
            obtain ⟨va, vb, rfl, oa, ob, hb⟩ := hp
            rw [secD_length] at oa
            rw [secO_length] at ob
            have HA8 := Lib.hid oa
            have HB8 := Lib.hid ob
            obtain ⟨ga2, ca2, rfl⟩ := own_form oa (by decide)
            obtain ⟨gb2, cb2, rfl⟩ := own_form ob (by decide)
            have HT8 := Lib.hid (HT7.out.below hb)
            have HN8 := Lib.hid (HN7.out.below hb)
            have HBW8 := Lib.hid (HB7.out.trans (hb.mono HB7.out.size))
            clear hrd oa ob hb
            have hcr : w8.cell? ⟨ge, i, none⟩ = some (.slice (some ⟨b, 0, none⟩) 16 16) := by
              have h := HT8.out.rd
              rw [HBE.out] at h
              rw [h.cellAt i (by omega)]
              unfold rowD
              rw [List.getElem?_map, HBI.out]; rfl
            have hcs : w8.cell? ⟨gp, i, none⟩ = some (.slice (some ⟨c, 0, none⟩) 17 17) := by
              have h := HT8.out.ro
              rw [HPL.out] at h
              rw [h.cellAt i (by omega)]
              unfold rowO
              rw [List.getElem?_mapIdx, HCI.out]; rfl
            have hgel := World.block_lt_of_cell? w8 _ hcr
            have hgpl := World.block_lt_of_cell? w8 _ hcs
            have HSA := Lib.hid (fun (wz : World) (hbz : Below w8.heap.size w8 wz) => own_str (P := Try.prog) Try.underlying45 Try.underlying5 Try.underlying9 (own_below HA8.out hbz) (by decide))
            have HSB := Lib.hid (fun (wz : World) (hbz : Below w8.heap.size w8 wz) => own_str (P := Try.prog) Try.underlying45 Try.underlying5 Try.underlying9 (own_below HB8.out hbz) (by decide))
            have HSC := Lib.hid (fun (wz : World) (hbz : Below w8.heap.size w8 wz) => Blk.str (P := Try.prog) Try.underlying45 Try.underlying5 Try.underlying9 ((HT8.out.bd i b HBI.out).2.below hbz) (secD_length n i) (by decide))
            have HSD := Lib.hid (fun (wz : World) (hbz : Below w8.heap.size w8 wz) => Blk.str (P := Try.prog) Try.underlying45 Try.underlying5 Try.underlying9 ((HT8.out.bo i c HCI.out).2.below hbz) (secO_length n i) (by decide))
            obtain ⟨SD, hSD⟩ : ∃ x, strOfNums (secD n i) = x := ⟨_, rfl⟩
            obtain ⟨SO, hSO⟩ : ∃ x, strOfNums (secO n i) = x := ⟨_, rfl⟩
            rw [hSD] at HSA HSC
            rw [hSO] at HSB HSD
            clear hSD hSO
            have hq1 : ∀ wz, Since w8.drew wz → (convert 45 9 (.slice (some ⟨ga2, 0, none⟩) 16 ca2)).run Try.prog wz = .ok (.string SD) wz := fun wz hz => HSA.out wz ((Below.refl _ _).drew.trans hz.below)
            have hq2 : ∀ wz, Since w8.drew wz → (convert 45 9 (.slice (some ⟨gb2, 0, none⟩) 17 cb2)).run Try.prog wz = .ok (.string SO) wz := fun wz hz => HSB.out wz ((Below.refl _ _).drew.trans hz.below)
            have hq3 : ∀ wz, Since w8.drew wz → (convert 45 9 (.slice (some ⟨b, 0, none⟩) 16 16)).run Try.prog wz = .ok (.string SD) wz := fun wz hz => HSC.out wz ((Below.refl _ _).drew.trans hz.below)
            have hq4 : ∀ wz, Since w8.drew wz → (convert 45 9 (.slice (some ⟨c, 0, none⟩) 17 17)).run Try.prog wz = .ok (.string SO) wz := fun wz hz => HSD.out wz ((Below.refl _ _).drew.trans hz.below)
            simp only []
            go_wp2_with fail
            refine wp_region_b 17 (by kernel_rfl) (by kernel_rfl) ?_
            simp only [List.take_succ_cons, List.take_zero, List.drop_succ_cons, List.drop_zero]
            repeat (first
              | (refine SeqC.run (v := ?_) ?_ (fun wz hz => ?_) ?_; rotate_left; (· rfl); (· have hzc := hz.cell; have hzf := hz.frozen; go_simp; first | exact UponS.value hz | exact UponS.skip hz | (refine UponS.call ?_; fail)); (try simp only [Act.put, List.setIfInBounds_toArray, List.set_cons_zero, List.set_cons_succ]))
              | (refine SeqC.skip ?_ ?_; (· rfl); (try simp only [Act.put, List.setIfInBounds_toArray, List.set_cons_zero, List.set_cons_succ])))
            refine fun wy hz => ?_
            have hbz : Below w8.heap.size w8 wy := (Below.refl _ _).drew.trans hz.below
            have HT9 := Lib.hid (HT8.out.below hbz)
            have HN9 := Lib.hid (HN8.out.below hbz)
            have HBW9 := Lib.hid (HBW8.out.trans (hbz.mono HBW8.out.size))
            clear hq1 hq2 hq3 hq4 HSA HSB HSC HSD hcr hcs hgel hgpl hz hbz
            go_wp2_with fail
            go_roundw
            case rel => exact ⟨i + 1, by omega, by go_num, HT9.out, HN9.out, HBW9.out⟩
            case measure => simp [intOf]; omega
        · obtain rfl : i = 2 := by omega
          go_wp2_with fail
          go_ret
          exact ⟨rfl, HBr.out⟩

end Go.Proofs.Ytlkapaecaeldpaa
