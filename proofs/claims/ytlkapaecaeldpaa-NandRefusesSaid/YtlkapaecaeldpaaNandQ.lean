/-
  Plain laws of the device: of a page that is torn, of an erasing, of what is kept.
-/
import Derived.Test.YtlkapaecaeldpaaNandP
set_option linter.unusedVariables false
set_option linter.unusedSimpArgs false
set_option maxRecDepth 16384
namespace Go.Proofs.Ytlkapaecaeldpaa
open Go.RowKit

theorem findIx_00 {g : Geo} (hok : g.okB = true) : findIx g 0 0 = some 0 := by
  have h := Geo.ok_of hok
  have hc := h.c
  have hl := h.l
  have hb := h.b
  unfold findIx
  have : 0 < g.chans * g.luns := Int.mul_pos (by omega) (by omega)
  rw [if_pos ⟨by omega, by omega, by omega, by omega⟩]
  simp

theorem sized_D (s n : Int) (h : 0 ≤ s ∧ s ≤ 4) : sizedB (secsD (min s 4).toNat n) s 16 = true := by
  unfold sizedB
  rw [decide_eq_true_eq]
  refine ⟨fun x hx => ?_, by simp [secsD]; omega⟩
  unfold secsD at hx
  obtain ⟨i, _, rfl⟩ := List.mem_map.1 hx
  rw [secD_length]; rfl
theorem sized_O (s n : Int) (h : 0 ≤ s ∧ s ≤ 4) : sizedB (secsO (min s 4).toNat n false) s 17 = true := by
  unfold sizedB
  rw [decide_eq_true_eq]
  refine ⟨fun x hx => ?_, by simp [secsO]; omega⟩
  unfold secsO at hx
  obtain ⟨i, _, rfl⟩ := List.mem_map.1 hx
  rw [if_neg (by simp), secO_length]; rfl

theorem progTo_ok {g : Geo} {S : NSt} (hoff : S.off = false) {u n page : Int} {i : Nat} (hi : findIx g u n = some i) (hp : 0 ≤ page ∧ page < g.pages) {data oob : List (List Int)} (hd : sizedB data g.sectors 16 = true) (ho : sizedB oob g.sectors 17 = true) (hr : S.ret i = false) (hn : S.next i = page) :
    progTo g S u n page data oob = (endE (nextP S.plan g.sectors).1 8, NSt.cut { S with next := fun j => if j = i then page + 1 else S.next j, plan := S.plan.tail, many := IntKind.i64.wrap (S.many + 1), sec := setPage g S.sec u n page (if (nextP S.plan g.sectors).1 = 0 then g.sectors else (nextP S.plan g.sectors).2) data oob } (nextP S.plan g.sectors).1) := by
  unfold progTo
  rw [if_neg (by rw [hoff]; decide), hi]
  simp only []
  rw [if_pos ⟨hp.1, hp.2, hd, ho⟩, if_neg (by rw [hr]; decide), if_neg (fun h => h hn)]

/-- the addresses of the first block's page n -/
theorem adr_k {g : Geo} (hok : g.okB = true) {n : Int} (hn : 0 ≤ n ∧ n < g.pages) {k : Nat} (hk : (k : Int) < g.sectors) :
    g.numE ⟨0, 0, n, 0⟩ = 0 ∧ ∃ a : Nat, g.numN ⟨0, 0, n, 0⟩ + k = a ∧ (a : Int) < g.all ∧ g.ofP a = ⟨0, 0, n, k⟩ := by
  have h := Geo.ok_of hok
  have hc := h.c
  have hl := h.l
  have hb := h.b
  have : 0 < g.chans * g.luns := Int.mul_pos (by omega) (by omega)
  obtain ⟨a0, h1, h2, _, _, _⟩ := adr_of hok (u := 0) (n := 0) (page := n) (j := 0) ⟨by omega, by omega, by omega, by omega⟩ hn (by omega)
  obtain ⟨a, k1, k2, k3, k4, _⟩ := adr_of hok (u := 0) (n := 0) (page := n) (j := k) ⟨by omega, by omega, by omega, by omega⟩ hn hk
  refine ⟨h2, a, ?_, k3, k4⟩
  have e1 : g.inB ⟨0, 0, n, 0⟩ = true := by
    unfold Geo.numE at h2
    rw [if_pos hok] at h2
    split at h2
    · assumption
    · omega
  have e2 : g.inB ⟨0, 0, n, k⟩ = true := by
    unfold Geo.numE at k2
    rw [if_pos hok] at k2
    split at k2
    · assumption
    · omega
  rw [← k1]
  unfold Geo.numN
  rw [if_pos ⟨hok, e1⟩, if_pos ⟨hok, e2⟩]
  unfold Geo.ix
  simp only
  omega

theorem secs_getD {m : Nat} {n : Int} {k : Nat} (hk : k < m) : (secsD m n).getD k [] = secD n k ∧ (secsO m n false).getD k [] = secO n k := by
  rw [List.getD_eq_getElem?_getD, List.getD_eq_getElem?_getD]
  unfold secsD secsO
  rw [List.getElem?_map, List.getElem?_map, List.getElem?_range hk]
  exact ⟨rfl, by simp⟩

theorem readOf_in {g : Geo} {S : NSt} (hoff : S.off = false) {a : Nat} (ha : (a : Int) < g.all) : readOf g S a = match S.sec a with | some p => (p.1, p.2, 0) | none => ([], [], 6) := by
  unfold readOf
  rw [if_neg (by rw [hoff]; decide), if_pos ⟨by omega, ha⟩, Int.toNat_natCast]
  split <;> rename_i h <;> simp only [h]

theorem nextP_one (b s : Int) (hs : 0 ≤ s ∧ s ≤ 4) : (nextP [b] s).1 = saysB b ∧ (saysB b = 2 → (nextP [b] s).2 = b / 4 % (s + 1)) := by
  unfold nextP
  simp only
  split
  · rename_i h
    exact ⟨h.1.symm, fun _ => rfl⟩
  · rename_i h
    exact ⟨rfl, fun h2 => absurd ⟨h2, hs⟩ h⟩

theorem endE_zero {x y : Int} (h : x = 0 ∨ x = 1 ∨ x = 2) (hy : y ≠ 0) : endE x y = 0 ↔ x = 0 := by
  unfold endE
  rcases h with rfl | rfl | rfl
  · simp
  · simp [hy]
  · simp

theorem place_wf {n : Int} (h : IsInt n) : Place.Wf ⟨0, 0, n, 0⟩ := by
  have h0 : IsInt 0 := ⟨by decide, by decide⟩
  exact ⟨h0, h0, h, h0⟩

/-- what NandErases looks at -/
theorem erase_law {g : Geo} (hok : g.okB = true) {S : NSt} (hI : SInv g S) (hoff : S.off = false) (hr : S.ret 0 = false) {b : Int} (hb : IsB b) :
    ∃ (x : Int) (S2 : NSt), eraseTo g { S with plan := [b], many := 0 } 0 0 = (x, S2) ∧ (x = 0 ↔ saysB b = 0) ∧
      (∀ pg, 0 ≤ pg ∧ pg < g.pages → readOf g { S2 with off := false } (g.numN ⟨0, 0, pg, 0⟩) = ([], [], 6)) ∧
      ∃ (y : Int) (S3 : NSt), progTo g { S2 with off := false } 0 0 0 (secsD (min g.sectors 4).toNat 3) (secsO (min g.sectors 4).toNat 3 false) = (y, S3) ∧ (y = 0 ↔ saysB b = 0) ∧ S3.wear 0 = IntKind.i64.wrap (S.wear 0 + 1) := by
  have h := Geo.ok_of hok
  have hp := h.p
  have hs := h.s
  have hsy := saysB_cases b hb
  have hn := (nextP_one b 0 ⟨by decide, by decide⟩).1
  have e0 : eraseTo g { S with plan := [b], many := 0 } 0 0 = (endE (saysB b) 9, NSt.cut { S with next := fun j => if j = 0 then (if saysB b = 0 then 0 else g.pages) else S.next j, wear := fun j => if j = 0 then IntKind.i64.wrap (S.wear 0 + 1) else S.wear j, plan := [], many := IntKind.i64.wrap (0 + 1), sec := clrBlock g S.sec 0 0 } (saysB b)) := by
    unfold eraseTo
    rw [if_neg (by simp only [hoff]; decide), findIx_00 hok]
    simp only [hr, hn]
    rfl
  refine ⟨_, _, e0, endE_zero hsy (by decide), fun pg hpg => ?_, ?_⟩
  · obtain ⟨_, a, h1, h2, h3⟩ := adr_k hok hpg (k := 0) (by omega)
    rw [show g.numN ⟨0, 0, pg, 0⟩ = (a : Int) by omega, readOf_in rfl h2]
    have : (NSt.cut { S with next := fun j => if j = 0 then (if saysB b = 0 then 0 else g.pages) else S.next j, wear := fun j => if j = 0 then IntKind.i64.wrap (S.wear 0 + 1) else S.wear j, plan := [], many := IntKind.i64.wrap (0 + 1), sec := clrBlock g S.sec 0 0 } (saysB b)).sec a = none := by
      show clrBlock g S.sec 0 0 a = none
      unfold clrBlock
      rw [if_pos ⟨h2, by rw [h3], by rw [h3]⟩]
    simp only [this]
  · by_cases h0 : saysB b = 0
    · have e1 := progTo_ok (g := g) (S := { (NSt.cut { S with next := fun j => if j = 0 then (if saysB b = 0 then 0 else g.pages) else S.next j, wear := fun j => if j = 0 then IntKind.i64.wrap (S.wear 0 + 1) else S.wear j, plan := [], many := IntKind.i64.wrap (0 + 1), sec := clrBlock g S.sec 0 0 } (saysB b)) with off := false }) rfl (findIx_00 hok) (page := 0) ⟨by omega, by omega⟩ (sized_D g.sectors 3 ⟨by omega, by omega⟩) (sized_O g.sectors 3 ⟨by omega, by omega⟩) hr (by simp [NSt.cut, h0])
      exact ⟨_, _, e1, ⟨fun _ => h0, fun _ => rfl⟩, rfl⟩
    · have e1 : ∀ T : NSt, T.off = false → T.ret 0 = false → T.next 0 = g.pages → progTo g T 0 0 0 (secsD (min g.sectors 4).toNat 3) (secsO (min g.sectors 4).toNat 3 false) = (7, T.bad) := fun T t1 t2 t3 => by
        unfold progTo
        rw [if_neg (by rw [t1]; decide), findIx_00 hok]
        simp only []
        rw [if_pos ⟨by omega, by omega, sized_D g.sectors 3 ⟨by omega, by omega⟩, sized_O g.sectors 3 ⟨by omega, by omega⟩⟩, if_neg (by rw [t2]; decide), if_pos (by rw [t3]; omega)]
      exact ⟨7, _, e1 _ rfl hr (by simp [NSt.cut, h0]), ⟨fun h => by omega, fun h => absurd h h0⟩, rfl⟩

end Go.Proofs.Ytlkapaecaeldpaa
