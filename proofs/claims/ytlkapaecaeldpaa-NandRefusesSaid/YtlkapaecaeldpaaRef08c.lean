/-
  Package strakeref08: Next, Wear, wrong, Retire.
-/
import Derived.Test.YtlkapaecaeldpaaRef08b
import Derived.Test.YtlkapaecaeldpaaNandF
set_option linter.unusedVariables false
set_option linter.unusedSimpArgs false
set_option maxRecDepth 16384
namespace Go.Proofs.Ytlkapaecaeldpaa
open Go.RowKit

/-- how a call that may change the document's device ends -/
def RNPost (w : World) (F : Nat → Prop) (r : Nat) (g : Geo) (res : Value) (S : NSt) (m : Nat) (e : Ending) (w' : World) : Prop :=
  e = .returned res ∧ ∃ F', RNAt w' F' r g S m ∧ OnlyF F w w' ∧ Fresh F F' w.heap.size
theorem RNPost.from {w w1 : World} {F F1 : Nat → Prop} {r : Nat} {g : Geo} {res : Value} {S : NSt} {m : Nat} {e : Ending} {w' : World} (h : RNPost w1 F1 r g res S m e w') (ho : OnlyF F w w1) (hf : Fresh F F1 w.heap.size) : RNPost w F r g res S m e w' := by
  obtain ⟨h1, F', h2, h3, h4⟩ := h
  exact ⟨h1, F', h2, ho.trans hf h3, hf.trans h4 ho.size⟩

section
variable {w w' : World} {F : Nat → Prop} {r : Nat} {g : Geo} {S : NSt} {m : Nat} {L : List Int} {n : Nat} {evs : List Ev} {pb nx wr rt : Nat} {lv lg : Value}

/-- the device's own block is written -/
theorem RNRaw.blockR (h : RNRaw w F r g S m L n evs pb nx wr rt lv lg) (hs : w.heap.size ≤ w'.heap.size) (hk : ∀ k, k < w.heap.size → k ≠ r → w'.heap[k]? = w.heap[k]?) (o : Bool) (x : Int)
    (hr : Blk w' r 97 (refL g { S with off := o, wrong := x } pb nx wr rt lg)) : RNRaw w' F r g { S with off := o, wrong := x } m L n evs pb nx wr rt lv lg := by
  obtain ⟨m1, m2, m3, m4, m5, m6⟩ := h.mem
  obtain ⟨a1, a2, a3, a4, a5, a6, a7, a8, a9, a10⟩ := h.apart
  exact ⟨hr, (hk pb (h.inF _ m2) a1.symm).trans h.pl, h.left.keep hs fun k hl hq => hk k hl hq.2.1, h.leftB, h.plan,
    fun i hi => by
      obtain ⟨h1, h2, h3⟩ := h.nxs i hi
      exact ⟨at_keep h1 (hk nx (h.inF _ m3) a2.symm), at_keep h2 (hk wr (h.inF _ m4) a3.symm), at_keep h3 (hk rt (h.inF _ m5) a4.symm)⟩,
    h.log.keep hs (fun k hl hq => hk k hl (hq.elim (fun hq => hq.2.1) (fun hq => (h.logA k hq).1))) (fun _ hq => hq), h.sec, h.mem, h.apart, h.logA, fun k hf => Nat.lt_of_lt_of_le (h.inF k hf) hs, h.ok, h.few⟩
theorem RNRaw.setOff (h : RNRaw w F r g S m L n evs pb nx wr rt lv lg) (o : Bool) : RNRaw (w.setCell ⟨r, 10, none⟩ (.bool o)) F r g { S with off := o } m L n evs pb nx wr rt lv lg :=
  h.blockR (by simp) (fun k _ hk => Below.heap_setCell _ _ _ _ hk) o S.wrong (h.blk.set 10 (.bool o))
theorem RNRaw.setWrong (h : RNRaw w F r g S m L n evs pb nx wr rt lv lg) (x : Int) : RNRaw (w.setCell ⟨r, 11, none⟩ (.int .i64 x)) F r g { S with wrong := x } m L n evs pb nx wr rt lv lg :=
  h.blockR (by simp) (fun k _ hk => Below.heap_setCell _ _ _ _ hk) S.off x (h.blk.set 11 (.int .i64 x))
theorem RNRaw.more (h : RNRaw w F r g S m L n evs pb nx wr rt lv lg) {m' : Nat} (hm : m ≤ m') : RNRaw w F r g S m' L n evs pb nx wr rt lv lg :=
  ⟨h.blk, h.pl, h.left, h.leftB, h.plan, h.nxs, h.log, h.sec, h.mem, h.apart, h.logA, h.inF, h.ok, ⟨Nat.le_trans h.few.1 hm, Nat.le_trans h.few.2 hm⟩⟩
end

set_option maxHeartbeats 400000 in
theorem ref08Wrong_any {w : World} {F : Nat → Prop} {r : Nat} {g : Geo} {S : NSt} {m : Nat} (H : RNAt w F r g S m) (x : Int) :
    Calls Try.prog 121 #[.pointer (some ⟨r, 0, none⟩), .int .i64 x] w fun e w' => RNPost w F r g (.int .i64 x) S.bad m e w' := by
  obtain ⟨L, n0, evs, pb, nx, wr, rt, lv, lg, H⟩ := H
  have HN := Lib.hid (H.setWrong (IntKind.i64.wrap (S.wrong + 1)))
  have HO : Hid (OnlyF F w (w.setCell ⟨r, 11, none⟩ (.int .i64 (IntKind.i64.wrap (S.wrong + 1))))) := Lib.hid ((OnlyF.refl F w).setCell (p := ⟨r, 11, none⟩) H.mem.1 _)
  have k11 : w.cell? ⟨r, 11, none⟩ = some (.int .i64 S.wrong) := H.blk.cell 11
  have f11 := H.blk.free 11
  have hrl := H.blk.lt
  obtain ⟨M, hM⟩ : ∃ M, IntKind.i64.wrap (S.wrong + 1) = M := ⟨_, rfl⟩
  have HFIN : Hid (RNPost w F r g (.int .i64 x) S.bad m (.returned (.int .i64 x)) (w.setCell ⟨r, 11, none⟩ (.int .i64 M))) := by
    show RNPost _ _ _ _ _ _ _ _ _
    rw [← hM]
    exact ⟨rfl, F, ⟨L, n0, evs, pb, nx, wr, rt, lv, lg, HN.out⟩, HO.out, Fresh.refl _ _⟩
  clear H HN HO
  go_enter Try.func121, Try.ntmps121
  go_wp2_with fail
  go_ret
  exact HFIN.out

set_option maxHeartbeats 1000000 in
theorem ref08Next_any {w : World} {F : Nat → Prop} {r : Nat} {g : Geo} {S : NSt} {m : Nat} (H : RNAt w F r g S m) (u n : Int) :
    Calls Try.prog 54 #[.pointer (some ⟨r, 0, none⟩), .int .i64 u, .int .i64 n] w fun e w' => e = .returned (.int .i64 (nextO S (findIx g u n))) ∧ Below w.heap.size w w' := by
  have HH := Lib.hid H
  go_enter Try.func54, Try.ntmps54
  (go_wp2_with fail); refine (ref08At_any HH.out u n).mono ?_
  rintro e w1 ⟨rfl, hb⟩
  obtain ⟨L, n0, evs, pb, nx, wr, rt, lv, lg, H1⟩ := HH.out.below hb
  have HB1 := Lib.hid hb
  obtain ⟨hnb1, _, _⟩ := Geo.nb_le H1.ok
  cases hf : findIx g u n with
  | none =>
    have HFX := Lib.hid hf
    simp only [atI]
    clear hb H1 hf H hnb1
    go_wp2_with fail
    go_ret
    exact ⟨by rw [HFX.out]; rfl, HB1.out⟩
  | some i =>
    have hil := findIx_lt hf
    have hx := (H1.nxs i hil).1
    have HFX := Lib.hid hf
    have r9 : w1.cell? ⟨r, 7, none⟩ = some (.slice (some ⟨nx, 0, none⟩) g.nb g.nb) := H1.blk.cell 7
    have hrl := H1.blk.lt
    obtain ⟨N, hN⟩ : ∃ N, g.nb = N := ⟨_, rfl⟩
    rw [hN] at hil r9
    obtain ⟨hx0, hx1⟩ := hx
    have hxl := World.block_lt_of_cell? w1 _ hx0
    have hi0 : (0 : Int) ≤ i := by omega
    have hi1 : (i : Int) < N := by omega
    simp only [atI]
    clear hb H1 hf H hN hnb1 hx1
    go_wp2_with fail
    go_ret
    exact ⟨by rw [HFX.out]; rfl, HB1.out⟩

set_option maxHeartbeats 1000000 in
theorem ref08Wear_any {w : World} {F : Nat → Prop} {r : Nat} {g : Geo} {S : NSt} {m : Nat} (H : RNAt w F r g S m) (u n : Int) :
    Calls Try.prog 55 #[.pointer (some ⟨r, 0, none⟩), .int .i64 u, .int .i64 n] w fun e w' => e = .returned (.int .i64 (wearO S (findIx g u n))) ∧ Below w.heap.size w w' := by
  have HH := Lib.hid H
  go_enter Try.func55, Try.ntmps55
  (go_wp2_with fail); refine (ref08At_any HH.out u n).mono ?_
  rintro e w1 ⟨rfl, hb⟩
  obtain ⟨L, n0, evs, pb, nx, wr, rt, lv, lg, H1⟩ := HH.out.below hb
  have HB1 := Lib.hid hb
  obtain ⟨hnb1, _, _⟩ := Geo.nb_le H1.ok
  cases hf : findIx g u n with
  | none =>
    have HFX := Lib.hid hf
    simp only [atI]
    clear hb H1 hf H hnb1
    go_wp2_with fail
    go_ret
    exact ⟨by rw [HFX.out]; rfl, HB1.out⟩
  | some i =>
    have hil := findIx_lt hf
    have hx := (H1.nxs i hil).2.1
    have HFX := Lib.hid hf
    have r9 : w1.cell? ⟨r, 8, none⟩ = some (.slice (some ⟨wr, 0, none⟩) g.nb g.nb) := H1.blk.cell 8
    have hrl := H1.blk.lt
    obtain ⟨N, hN⟩ : ∃ N, g.nb = N := ⟨_, rfl⟩
    rw [hN] at hil r9
    obtain ⟨hx0, hx1⟩ := hx
    have hxl := World.block_lt_of_cell? w1 _ hx0
    have hi0 : (0 : Int) ≤ i := by omega
    have hi1 : (i : Int) < N := by omega
    simp only [atI]
    clear hb H1 hf H hN hnb1 hx1
    go_wp2_with fail
    go_ret
    exact ⟨by rw [HFX.out]; rfl, HB1.out⟩

set_option maxHeartbeats 1000000 in
theorem ref08Retire_any {w : World} {F : Nat → Prop} {r : Nat} {g : Geo} {S : NSt} {m : Nat} (H : RNAt w F r g S m) (u n : Int) :
    Calls Try.prog 107 #[.pointer (some ⟨r, 0, none⟩), .int .i64 u, .int .i64 n] w fun e w' => RNPost w F r g (.int .i64 (retireTo g S u n).1) (retireTo g S u n).2 m e w' := by
  have HH := Lib.hid H
  obtain ⟨L, n0, evs, pb, nx, wr, rt, lv, lg, H⟩ := H
  have HP : Hid (retireTo g S u n = (if S.off = true then (5, S) else match findIx g u n with | none => (1, S.bad) | some i => (0, { S with ret := fun j => if j = i then true else S.ret j }) : Int × NSt)) := Lib.hid rfl
  obtain ⟨R, hR⟩ : ∃ R, retireTo g S u n = R := ⟨_, rfl⟩
  rw [hR] at HP
  rw [hR]
  clear hR
  have k10 : w.cell? ⟨r, 10, none⟩ = some (.bool S.off) := H.blk.cell 10
  have hrl := H.blk.lt
  clear H
  obtain ⟨O, hO⟩ : ∃ O, S.off = O := ⟨_, rfl⟩
  rw [hO] at k10
  by_cases hoff : O = true
  · subst hoff
    have HFIN : Hid (RNPost w F r g (.int .i64 R.1) R.2 m (.returned (.int .i64 5)) w) := by
      show RNPost _ _ _ _ _ _ _ _ _
      rw [HP.out, if_pos hO]
      exact ⟨rfl, F, HH.out, OnlyF.refl _ _, Fresh.refl _ _⟩
    clear hO
    go_enter Try.func107, Try.ntmps107
    go_wp2_with fail
    go_ret
    exact HFIN.out
  obtain rfl : O = false := by simpa using hoff
  have hp2 := HP.out
  rw [if_neg (by rw [hO]; decide)] at hp2
  have HP2 := Lib.hid hp2
  clear hO hoff HP hp2
  go_enter Try.func107, Try.ntmps107
  (go_wp2_with fail); refine (ref08At_any HH.out u n).mono ?_
  rintro e w1 ⟨rfl, hb⟩
  have H1 := Lib.hid (HH.out.below hb)
  have HO1 := Lib.hid (OnlyF.below (F := F) hb)
  clear hb k10
  cases hf : findIx g u n with
  | none =>
    have HRX : Hid (R = (1, S.bad)) := by show _ = _; rw [HP2.out, hf]
    clear hf HP2
    simp only [atI]
    (go_wp2_with fail); refine (ref08Wrong_any H1.out 1).mono ?_
    intro e w9 hp
    obtain ⟨rfl, hq⟩ := hp
    have HFIN : Hid (RNPost w F r g (.int .i64 R.1) R.2 m (.returned (.int .i64 1)) w9) := by
      show RNPost _ _ _ _ _ _ _ _ _
      rw [HRX.out]
      exact RNPost.from (F1 := F) ⟨rfl, hq⟩ HO1.out (Fresh.refl _ _)
    clear hq
    go_wp2_with fail
    go_ret
    exact HFIN.out
  | some i =>
    have hilt := findIx_lt hf
    obtain ⟨L, n0, evs, pb, nx, wr, rt, lv, lg, h1⟩ := H1.out
    have hN := (Geo.nb_le h1.ok).1
    obtain ⟨_, _, x2, y2⟩ := h1.nxs i hilt
    have hbl := World.block_lt_of_cell? w1 _ x2
    have r9 : w1.cell? ⟨r, 9, none⟩ = some (.slice (some ⟨rt, 0, none⟩) g.nb g.nb) := h1.blk.cell 9
    have hrl1 := h1.blk.lt
    have HFIN : Hid (RNPost w F r g (.int .i64 R.1) R.2 m (.returned (.int .i64 0)) (w1.setCell ⟨rt, i, none⟩ (.bool true))) := by
      show RNPost _ _ _ _ _ _ _ _ _
      rw [HP2.out, hf]
      exact ⟨rfl, F, ⟨L, n0, evs, pb, nx, wr, rt, lv, lg, h1.setRet hilt true⟩, HO1.out.setCell (p := ⟨rt, i, none⟩) h1.mem.2.2.2.2.1 _, Fresh.refl _ _⟩
    obtain ⟨N, hNN⟩ : ∃ N, g.nb = N := ⟨_, rfl⟩
    rw [hNN] at hilt r9 hN
    have hi0 : (0 : Int) ≤ i := by omega
    have hi1 : (i : Int) < N := by omega
    clear hf HP2 h1 hNN
    simp only [atI]
    go_wp2_with fail
    go_ret
    exact HFIN.out

end Go.Proofs.Ytlkapaecaeldpaa
