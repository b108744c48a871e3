/-
  Package strakeref11: Get, Bits.
-/
import Derived.Test.YtlkapaecaeldpaaRef11
import Derived.Test.YtlkapaecaeldpaaRef04b
set_option linter.unusedVariables false
set_option linter.unusedSimpArgs false
set_option maxRecDepth 16384
namespace Go.Proofs.Ytlkapaecaeldpaa
open Go.RowKit

/-- a line's bitmap out of the first so many entries -/
def bitsR (line : Int) (to : List Ent) (l : Int) : Nat → List Int
  | 0 => List.replicate (makeN line) 0
  | i + 1 => if 0 ≤ (to.getD i Ent.none).a ∧ (to.getD i Ent.none).a / line = l then setL (bitsR line to l i) ((to.getD i Ent.none).a % line) true else bitsR line to l i

theorem bitsR_length (line : Int) (to : List Ent) (l : Int) : ∀ j, (bitsR line to l j).length = makeN line
  | 0 => by simp [bitsR]
  | j + 1 => by
    rw [bitsR]
    split
    · rw [setL_length, bitsR_length line to l j]
    · exact bitsR_length line to l j
theorem bitsR_isB (line : Int) (to : List Ent) (l : Int) : ∀ j, ∀ x ∈ bitsR line to l j, IsB x
  | 0 => by
    intro x hx
    rw [bitsR, List.mem_replicate] at hx
    rw [hx.2]
    exact ⟨by decide, by decide⟩
  | j + 1 => by
    rw [bitsR]
    split
    · exact setL_isB (bitsR_isB line to l j) _ _
    · exact bitsR_isB line to l j

set_option maxHeartbeats 1000000 in
theorem ref11Get_any {w : World} {B r : Nat} {g : Geo} {to : List Ent} {v : Value} (HM : RefAt w B r g to v) (i : Nat) (x : Ent) (hi : to[i]? = some x) :
    Calls Try.prog 68 #[.pointer (some ⟨r, 0, none⟩), .int .i64 i] w fun e w' => e = .returned (.tuple #[x.v, .int .i64 0]) ∧ Below w.heap.size w w' := by
  have hlt := (List.getElem?_eq_some_iff.1 hi).1
  obtain ⟨b, cap, rfl, hbl, c0, c1, c2⟩ := HM.get hi
  have m5 : w.cell? ⟨r, 5, none⟩ = some (.slice (some ⟨b, 0, none⟩) to.length cap) := HM.blk.cell 5
  have hrl := HM.blk.lt
  obtain ⟨N, hN⟩ : ∃ N, to.length = N := ⟨_, rfl⟩
  rw [hN] at m5 hlt
  obtain ⟨xa, xs, xk⟩ := x
  simp only at c0 c1 c2
  have hi0 : (0 : Int) ≤ i := by omega
  clear HM hN hi
  go_enter Try.func68, Try.ntmps68
  go_wp2_with fail
  refine bodyPost_ret (by simp [results, Try.results68, go_sem]; try rfl) rfl ?_
  exact ⟨rfl, (Below.refl w.heap.size w).alloc (Nat.le_refl _) _⟩

set_option maxHeartbeats 1000000 in
theorem ref11GetNo_any {w : World} {B r : Nat} {g : Geo} {to : List Ent} {v : Value} (HM : RefAt w B r g to v) (i : Int) (hi : ¬ (0 ≤ i ∧ i < to.length)) :
    Calls Try.prog 68 #[.pointer (some ⟨r, 0, none⟩), .int .i64 i] w fun e w' => e = .returned (.tuple #[(Ent.mk 0 0 0).v, .int .i64 2]) ∧ Below w.heap.size w w' := by
  obtain ⟨a, cap, rfl⟩ := own_slice HM.row
  have m5 : w.cell? ⟨r, 5, none⟩ = some (.slice a to.length cap) := HM.blk.cell 5
  have hrl := HM.blk.lt
  obtain ⟨N, hN⟩ : ∃ N, to.length = N := ⟨_, rfl⟩
  rw [hN] at m5 hi
  clear HM hN
  go_enter Try.func68, Try.ntmps68
  by_cases h0 : i < 0
  · go_wp2_with fail
    refine bodyPost_ret (by simp [results, Try.results68, go_sem]; try rfl) rfl ?_
    exact ⟨rfl, (Below.refl w.heap.size w).alloc (Nat.le_refl _) _⟩
  · have h1 : (N : Int) ≤ i := by omega
    clear hi
    go_wp2_with fail
    refine bodyPost_ret (by simp [results, Try.results68, go_sem]; try rfl) rfl ?_
    exact ⟨rfl, (Below.refl w.heap.size w).alloc (Nat.le_refl _) _⟩

set_option maxHeartbeats 2000000 in
theorem ref11Bits_any {w : World} {B r : Nat} {g : Geo} {to : List Ent} {v : Value} (HM : RefAt w B r g to v) (hok : g.okB = true) (hlen : to.length ≤ 4096) (hfine : ∀ e ∈ to, e.a < g.all) (l : Int) (hl : 0 ≤ l ∧ l < g.blocks) :
    Calls Try.prog 71 #[.pointer (some ⟨r, 0, none⟩), .int .i64 l] w (Po fun e w' => ∃ v, e = .returned v ∧ w'.ownsRow w.heap.size 5 1 v (makeN g.line) (bv (bitsR g.line to l to.length)) ∧ Below w.heap.size w w') := by
  have hgo := Geo.ok_of hok
  obtain ⟨m1, m2, m3, m4, m5', m6, m7, m8, m9, m10⟩ := geo_mul hgo.c.1 hgo.c.2 hgo.l.1 hgo.l.2 hgo.b.1 hgo.b.2 hgo.p.1 hgo.p.2 hgo.s.1 hgo.s.2
  obtain ⟨L, hL⟩ : ∃ L : Nat, g.line = L := ⟨g.line.toNat, by unfold Geo.line; omega⟩
  have hL1 : 1 ≤ L ∧ L ≤ 1024 := by have : g.line = g.chans * g.luns * g.pages * g.sectors := rfl; omega
  have hM8 : makeN g.line = (L + 7) / 8 := by rw [hL]; unfold makeN; rw [if_pos (by omega)]; omega
  have HLN : Hid (∀ wy, Calls Try.prog 115 #[g.v] wy fun e w' => e = .returned (.int .i64 L) ∧ Below wy.heap.size wy w') := by
    intro wy
    have := ref03Line_any g wy
    unfold Geo.lineI at this
    rwa [if_pos hok, hL] at this
  have HLEN := Lib.hid (bitsR_length g.line to l)
  have HISB := Lib.hid (bitsR_isB g.line to l)
  have HNX : Hid (∀ (i : Nat) (e : Ent), to[i]? = some e → bitsR g.line to l (i + 1) = if 0 ≤ e.a ∧ e.a / (L : Int) = l then setL (bitsR g.line to l i) (e.a % L) true else bitsR g.line to l i) := fun i e he => by
    rw [bitsR, hL, List.getD_eq_getElem?_getD, he]
    rfl
  have HFI := Lib.hid hfine
  have HRM := Lib.hid HM
  have hA : g.all ≤ 65536 := m8
  have HR0 : Hid (bitsR g.line to l 0 = List.replicate (makeN g.line) 0) := rfl
  obtain ⟨R, hR⟩ : ∃ R, R = bitsR g.line to l := ⟨_, rfl⟩
  rw [← hR] at HLEN HISB HNX HR0 ⊢
  obtain ⟨M, hM⟩ : ∃ M, makeN g.line = M := ⟨_, rfl⟩
  have hM2 : makeN (L : Int) = M := by rw [← hL]; exact hM
  rw [hM] at HLEN HR0 hM8 ⊢
  have hM9 : L ≤ 8 * M ∧ M ≤ 1024 := by omega
  clear hM8
  obtain ⟨A, hAA⟩ : ∃ A, g.all = A := ⟨_, rfl⟩
  rw [hAA] at HFI hA
  have hbl := hgo.b
  have HM0 := HM.blk
  obtain ⟨a, cap, rfl⟩ := own_slice HM.row
  clear HM hfine hR hM hL m1 m2 m3 m4 m5' m6 m7 m8 m9 m10 hok hgo hAA
  obtain ⟨c, l', b, pp, s⟩ := g
  simp only at hbl hl
  obtain ⟨bl, rfl⟩ : ∃ bl : Nat, b = bl := ⟨b.toNat, by omega⟩
  obtain ⟨N, hN⟩ : ∃ N, to.length = N := ⟨_, rfl⟩
  rw [hN] at HM0 hlen ⊢
  have hrl := HM0.lt
  have k0 : w.cell? ⟨r, 0, none⟩ = some (.int .i64 c) := HM0.cell 0
  have k1 : w.cell? ⟨r, 1, none⟩ = some (.int .i64 l') := HM0.cell 1
  have k2 : w.cell? ⟨r, 2, none⟩ = some (.int .i64 bl) := HM0.cell 2
  have k3 : w.cell? ⟨r, 3, none⟩ = some (.int .i64 pp) := HM0.cell 3
  have k4 : w.cell? ⟨r, 4, none⟩ = some (.int .i64 s) := HM0.cell 4
  obtain ⟨hl0, hl1⟩ := hl
  unfold Geo.v at HLN
  clear HM0
  go_enter Try.func71, Try.ntmps71
  (go_wp2_with fail); refine (HLN.out _).mono ?_
  rintro e w1 ⟨rfl, hb⟩
  have HRM1 := Lib.hid (HRM.out.below hb)
  have HB1 := Lib.hid hb
  clear hb
  (go_wp2_with fail); refine (refMake_any L _ ⟨by omega, by omega⟩).mono ?_
  rintro e w2 ⟨u, rfl, ho, hb⟩
  rw [hM2] at ho
  have HO2 : Hid (w2.ownsRow w.heap.size 5 1 u M (bv (R 0))) := by
    rw [HR0.out]
    obtain ⟨h1, h2⟩ := ho
    refine ⟨h1, ?_⟩
    rcases h2 with h2 | ⟨g', c', cur, h3, h4, h5⟩
    · exact .inl h2
    · exact .inr ⟨g', c', cur, h3, Nat.le_trans HB1.out.size h4, h5⟩
  have HRM2 := Lib.hid (HRM1.out.below hb)
  have HB2 := Lib.hid (HB1.out.trans (hb.mono HB1.out.size))
  obtain ⟨ua, uc, rfl⟩ := own_slice ho
  clear ho hb
  go_wp2_with fail
  go_loopw [6, 7] (fun bb t wr => ∃ (i : Nat) (ua : Option Addr) (uc : Nat), i ≤ N ∧ t = .int .i64 i ∧ bb = .slice ua M uc ∧ Hid (RefAt wr B r ⟨c, l', bl, pp, s⟩ to (.slice a to.length cap)) ∧ Hid (wr.ownsRow w.heap.size 5 1 (.slice ua M uc) M (bv (R i))) ∧ Hid (Below w.heap.size w wr)) (fun _ t _ => ((N : Int) - intOf t).toNat)
  case atStart => exact ⟨0, ua, uc, Nat.zero_le _, rfl, rfl, HRM2.out, HO2.out, HB2.out⟩
  case round =>
    obtain ⟨i, ua, uc, hi, rfl, rfl, HRr, HOr, HBr⟩ := hrel
    have q5 : wr.cell? ⟨r, 5, none⟩ = some (.slice a N cap) := by have := HRr.out.blk.cell 5; rw [hN] at this; exact this
    have hrl2 := HRr.out.blk.lt
    by_cases hlt : i < N
    · obtain ⟨x, hx⟩ : ∃ x, to[i]? = some x := ⟨_, List.getElem?_eq_getElem (by omega)⟩
      obtain ⟨gb, cp', he, hgl, c0, _, _⟩ := HRr.out.get hx
      injection he with he1 he2 he3
      subst he1
      have hxA := HFI.out x (List.mem_of_getElem? hx)
      have HNI := Lib.hid (HNX.out i x hx)
      obtain ⟨xa, xs, xk⟩ := x
      simp only at c0 hxA HNI
      have hi0 : (0 : Int) ≤ i := by omega
      have hi1 : (i : Int) < N := by omega
      clear he2 he3 hx
      by_cases hx0 : 0 ≤ xa
      · have hL0 : ¬ (L : Int) = 0 := by omega
        have hLn : ¬ L = 0 := by omega
        have hLb : ((L : Int) == 0) = false := beq_eq_false_iff_ne.2 hL0
        have htd : xa.tdiv (L : Int) = xa / L := Int.tdiv_eq_ediv_of_nonneg hx0
        have htm : xa.tmod (L : Int) = xa % L := Int.tmod_eq_emod_of_nonneg hx0
        have hd1 := Int.ediv_nonneg hx0 (show (0 : Int) ≤ L by omega)
        have hd2 := Int.ediv_le_self (L : Int) hx0
        have hm1 := Int.emod_nonneg xa hL0
        have hm2 := Int.emod_lt_of_pos xa (show (0 : Int) < L by omega)
        have hw1 : IntKind.i64.wrap (xa / L) = xa / L := wrap_in _ ⟨by omega, by omega⟩
        have hw2 : IntKind.i64.wrap (xa % L) = xa % L := wrap_in _ ⟨by omega, by omega⟩
        obtain ⟨Q, hQ⟩ : ∃ Q, xa / (L : Int) = Q := ⟨_, rfl⟩
        obtain ⟨Z, hZ⟩ : ∃ Z, xa % (L : Int) = Z := ⟨_, rfl⟩
        rw [hQ] at htd hw1 HNI hd1 hd2
        rw [hZ] at htm hw2 HNI hm1 hm2
        clear hQ hZ
        by_cases hQl : Q = l
        · have hQb : (Q == l) = true := by simp [hQl]
          have HNI2 := HNI.out
          rw [if_pos ⟨hx0, hQl⟩] at HNI2
          have HNJ := Lib.hid HNI2
          clear HNI2 HNI hQl
          (go_wp2_with fail); refine (refSet_yes _ (R i) Z true _ (Sl.mono (Sl.of_own HOr.out (by rw [bv_length, HLEN.out]; omega)) (Nat.zero_le _)) (HISB.out i) ⟨by omega, by omega⟩ ⟨hm1, by rw [HLEN.out]; omega⟩).mono ?_
          rintro e w3 ⟨u, rfl, ho, hb⟩
          rw [HLEN.out, ← HNJ.out] at ho
          have HO3 : Hid (w3.ownsRow w.heap.size 5 1 u M (bv (R (i + 1)))) := by
            obtain ⟨h1, h2⟩ := ho
            refine ⟨h1, ?_⟩
            rcases h2 with h2 | ⟨g', c', cur, h3, h4, h5⟩
            · exact .inl h2
            · exact .inr ⟨g', c', cur, h3, Nat.le_trans HBr.out.size h4, h5⟩
          have HR3 := Lib.hid (HRr.out.below hb)
          have HB3 := Lib.hid (HBr.out.trans (hb.mono HBr.out.size))
          obtain ⟨ua3, uc3, rfl⟩ := own_slice ho
          clear ho hb
          go_wp2_with fail
          go_roundw
          case rel => exact ⟨i + 1, ua3, uc3, by omega, by go_num, rfl, HR3.out, HO3.out, HB3.out⟩
          case measure => simp [intOf]; omega
        · have hQb : (Q == l) = false := by simp [hQl]
          have HNI2 := HNI.out
          rw [if_neg (fun h => hQl h.2)] at HNI2
          have HOn : Hid (wr.ownsRow w.heap.size 5 1 (.slice ua M uc) M (bv (R (i + 1)))) := by rw [HNI2]; exact HOr
          clear HNI2 HNI hQl
          go_wp2_with fail
          go_roundw
          case rel => exact ⟨i + 1, ua, uc, by omega, by go_num, rfl, HRr.out, HOn.out, HBr.out⟩
          case measure => simp [intOf]; omega
      · have HNI2 := HNI.out
        rw [if_neg (fun h => hx0 h.1)] at HNI2
        have HOn : Hid (wr.ownsRow w.heap.size 5 1 (.slice ua M uc) M (bv (R (i + 1)))) := by rw [HNI2]; exact HOr
        clear HNI2 HNI
        go_wp2_with fail
        go_roundw
        case rel => exact ⟨i + 1, ua, uc, by omega, by go_num, rfl, HRr.out, HOn.out, HBr.out⟩
        case measure => simp [intOf]; omega
    · obtain rfl : i = N := by omega
      go_wp2_with fail
      go_ret
      exact Po.mk ⟨_, rfl, HOr.out, HBr.out⟩

end Go.Proofs.Ytlkapaecaeldpaa
