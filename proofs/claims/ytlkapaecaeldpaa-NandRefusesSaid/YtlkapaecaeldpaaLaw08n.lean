/-
  The law's package over nand: look; NandRefuses.
-/
import Derived.Test.YtlkapaecaeldpaaLaw08m
import Derived.Deep.CutBlock
import Derived.Deep.CutRange
set_option linter.unusedVariables false
set_option linter.unusedSimpArgs false
set_option maxRecDepth 16384
namespace Go.Proofs.Ytlkapaecaeldpaa
open Go.RowKit

/-- an append to a row of the call's own, and where the row lies then -/
theorem wpList_append_sl_at {P : Program} (w : World) {ops : Array Oper} {rest : List Oper} {o : Oper} {a : Act} {Q : Exit → Act → World → Prop} (hgd : o.guard = none) (s x : Operand) (t : TypeId)
    (ho : o.op = .call { callee := .builtin .append, args := #[s, x], argTypes := #[t, t] })
    (base : Nat) (e : TypeId) (i : TypeInfo) (z : Value) (bytes : Nat) (ht : P.underlying t = some (.slice e)) (hi : P.info? e = some i) (hz : i.zero = some z)
    (hsize : i.size = 1) (hby : i.bytes = bytes) (hzs : z.cells.size = 1)
    (v : Value) (n : Nat) (xs : List Value) (hs : a.eval s = v) (hown : w.ownsRow base e 1 v n xs)
    (B : Nat) (xv : Value) (news : List Value) (hx : a.eval x = xv) (hsl : Sl w B xv news) (h1 : ∀ u ∈ news, u.oneCell' = true)
    (h63 : n + news.length ≤ maxLen) (hbytes : (n + news.length) * bytes ≤ 140737488355328) (hbase : base ≤ w.heap.size)
    (h : ∀ v' w', w'.ownsRow base e 1 v' (n + news.length) (xs ++ news) → w.grownBy w' v.ownBlock → (v'.ownBlock = v.ownBlock ∨ v'.ownBlock = some w.heap.size) → wpList P ops Q rest (a.put o.dst v') w') :
    wpList P ops Q (o :: rest) a w := by
  refine wpList_plain hgd fun K hK => ?_
  obtain ⟨v', w', hr, h2, h3, h4⟩ := run_append_sl (P := P) (w := w) base t o.type e i z bytes ht hi hz hsize hby hzs v n xs hown B xv news hsl h1 h63 hbytes hbase
  unfold Oper.wp execOp
  simp only [ho, resolve, invoke, builtin, Sem.run_bind, Sem.run_pure, Result.andThen_ok, List.map_toArray, List.map_cons, List.map_nil, hs, hx, hr]
  exact hK _ _ (h v' w' h2 h3 h4)

set_option maxHeartbeats 4000000 in
theorem look_any {w : World} {F : Nat → Prop} {d : Nat} {g : Geo} {S : NSt} (H : NandAt w F d g S) (hI : SInv g S) :
    Calls Try.prog 56 #[.pointer (some ⟨d, 0, none⟩)] w fun e w' => e = .returned (.string (strOfNums (lookL g S))) ∧ Below w.heap.size w w' := by
  have HH := Lib.hid H
  have HI := Lib.hid hI
  have hok := H.ok
  have HOK := Lib.hid hok
  have hgo := Geo.ok_of hok
  have hb0 := hgo.b
  have hA : 0 ≤ g.all ∧ g.all ≤ 65536 ∧ 1 ≤ g.chans * g.luns ∧ g.chans * g.luns ≤ 8 := by
    obtain ⟨m1, m2, m3, m4, m5', m6, m7, m8, m9, m10⟩ := geo_mul hgo.c.1 hgo.c.2 hgo.l.1 hgo.l.2 hgo.b.1 hgo.b.2 hgo.p.1 hgo.p.2 hgo.s.1 hgo.s.2
    exact ⟨Int.le_trans (by decide) m7, m8, m1, m2⟩
  obtain ⟨A, hAA⟩ : ∃ A : Nat, g.all = A := ⟨g.all.toNat, by omega⟩
  obtain ⟨U, hUU⟩ : ∃ U : Nat, g.chans * g.luns = U := ⟨(g.chans * g.luns).toNat, by omega⟩
  obtain ⟨N, hNN⟩ : ∃ N : Nat, g.blocks = N := ⟨g.blocks.toNat, by omega⟩
  have HAL : Hid (∀ wy, Calls Try.prog 80 #[g.v] wy fun e w' => e = .returned (.int .i64 A) ∧ Below wy.heap.size wy w') := fun wy => by
    have := geomAll_ok8 g hok wy
    rwa [hAA] at this
  have HUN : Hid (∀ wy, Calls Try.prog 74 #[g.v] wy fun e w' => e = .returned (.int .i64 U) ∧ Below wy.heap.size wy w') := fun wy => by
    have := geomUnits_ok g hok wy
    rwa [hUU] at this
  have HLL : Hid (lookL g S = lookUs g S U ++ lookAs g S A) := by
    show _ = _
    unfold lookL
    rw [show (g.chans * g.luns).toNat = U by omega, show g.all.toNat = A by omega]
  have HNB : Hid (g.blocks.toNat = N) := show _ = _ by omega
  have hA6 : Hid (True → A ≤ 65536 ∧ U ≤ 8 ∧ N ≤ 64) := fun _ => ⟨by omega, by omega, by omega⟩
  clear hgo hA hAA hUU hb0 H hI hok
  obtain ⟨c, l, b, p, s⟩ := g
  simp only at hNN
  subst hNN
  simp only [Geo.v] at HAL HUN
  rw [HLL.out]
  clear HLL
  go_enter Try.func56, Try.ntmps56
  (go_wp2_with fail); refine (nandGeometry_raw HH.out).mono ?_
  rintro e w1 ⟨rfl, hb⟩
  have hb2 : Below w1.heap.size w1 ((w1.alloc (.cells #[.int .i64 c, .int .i64 l, .int .i64 N, .int .i64 p, .int .i64 s] 23)).alloc (.cells #[] 5)) := ((Below.refl _ _).alloc (Nat.le_refl _) _).alloc (by simp) _
  have HG0 := Lib.hid ((Blk.new w1 23 [.int .i64 c, .int .i64 l, .int .i64 N, .int .i64 p, .int .i64 s]).alloc (.cells #[] 5))
  have hs1 := hb.size
  have HO0 : Hid (World.ownsRow ((w1.alloc (.cells #[.int .i64 c, .int .i64 l, .int .i64 N, .int .i64 p, .int .i64 s] 23)).alloc (.cells #[] 5)) w.heap.size 5 1 (.slice (some ⟨w1.heap.size + 1, 0, none⟩) 0 0) 0 (bv [])) := by
    have h := (Blk.new (w1.alloc (.cells #[.int .i64 c, .int .i64 l, .int .i64 N, .int .i64 p, .int .i64 s] 23)) 5 []).own (B := w.heap.size) (by simp; omega) (by simp)
    rw [show (w1.alloc (.cells #[.int .i64 c, .int .i64 l, .int .i64 N, .int .i64 p, .int .i64 s] 23)).heap.size = w1.heap.size + 1 by simp] at h
    exact h
  have HB0 := Lib.hid (hb.trans (hb2.mono hs1))
  clear hb hb2 hs1
  go_wp2_with fail
  generalize hgb : w1.heap.size = gb at *
  obtain ⟨i0, hif, hz0, hz1, hz2⟩ := info_parts info_u8
  go_loopw [4, 5] (fun t4 t5 wr => ∃ (k : Nat) (v : Value), k ≤ U ∧ v = t4 ∧ t5 = .int .i64 k ∧ Hid (wr.ownsRow w.heap.size 5 1 v (lookUs ⟨c, l, N, p, s⟩ S k).length (bv (lookUs ⟨c, l, N, p, s⟩ S k))) ∧ Hid (Blk wr gb 23 [.int .i64 c, .int .i64 l, .int .i64 N, .int .i64 p, .int .i64 s]) ∧ Hid (Below w.heap.size w wr)) (fun _ t _ => ((U : Int) - intOf t).toNat)
  case atStart => exact ⟨0, _, by omega, rfl, rfl, HO0.out, HG0.out, HB0.out⟩
  case round =>
    obtain ⟨k, v, hk, rfl, rfl, HOr, HGr, HBr⟩ := hrel
    clear HO0 HG0 HB0
    have hkg := HGr.out
    have k0 : wr.cell? ⟨gb, 0, none⟩ = some (.int .i64 c) := hkg.cell 0
    have k1 : wr.cell? ⟨gb, 1, none⟩ = some (.int .i64 l) := hkg.cell 1
    have k2 : wr.cell? ⟨gb, 2, none⟩ = some (.int .i64 N) := hkg.cell 2
    have k3 : wr.cell? ⟨gb, 3, none⟩ = some (.int .i64 p) := hkg.cell 3
    have k4 : wr.cell? ⟨gb, 4, none⟩ = some (.int .i64 s) := hkg.cell 4
    have hltk := hkg.lt
    clear hkg
    (go_wp2_with fail); refine (HUN.out _).mono ?_
    rintro e w2 ⟨rfl, hb⟩
    have HO2 := Lib.hid (own_below HOr.out hb)
    have HG2 := Lib.hid (HGr.out.below hb)
    have HB2 := Lib.hid (HBr.out.trans (hb.mono HBr.out.size))
    clear hb k0 k1 k2 k3 k4 hltk HOr HGr HBr
    by_cases hlt : k < U
    · have hk1 : (k : Int) < U := by omega
      have HLT : Hid (True → k < U) := fun _ => hlt
      have hwk : IntKind.i64.wrap ((k : Int) + 1) = (k : Int) + 1 := wrap_in _ ⟨by omega, by have := hA6 trivial; omega⟩
      have HKC : Hid (((k + 1 : Nat) : Int) = (k : Int) + 1) := show _ = _ by omega
      have HKL : Hid (True → (lookUs ⟨c, l, N, p, s⟩ S k).length ≤ 2000) := fun _ => by
        have h := lookUs_len ⟨c, l, N, p, s⟩ S k
        have h2 := hA6 trivial
        have h3 : 3 * N * k ≤ 3 * 64 * 8 := Nat.mul_le_mul (by omega) (by omega)
        simp only [Int.toNat_natCast] at h
        omega
      go_wp2_with fail
      go_loopw [4, 6] (fun t4 t6 wr => ∃ (j : Nat) (v : Value), j ≤ N ∧ v = t4 ∧ t6 = .int .i64 j ∧ Hid (wr.ownsRow w.heap.size 5 1 v (lookUs ⟨c, l, N, p, s⟩ S k ++ lookBs ⟨c, l, N, p, s⟩ S k j).length (bv (lookUs ⟨c, l, N, p, s⟩ S k ++ lookBs ⟨c, l, N, p, s⟩ S k j))) ∧ Hid (Blk wr gb 23 [.int .i64 c, .int .i64 l, .int .i64 N, .int .i64 p, .int .i64 s]) ∧ Hid (Below w.heap.size w wr)) (fun _ t _ => ((N : Int) - intOf t).toNat)
      case atStart => exact ⟨0, _, by omega, rfl, rfl, by rw [show lookBs ⟨c, l, N, p, s⟩ S k 0 = [] from rfl, List.append_nil]; exact HO2.out, HG2.out, HB2.out⟩
      case round =>
        obtain ⟨j, v2, hj, rfl, rfl, HO3, HG3, HB3⟩ := hrel
        clear HO2 HG2 HB2
        have hkg := HG3.out
        have k0 : wr.cell? ⟨gb, 0, none⟩ = some (.int .i64 c) := hkg.cell 0
        have k1 : wr.cell? ⟨gb, 1, none⟩ = some (.int .i64 l) := hkg.cell 1
        have k2 : wr.cell? ⟨gb, 2, none⟩ = some (.int .i64 N) := hkg.cell 2
        have k3 : wr.cell? ⟨gb, 3, none⟩ = some (.int .i64 p) := hkg.cell 3
        have k4 : wr.cell? ⟨gb, 4, none⟩ = some (.int .i64 s) := hkg.cell 4
        have hltk := hkg.lt
        clear hkg
        by_cases hlt2 : j < N
        · have hj1 : (j : Int) < N := by omega
          have HLT2 : Hid (True → j < N) := fun _ => hlt2
          have hwj : IntKind.i64.wrap ((j : Int) + 1) = (j : Int) + 1 := wrap_in _ ⟨by omega, by have := hA6 trivial; omega⟩
          have HJC : Hid (((j + 1 : Nat) : Int) = (j : Int) + 1) := show _ = _ by omega
          have HSTEP : Hid (lookBs ⟨c, l, N, p, s⟩ S k (j + 1) = lookBs ⟨c, l, N, p, s⟩ S k j ++ lookB S (findIx ⟨c, l, N, p, s⟩ k j)) := lookBs_step _ _ _ _
          obtain ⟨L, hL⟩ : ∃ L, lookUs ⟨c, l, N, p, s⟩ S k ++ lookBs ⟨c, l, N, p, s⟩ S k j = L := ⟨_, rfl⟩
          have HLEN : Hid (True → L.length ≤ 4000) := fun _ => by
            have h := HKL.out trivial
            have h2 := hA6 trivial
            have h3 := lookBs_len ⟨c, l, N, p, s⟩ S k j
            rw [← hL, List.length_append]
            omega
          have HLE := Lib.hid hL
          rw [hL] at HO3
          clear hL
          generalize hoo : findIx ⟨c, l, N, p, s⟩ (k : Int) (j : Int) = ox at HSTEP
          have HRC : Hid (∀ wz, Below wr.heap.size wr wz → Calls Try.prog 26 #[.pointer (some ⟨d, 0, none⟩), .int .i64 k, .int .i64 j] wz fun e w' => e = .returned (.bool (retO S ox)) ∧ Below wz.heap.size wz w') := fun wz hz => by
            have := nandRetired_any (HH.out.below (HB3.out.trans (hz.mono HB3.out.size))) k j
            rwa [hoo] at this
          have HNC : Hid (∀ wz, Below wr.heap.size wr wz → Calls Try.prog 28 #[.pointer (some ⟨d, 0, none⟩), .int .i64 k, .int .i64 j] wz fun e w' => e = .returned (.int .i64 (nextO S ox)) ∧ Below wz.heap.size wz w') := fun wz hz => by
            have := nandNext_any (HH.out.below (HB3.out.trans (hz.mono HB3.out.size))) k j
            rwa [hoo] at this
          have HWC : Hid (∀ wz, Below wr.heap.size wr wz → Calls Try.prog 29 #[.pointer (some ⟨d, 0, none⟩), .int .i64 k, .int .i64 j] wz fun e w' => e = .returned (.int .i64 (wearO S ox)) ∧ Below wz.heap.size wz w') := fun wz hz => by
            have := nandWear_any (HH.out.below (HB3.out.trans (hz.mono HB3.out.size))) k j
            rwa [hoo] at this
          have HSB : Hid (lookB S ox = [if retO S ox = true then 1 else 0, IntKind.u8.wrap (nextO S ox), IntKind.u8.wrap (wearO S ox)]) := show _ = _ from rfl
          clear hoo
          generalize nextO S ox = NX at HNC HSB
          generalize wearO S ox = WE at HWC HSB
          obtain ⟨RT, hRT⟩ : ∃ x, retO S ox = x := ⟨_, rfl⟩
          rw [hRT] at HRC HSB
          clear hRT
          obtain ⟨M, hM⟩ : ∃ M, lookB S ox = M := ⟨_, rfl⟩
          rw [hM] at HSB HSTEP
          clear hM
          (go_wp2_with fail); refine (HRC.out _ (Below.refl _ _)).mono ?_
          rintro e w4 ⟨rfl, hb4⟩
          have HX4 := Lib.hid hb4
          clear hb4
          cases RT with
          | true =>
            have hm3 : M.length = 3 := by rw [HSB.out]; rfl
            have HM3 := Lib.hid hm3
            clear hm3
            (go_wp2_with fail); refine (HNC.out _ HX4.out).mono ?_
            rintro e w5 ⟨rfl, hb⟩
            have HX5 := Lib.hid (HX4.out.trans (hb.mono HX4.out.size))
            clear hb
            (go_wp2_with fail); refine (HWC.out _ HX5.out).mono ?_
            rintro e w6 ⟨rfl, hb⟩
            have HX6 := Lib.hid (HX5.out.trans (hb.mono HX5.out.size))
            clear hb k0 k1 k2 k3 k4 hltk
            have hb7 : Below w6.heap.size w6 (w6.alloc (.cells #[.int .u8 1, .int .u8 (IntKind.u8.wrap NX), .int .u8 (IntKind.u8.wrap WE)] 5)) := (Below.refl _ _).alloc (Nat.le_refl _) _
            have hx7 := HX6.out.trans (hb7.mono HX6.out.size)
            have HO7 := Lib.hid (own_below HO3.out hx7)
            have HG7 := Lib.hid (HG3.out.below hx7)
            have HB7 := Lib.hid (HB3.out.trans (hx7.mono HB3.out.size))
            have HS7 : Hid (Sl (w6.alloc (.cells #[.int .u8 1, .int .u8 (IntKind.u8.wrap NX), .int .u8 (IntKind.u8.wrap WE)] 5)) 0 (.slice (some ⟨w6.heap.size, 0, none⟩) 3 3) (bv M)) := by
              show Sl _ _ _ _
              rw [HSB.out]
              exact (Blk.new w6 5 [.int .u8 1, .int .u8 (IntKind.u8.wrap NX), .int .u8 (IntKind.u8.wrap WE)]).sl (Nat.zero_le _) (by simp)
            have hs7 := HB7.out.size
            clear hb7 hx7
            simp only []
            go_wp2_with (first
              | (at_builtin; go_must (refine wpList_append_sl (w6.alloc (.cells #[.int .u8 1, .int .u8 (IntKind.u8.wrap NX), .int .u8 (IntKind.u8.wrap WE)] 5)) rfl (.tmp 31) (.tmp 43) 45 rfl w.heap.size 5 i0 (.int .u8 0) 1 Try.underlying45 hif hz0 hz1 hz2 rfl v2 L.length _ rfl HO7.out 0 (.slice (some ⟨w6.heap.size, 0, none⟩) 3 3) (bv M) rfl HS7.out (oneCell_bv _) (by rw [bv_length]; have := HLEN.out trivial; have := HM3.out; unfold maxLen; omega) (by rw [bv_length]; have := HLEN.out trivial; have := HM3.out; omega) hs7 ?K)))
            case K =>
              intro v8 w8 ho8 hg8
              have HG8 := Lib.hid (HG7.out.grown hg8 (own_ne_blk HO7.out HG7.out (by decide)))
              have HB8 := Lib.hid (HB7.out.grown hg8 hs7 (fun m hm => (HO7.out.lt m hm).1))
              have HO8 : Hid (w8.ownsRow w.heap.size 5 1 v8 (lookUs ⟨c, l, N, p, s⟩ S k ++ lookBs ⟨c, l, N, p, s⟩ S k (j + 1)).length (bv (lookUs ⟨c, l, N, p, s⟩ S k ++ lookBs ⟨c, l, N, p, s⟩ S k (j + 1)))) := by
                show World.ownsRow _ _ _ _ _ _ _
                rw [HSTEP.out, ← List.append_assoc, HLE.out, bv_append, List.length_append, ← bv_length M]
                exact ho8
              clear ho8 hg8
              go_wp2_with fail
              go_roundw
              case rel => exact ⟨j + 1, _, by have := HLT2.out trivial; omega, rfl, by rw [HJC.out], HO8.out, HG8.out, HB8.out⟩
              case measure => have := HLT2.out trivial; simp [intOf]; omega
          | false =>
            have hm3 : M.length = 3 := by rw [HSB.out]; rfl
            have HM3 := Lib.hid hm3
            clear hm3
            (go_wp2_with fail); refine (HNC.out _ HX4.out).mono ?_
            rintro e w5 ⟨rfl, hb⟩
            have HX5 := Lib.hid (HX4.out.trans (hb.mono HX4.out.size))
            clear hb
            (go_wp2_with fail); refine (HWC.out _ HX5.out).mono ?_
            rintro e w6 ⟨rfl, hb⟩
            have HX6 := Lib.hid (HX5.out.trans (hb.mono HX5.out.size))
            clear hb k0 k1 k2 k3 k4 hltk
            have hb7 : Below w6.heap.size w6 (w6.alloc (.cells #[.int .u8 0, .int .u8 (IntKind.u8.wrap NX), .int .u8 (IntKind.u8.wrap WE)] 5)) := (Below.refl _ _).alloc (Nat.le_refl _) _
            have hx7 := HX6.out.trans (hb7.mono HX6.out.size)
            have HO7 := Lib.hid (own_below HO3.out hx7)
            have HG7 := Lib.hid (HG3.out.below hx7)
            have HB7 := Lib.hid (HB3.out.trans (hx7.mono HB3.out.size))
            have HS7 : Hid (Sl (w6.alloc (.cells #[.int .u8 0, .int .u8 (IntKind.u8.wrap NX), .int .u8 (IntKind.u8.wrap WE)] 5)) 0 (.slice (some ⟨w6.heap.size, 0, none⟩) 3 3) (bv M)) := by
              show Sl _ _ _ _
              rw [HSB.out]
              exact (Blk.new w6 5 [.int .u8 0, .int .u8 (IntKind.u8.wrap NX), .int .u8 (IntKind.u8.wrap WE)]).sl (Nat.zero_le _) (by simp)
            have hs7 := HB7.out.size
            clear hb7 hx7
            simp only []
            go_wp2_with (first
              | (at_builtin; go_must (refine wpList_append_sl (w6.alloc (.cells #[.int .u8 0, .int .u8 (IntKind.u8.wrap NX), .int .u8 (IntKind.u8.wrap WE)] 5)) rfl (.tmp 31) (.tmp 43) 45 rfl w.heap.size 5 i0 (.int .u8 0) 1 Try.underlying45 hif hz0 hz1 hz2 rfl v2 L.length _ rfl HO7.out 0 (.slice (some ⟨w6.heap.size, 0, none⟩) 3 3) (bv M) rfl HS7.out (oneCell_bv _) (by rw [bv_length]; have := HLEN.out trivial; have := HM3.out; unfold maxLen; omega) (by rw [bv_length]; have := HLEN.out trivial; have := HM3.out; omega) hs7 ?K)))
            case K =>
              intro v8 w8 ho8 hg8
              have HG8 := Lib.hid (HG7.out.grown hg8 (own_ne_blk HO7.out HG7.out (by decide)))
              have HB8 := Lib.hid (HB7.out.grown hg8 hs7 (fun m hm => (HO7.out.lt m hm).1))
              have HO8 : Hid (w8.ownsRow w.heap.size 5 1 v8 (lookUs ⟨c, l, N, p, s⟩ S k ++ lookBs ⟨c, l, N, p, s⟩ S k (j + 1)).length (bv (lookUs ⟨c, l, N, p, s⟩ S k ++ lookBs ⟨c, l, N, p, s⟩ S k (j + 1)))) := by
                show World.ownsRow _ _ _ _ _ _ _
                rw [HSTEP.out, ← List.append_assoc, HLE.out, bv_append, List.length_append, ← bv_length M]
                exact ho8
              clear ho8 hg8
              go_wp2_with fail
              go_roundw
              case rel => exact ⟨j + 1, _, by have := HLT2.out trivial; omega, rfl, by rw [HJC.out], HO8.out, HG8.out, HB8.out⟩
              case measure => have := HLT2.out trivial; simp [intOf]; omega
        · obtain rfl : N = j := by omega
          have HSU : Hid (lookUs ⟨c, l, N, p, s⟩ S (k + 1) = lookUs ⟨c, l, N, p, s⟩ S k ++ lookBs ⟨c, l, N, p, s⟩ S k N) := by
            show _ = _
            rw [lookUs_step]
            simp only [Int.toNat_natCast]
          go_wp2_with fail
          go_roundw
          case rel => exact ⟨k + 1, _, by have := HLT.out trivial; omega, rfl, by rw [HKC.out], by rw [HSU.out]; exact HO3.out, HG3.out, HB3.out⟩
          case measure => have := HLT.out trivial; simp [intOf]; omega
    · obtain rfl : U = k := by omega
      have hkg := HG2.out
      have k0 : w2.cell? ⟨gb, 0, none⟩ = some (.int .i64 c) := hkg.cell 0
      have k1 : w2.cell? ⟨gb, 1, none⟩ = some (.int .i64 l) := hkg.cell 1
      have k2 : w2.cell? ⟨gb, 2, none⟩ = some (.int .i64 N) := hkg.cell 2
      have k3 : w2.cell? ⟨gb, 3, none⟩ = some (.int .i64 p) := hkg.cell 3
      have k4 : w2.cell? ⟨gb, 4, none⟩ = some (.int .i64 s) := hkg.cell 4
      have hltk := hkg.lt
      clear hkg
      have HUL : Hid (True → (lookUs ⟨c, l, N, p, s⟩ S U).length ≤ 2000) := fun _ => by
        have h := lookUs_len ⟨c, l, N, p, s⟩ S U
        have h2 := hA6 trivial
        have h3 : 3 * N * U ≤ 3 * 64 * 8 := Nat.mul_le_mul (by omega) (by omega)
        simp only [Int.toNat_natCast] at h
        omega
      obtain ⟨Z, hZ⟩ : ∃ Z, lookUs ⟨c, l, N, p, s⟩ S U = Z := ⟨_, rfl⟩
      rw [hZ] at HO2 HUL
      have HZ := Lib.hid hZ
      clear hZ
      go_wp2_with fail
      go_loopw [4, 8] (fun t4 t8 wr => ∃ (k : Nat) (v : Value), k ≤ A ∧ v = t4 ∧ t8 = .int .i64 k ∧ Hid (wr.ownsRow w.heap.size 5 1 v (Z ++ lookAs ⟨c, l, N, p, s⟩ S k).length (bv (Z ++ lookAs ⟨c, l, N, p, s⟩ S k))) ∧ Hid (Blk wr gb 23 [.int .i64 c, .int .i64 l, .int .i64 N, .int .i64 p, .int .i64 s]) ∧ Hid (Below w.heap.size w wr)) (fun _ t _ => ((A : Int) - intOf t).toNat)
      case atStart => exact ⟨0, _, by omega, rfl, rfl, by rw [show lookAs ⟨c, l, N, p, s⟩ S 0 = [] from rfl, List.append_nil]; exact HO2.out, HG2.out, HB2.out⟩
      case round =>
        obtain ⟨k, v3, hk, rfl, rfl, HOr, HGr, HBr⟩ := hrel
        clear HO2 HG2 HB2 k0 k1 k2 k3 k4 hltk
        have hkg := HGr.out
        have k0 : wr.cell? ⟨gb, 0, none⟩ = some (.int .i64 c) := hkg.cell 0
        have k1 : wr.cell? ⟨gb, 1, none⟩ = some (.int .i64 l) := hkg.cell 1
        have k2 : wr.cell? ⟨gb, 2, none⟩ = some (.int .i64 N) := hkg.cell 2
        have k3 : wr.cell? ⟨gb, 3, none⟩ = some (.int .i64 p) := hkg.cell 3
        have k4 : wr.cell? ⟨gb, 4, none⟩ = some (.int .i64 s) := hkg.cell 4
        have hltk := hkg.lt
        clear hkg
        (go_wp2_with fail); refine (HAL.out _).mono ?_
        rintro e w3 ⟨rfl, hb⟩
        have HO3 := Lib.hid (own_below HOr.out hb)
        have HG3 := Lib.hid (HGr.out.below hb)
        have HB3 := Lib.hid (HBr.out.trans (hb.mono HBr.out.size))
        clear hb k0 k1 k2 k3 k4 hltk HOr HGr HBr
        by_cases hlt : k < A
        · have hk1 : (k : Int) < A := by omega
          have HLT : Hid (True → k < A) := fun _ => hlt
          have hwk : IntKind.i64.wrap ((k : Int) + 1) = (k : Int) + 1 := wrap_in _ ⟨by omega, by have := hA6 trivial; omega⟩
          have HKC : Hid (((k + 1 : Nat) : Int) = (k : Int) + 1) := show _ = _ by omega
          obtain ⟨⟨xs, ys, ec⟩, hRD⟩ : ∃ R, readOf ⟨c, l, N, p, s⟩ S k = R := ⟨_, rfl⟩
          have hrl := HI.out.read (g := ⟨c, l, N, p, s⟩) (k : Int)
          rw [hRD] at hrl
          have HRL := Lib.hid hrl
          have HSTEP : Hid (Z ++ lookAs ⟨c, l, N, p, s⟩ S (k + 1) = (((Z ++ lookAs ⟨c, l, N, p, s⟩ S k) ++ [IntKind.u8.wrap ec]) ++ xs) ++ ys) := by
            show _ = _
            rw [lookAs_step, lookOf, hRD]
            simp only [List.append_assoc]
          have hlen := lookAs_len HI.out k
          obtain ⟨L, hL⟩ : ∃ L, Z ++ lookAs ⟨c, l, N, p, s⟩ S k = L := ⟨_, rfl⟩
          have hLl : L.length = Z.length + (lookAs ⟨c, l, N, p, s⟩ S k).length := by rw [← hL, List.length_append]
          rw [hL] at HO3 HSTEP
          have HLEN : Hid (True → L.length ≤ 13400000) := fun _ => by have := hA6 trivial; have := HUL.out trivial; omega
          have HRE := Lib.hid hRD
          clear hrl hRD hlen hL hLl
          (go_wp2_with fail); refine (nandRead_any (HH.out.below HB3.out) k).mono ?_
          intro e w5 hp
          rw [HRE.out] at hp
          obtain ⟨va, vb, rfl, oa, ob, hb⟩ := hp
          have hb6 : Below w5.heap.size w5 (w5.alloc (.cells #[.int .u8 (IntKind.u8.wrap ec)] 5)) := (Below.refl _ _).alloc (Nat.le_refl _) _
          have hx6 := hb.trans (hb6.mono hb.size)
          have HA6 := Lib.hid (own_below oa hb6)
          have HV6 := Lib.hid (own_below ob hb6)
          have HO6 := Lib.hid (own_below HO3.out hx6)
          have HG6 := Lib.hid (HG3.out.below hx6)
          have HB6 := Lib.hid (HB3.out.trans (hx6.mono HB3.out.size))
          have HS6 : Hid (Sl (w5.alloc (.cells #[.int .u8 (IntKind.u8.wrap ec)] 5)) 0 (.slice (some ⟨w5.heap.size, 0, none⟩) 1 1) (bv [IntKind.u8.wrap ec])) := Lib.hid ((Blk.new w5 5 [.int .u8 (IntKind.u8.wrap ec)]).sl (Nat.zero_le _) (by simp))
          have hs6 := HB6.out.size
          have HVN : Hid (∀ m, v3.ownBlock = some m → w.heap.size ≤ m ∧ m < w3.heap.size) := fun m hm => HO3.out.lt m hm
          have HAN : Hid (∀ m, va.ownBlock = some m → w3.heap.size ≤ m ∧ m < w5.heap.size) := fun m hm => oa.lt m hm
          have HWN : Hid (∀ m, vb.ownBlock = some m → w3.heap.size ≤ m ∧ m < w5.heap.size) := fun m hm => ob.lt m hm
          clear hb hb6 hx6 oa ob
          simp only []
          go_wp2_with (first
            | (at_builtin; go_must (refine wpList_append_sl_at (w5.alloc (.cells #[.int .u8 (IntKind.u8.wrap ec)] 5)) rfl (.tmp 58) (.tmp 61) 45 rfl w.heap.size 5 i0 (.int .u8 0) 1 Try.underlying45 hif hz0 hz1 hz2 rfl v3 L.length _ rfl HO6.out 0 (.slice (some ⟨w5.heap.size, 0, none⟩) 1 1) (bv [IntKind.u8.wrap ec]) rfl HS6.out (oneCell_bv _) (by have := HLEN.out trivial; unfold maxLen; simp [bv]; omega) (by have := HLEN.out trivial; simp [bv]; omega) hs6 ?K)))
          case K =>
            intro v7 w7 ho7 hg7 hat
            have hneq : ∀ x : Value, (∀ m, x.ownBlock = some m → w3.heap.size ≤ m ∧ m < w5.heap.size) → x.ownBlock = none ∨ (x.ownBlock ≠ v3.ownBlock ∧ x.ownBlock ≠ v7.ownBlock) := fun x hx => by
              cases hxb : x.ownBlock with
              | none => exact .inl rfl
              | some m =>
                have h1 := hx m hxb
                refine .inr ⟨fun e => ?_, fun e => ?_⟩
                · have := HVN.out m e.symm; omega
                · rcases hat with hat | hat
                  · have := HVN.out m (by rw [← hat]; exact e.symm); omega
                  · rw [hat] at e
                    have e := Option.some.inj e
                    try simp at e
                    omega
            have HO7 := Lib.hid ho7
            have HA7 := Lib.hid (HA6.out.kept hg7 ((hneq va HAN.out).imp id fun q => q.1))
            have HV7 := Lib.hid (HV6.out.kept hg7 ((hneq vb HWN.out).imp id fun q => q.1))
            have HVX := Lib.hid (hneq vb HWN.out)
            have HG7 := Lib.hid (HG6.out.grown hg7 (own_ne_blk HO6.out HG6.out (by decide)))
            have HB7 := Lib.hid (HB6.out.grown hg7 hs6 (fun m hm => (HO6.out.lt m hm).1))
            have hs7 := HB7.out.size
            clear ho7 hg7 hat hneq
            go_wp2_with (first
              | (at_builtin; go_must (refine wpList_append_sl w7 rfl (.tmp 63) (.tmp 64) 45 rfl w.heap.size 5 i0 (.int .u8 0) 1 Try.underlying45 hif hz0 hz1 hz2 rfl v7 _ _ rfl HO7.out 0 va (bv xs) rfl (Sl.mono (Sl.of_own HA7.out (by rw [bv_length]; have := HRL.out.1; omega)) (Nat.zero_le _)) (oneCell_bv _) (by rw [bv_length, bv_length]; have := HLEN.out trivial; have := HRL.out.1; unfold maxLen; simp only [List.length_cons, List.length_nil]; omega) (by rw [bv_length, bv_length]; have := HLEN.out trivial; have := HRL.out.1; simp only [List.length_cons, List.length_nil]; omega) hs7 ?K)))
            case K =>
              intro v8 w8 ho8 hg8
              have HO8 := Lib.hid ho8
              have HV8 := Lib.hid (HV7.out.kept hg8 (HVX.out.imp id fun q => q.2))
              have HG8 := Lib.hid (HG7.out.grown hg8 (own_ne_blk HO7.out HG7.out (by decide)))
              have HB8 := Lib.hid (HB7.out.grown hg8 hs7 (fun m hm => (HO7.out.lt m hm).1))
              have hs8 := HB8.out.size
              clear ho8 hg8
              go_wp2_with (first
                | (at_builtin; go_must (refine wpList_append_sl w8 rfl (.tmp 65) (.tmp 66) 45 rfl w.heap.size 5 i0 (.int .u8 0) 1 Try.underlying45 hif hz0 hz1 hz2 rfl v8 _ _ rfl HO8.out 0 vb (bv ys) rfl (Sl.mono (Sl.of_own HV8.out (by rw [bv_length]; have := HRL.out.2; omega)) (Nat.zero_le _)) (oneCell_bv _) (by rw [bv_length, bv_length, bv_length]; have := HLEN.out trivial; have := HRL.out; unfold maxLen; simp only [List.length_cons, List.length_nil]; omega) (by rw [bv_length, bv_length, bv_length]; have := HLEN.out trivial; have := HRL.out; simp only [List.length_cons, List.length_nil]; omega) hs8 ?K)))
              case K =>
                intro v9 w9 ho9 hg9
                have HG9 := Lib.hid (HG8.out.grown hg9 (own_ne_blk HO8.out HG8.out (by decide)))
                have HB9 := Lib.hid (HB8.out.grown hg9 hs8 (fun m hm => (HO8.out.lt m hm).1))
                have HO9 : Hid (w9.ownsRow w.heap.size 5 1 v9 (Z ++ lookAs ⟨c, l, N, p, s⟩ S (k + 1)).length (bv (Z ++ lookAs ⟨c, l, N, p, s⟩ S (k + 1)))) := by
                  show World.ownsRow _ _ _ _ _ _ _
                  have e1 : Z ++ lookAs ⟨c, l, N, p, s⟩ S (k + 1) = L ++ ([IntKind.u8.wrap ec] ++ (xs ++ ys)) := by rw [HSTEP.out]; simp only [List.append_assoc]
                  have e3 : (L ++ ([IntKind.u8.wrap ec] ++ (xs ++ ys))).length = L.length + (bv [IntKind.u8.wrap ec]).length + (bv xs).length + (bv ys).length := by
                    simp only [List.length_append, bv_length, Nat.add_assoc]
                  rw [e1, e3, bv_append, bv_append, bv_append]
                  exact ho9
                clear ho9 hg9
                go_wp2_with fail
                go_roundw
                case rel => exact ⟨k + 1, _, by have := HLT.out trivial; omega, rfl, by rw [HKC.out], HO9.out, HG9.out, HB9.out⟩
                case measure => have := HLT.out trivial; simp [intOf]; omega
        · obtain rfl : A = k := by omega
          have hstr := own_str (P := Try.prog) Try.underlying45 Try.underlying5 Try.underlying9 HO3.out (by rw [List.length_append]; have := lookAs_len HI.out A; have := hA6 trivial; have := HUL.out trivial; omega)
          go_wp2_with fail
          go_ret
          exact ⟨by rw [HZ.out]; rfl, HB3.out⟩

end Go.Proofs.Ytlkapaecaeldpaa
