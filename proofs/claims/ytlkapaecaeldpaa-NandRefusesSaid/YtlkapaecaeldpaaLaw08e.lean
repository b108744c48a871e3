/-
  Both devices side by side: the program's and the document's.
-/
import Derived.Test.YtlkapaecaeldpaaRef08h
import Derived.Test.YtlkapaecaeldpaaNandP
import Derived.Test.YtlkapaecaeldpaaLaw08d
import Derived.Test.YtlkapaecaeldpaaRegW
set_option linter.unusedVariables false
set_option linter.unusedSimpArgs false
set_option maxRecDepth 16384
namespace Go.Proofs.Ytlkapaecaeldpaa
open Go.RowKit

theorem RNAt.inF {w : World} {F : Nat → Prop} {r : Nat} {g : Geo} {S : NSt} {m : Nat} (h : RNAt w F r g S m) : ∀ k, F k → k < w.heap.size := by
  obtain ⟨L, n, evs, pb, nx, wr, rt, lv, lg, h⟩ := h
  exact h.inF
theorem RNAt.more {w : World} {F : Nat → Prop} {r : Nat} {g : Geo} {S : NSt} {m m' : Nat} (h : RNAt w F r g S m) (hm : m ≤ m') : RNAt w F r g S m' := by
  obtain ⟨L, n, evs, pb, nx, wr, rt, lv, lg, h⟩ := h
  exact ⟨L, n, evs, pb, nx, wr, rt, lv, lg, h.more hm⟩

structure Both (w : World) (F FR : Nat → Prop) (d r : Nat) (g : Geo) (S T : NSt) (m : Nat) : Prop where
  dn : NandAt w F d g S
  rn : RNAt w FR r g T m
  ap : ∀ k, F k → ¬ FR k

/-- what was done to both -/
structure BothStep (w : World) (F FR : Nat → Prop) (w' : World) (F' FR' : Nat → Prop) : Prop where
  only : OnlyF (fun k => F k ∨ FR k) w w'
  fd : Fresh F F' w.heap.size
  fr : Fresh FR FR' w.heap.size

theorem BothStep.refl (w : World) (F FR : Nat → Prop) : BothStep w F FR w F FR := ⟨.refl _ _, .refl _ _, .refl _ _⟩
theorem BothStep.both {w : World} {F FR : Nat → Prop} {w' : World} {F' FR' : Nat → Prop} (h : BothStep w F FR w' F' FR') : Fresh (fun k => F k ∨ FR k) (fun k => F' k ∨ FR' k) w.heap.size := fun k hk => by
  rcases hk with hk | hk
  · rcases h.fd k hk with q | q
    · exact .inl (.inl q)
    · exact .inr q
  · rcases h.fr k hk with q | q
    · exact .inl (.inr q)
    · exact .inr q
theorem BothStep.trans {a b c : World} {F FR G GR H HR : Nat → Prop} (h : BothStep a F FR b G GR) (k : BothStep b G GR c H HR) : BothStep a F FR c H HR :=
  ⟨h.only.trans h.both k.only, h.fd.trans k.fd h.only.size, h.fr.trans k.fr h.only.size⟩
theorem BothStep.below {a b c : World} {F FR G GR : Nat → Prop} (h : BothStep a F FR b G GR) (k : Below b.heap.size b c) : BothStep a F FR c G GR :=
  h.trans ⟨.below k, .refl _ _, .refl _ _⟩

theorem Both.keep {w w' : World} {F FR : Nat → Prop} {d r : Nat} {g : Geo} {S T : NSt} {m : Nat} (h : Both w F FR d r g S T m) (hb : Below w.heap.size w w') : Both w' F FR d r g S T m :=
  ⟨h.dn.below hb, h.rn.below hb, h.ap⟩
theorem Both.dpost {w w' : World} {F FR : Nat → Prop} {d r : Nat} {g : Geo} {S T S' : NSt} {m : Nat} {res : Value} {e : Ending} (h : Both w F FR d r g S T m) (hp : NandPost w F d g res S' e w') :
    e = .returned res ∧ ∃ F', Both w' F' FR d r g S' T m ∧ BothStep w F FR w' F' FR := by
  obtain ⟨rfl, F', h1, h2, h3⟩ := hp
  refine ⟨rfl, F', ⟨h1, h.rn.keep h2.size fun k hk hf => h2.block k hk fun q => h.ap k q hf, fun k hk hf => ?_⟩, h2.mono fun k hk => .inl hk, h3, .refl _ _⟩
  rcases h3 k hk with q | q
  · exact h.ap k q hf
  · have := h.rn.inF k hf
    omega
theorem Both.rpost {w w' : World} {F FR : Nat → Prop} {d r : Nat} {g : Geo} {S T T' : NSt} {m m' : Nat} {res : Value} {e : Ending} (h : Both w F FR d r g S T m) (hp : RNPost w FR r g res T' m' e w') :
    e = .returned res ∧ ∃ FR', Both w' F FR' d r g S T' m' ∧ BothStep w F FR w' F FR' := by
  obtain ⟨rfl, FR', h1, h2, h3⟩ := hp
  refine ⟨rfl, FR', ⟨h.dn.keep h2.size fun k hk hf => h2.block k hk fun q => h.ap k hf q, h1, fun k hk hf => ?_⟩, h2.mono fun k hk => .inr hk, .refl _ _, h3⟩
  rcases h3 k hf with q | q
  · exact h.ap k hk q
  · have := h.dn.inF k hk
    omega

/-- what lies beside both, beside each still -/
def Beside (F FR : Nat → Prop) (n k : Nat) : Prop := ¬ F k ∧ ¬ FR k ∧ k < n
theorem BothStep.sls {w : World} {F FR : Nat → Prop} {w' : World} {F' FR' : Nat → Prop} (h : BothStep w F FR w' F' FR') {v : Value} {xss : List (List Int)} (hs : Sls w (Beside F FR w.heap.size) v xss) : Sls w' (Away F' w'.heap.size) v xss ∧ Sls w' (Away FR' w'.heap.size) v xss := by
  have h1 := hs.keep h.only.size fun k hk ha => h.only.block k hk (fun q => q.elim ha.1 ha.2.1)
  exact ⟨h1.mono fun k hk ha => ⟨fun q => (h.fd k q).elim ha.1 fun q2 => by have := ha.2.2; omega, hk⟩, h1.mono fun k hk ha => ⟨fun q => (h.fr k q).elim ha.2.1 fun q2 => by have := ha.2.2; omega, hk⟩⟩
theorem BothStep.slq {w : World} {F FR : Nat → Prop} {w' : World} {F' FR' : Nat → Prop} (h : BothStep w F FR w' F' FR') {v : Value} {xs : List Value} (hs : SlQ w (Beside F FR w.heap.size) v xs) : SlQ w' (Beside F' FR' w'.heap.size) v xs := by
  have h1 := hs.keep h.only.size fun k hk ha => h.only.block k hk (fun q => q.elim ha.1 ha.2.1)
  exact h1.mono fun k hk ha => ⟨fun q => (h.fd k q).elim ha.1 fun q2 => by have := ha.2.2; omega, fun q => (h.fr k q).elim ha.2.1 fun q2 => by have := ha.2.2; omega, hk⟩
theorem BothStep.cell {w : World} {F FR : Nat → Prop} {w' : World} {F' FR' : Nat → Prop} (h : BothStep w F FR w' F' FR') {b : Nat} (hb : b < w.heap.size) (h1 : ¬ F b) (h2 : ¬ FR b) (o : Nat) : w'.cell? ⟨b, o, none⟩ = w.cell? ⟨b, o, none⟩ :=
  World.cell?_of_block (a := ⟨b, o, none⟩) (h.only.block b hb fun q => q.elim h1 h2)

/-- within a region that asks both -/
def DS (w : World) (F FR : Nat → Prop) (d r : Nat) (g : Geo) (S S1 : NSt) (m : Nat) (q1 q2 : Bool) (wz : World) : Prop :=
  ∃ F' FR', Both wz F' FR' d r g (if q1 then S1 else S) (if q2 then S1 else S) (if q2 then m + 1 else m) ∧ BothStep w F FR wz F' FR'
theorem DS.since {w : World} {F FR : Nat → Prop} {d r : Nat} {g : Geo} {S S1 : NSt} {m : Nat} (b c : Bool) (x y : World) (h : DS w F FR d r g S S1 m b c x) (hs : Since x y) : DS w F FR d r g S S1 m b c y := by
  obtain ⟨F', FR', h1, h2⟩ := h
  exact ⟨F', FR', h1.keep hs, h2.below hs⟩
theorem DS.start {w : World} {F FR : Nat → Prop} {d r : Nat} {g : Geo} {S S1 : NSt} {m : Nat} (h : Both w F FR d r g S S m) : DS w F FR d r g S S1 m false false w.drew :=
  ⟨F, FR, h.keep ((Below.refl w.heap.size w).drew), (BothStep.refl _ _ _).below ((Below.refl w.heap.size w).drew)⟩
theorem DS.one {w : World} {F FR : Nat → Prop} {d r : Nat} {g : Geo} {S S1 : NSt} {m : Nat} {c : Bool} {wz : World} (h : DS w F FR d r g S S1 m false c wz) {f : FuncId} {args : Array Value} {res : Value}
    (hc : ∀ F' FR', NandAt wz F' d g S → BothStep w F FR wz F' FR' → Calls Try.prog f args wz fun e w' => NandPost wz F' d g res S1 e w') : Calls Try.prog f args wz fun e w' => e = .returned res ∧ DS w F FR d r g S S1 m true c w' := by
  obtain ⟨F', FR', h1, h2⟩ := h
  refine (hc F' FR' h1.dn h2).mono fun e w' hp => ?_
  obtain ⟨he, F2, h3, h4⟩ := h1.dpost hp
  exact ⟨he, F2, FR', h3, h2.trans h4⟩
theorem DS.two {w : World} {F FR : Nat → Prop} {d r : Nat} {g : Geo} {S S1 : NSt} {m : Nat} {b : Bool} {wz : World} (h : DS w F FR d r g S S1 m b false wz) {f : FuncId} {args : Array Value} {res : Value}
    (hc : ∀ F' FR', RNAt wz FR' r g S m → BothStep w F FR wz F' FR' → Calls Try.prog f args wz fun e w' => RNPost wz FR' r g res S1 (m + 1) e w') : Calls Try.prog f args wz fun e w' => e = .returned res ∧ DS w F FR d r g S S1 m b true w' := by
  obtain ⟨F', FR', h1, h2⟩ := h
  refine (hc F' FR' h1.rn h2).mono fun e w' hp => ?_
  obtain ⟨he, F2, h3, h4⟩ := h1.rpost hp
  exact ⟨he, F', F2, h3, h2.trans h4⟩

/-- a new plan is laid beside the document's device -/
theorem RNRaw.newPlan {w w1 w' : World} {F : Nat → Prop} {r : Nat} {g : Geo} {S : NSt} {m : Nat} {L : List Int} {n : Nat} {evs : List Ev} {pb nx wr rt : Nat} {lv lg : Value} (h : RNRaw w F r g S m L n evs pb nx wr rt lv lg)
    {p : Nat} {lv2 : Value} {xs : List Int} (hb : Below w.heap.size w w1) (hp : Blk w1 p 166 [lv2, .int .i64 0]) (hl : SlQ w1 (fun k => w.heap.size ≤ k ∧ k ≠ p) lv2 (bv xs)) (hpn : w.heap.size ≤ p) (hB : ∀ x ∈ xs, IsB x) (mny : Int)
    (hw : w' = w1.setCell ⟨r, 5, none⟩ (.pointer (some ⟨p, 0, none⟩))) :
    RNRaw w' (fun k => F k ∨ w.heap.size ≤ k ∧ k < w'.heap.size) r g { S with plan := xs, many := mny } m xs 0 evs p nx wr rt lv2 lg := by
  subst hw
  obtain ⟨m1, m2, m3, m4, m5, m6⟩ := h.mem
  obtain ⟨a1, a2, a3, a4, a5, a6, a7, a8, a9, a10⟩ := h.apart
  have i1 := h.inF _ m1
  have i3 := h.inF _ m3
  have i4 := h.inF _ m4
  have i5 := h.inF _ m5
  have hsz : (w1.setCell ⟨r, 5, none⟩ (.pointer (some ⟨p, 0, none⟩))).heap.size = w1.heap.size := by simp
  have hs1 := hb.size
  have hpl := hp.lt
  have hk : ∀ k, k < w.heap.size → k ≠ r → (w1.setCell ⟨r, 5, none⟩ (.pointer (some ⟨p, 0, none⟩))).heap[k]? = w.heap[k]? := fun k hk hne => (Below.heap_setCell _ _ _ _ hne).trans (hb.block k hk)
  have hr1 : Blk w1 r 97 (refL g S pb nx wr rt lg) := (hb.block r i1).trans h.blk
  refine ⟨hr1.set 5 _, (Below.heap_setCell _ _ _ _ (show p ≠ r by omega)).trans hp, ?_, hB, rfl, fun i hi => ?_, ?_, h.sec, ⟨.inl m1, .inr ⟨hpn, by rw [hsz]; exact hpl⟩, .inl m3, .inl m4, .inl m5, fun k e => .inl (m6 k e)⟩, ?_, fun k e => ?_, fun k hk2 => ?_, h.ok, ⟨Nat.zero_le _, h.few.2⟩⟩
  · refine (hl.keep (by rw [hsz]; exact Nat.le_refl _) fun k hk1 hq => Below.heap_setCell _ _ _ _ (show k ≠ r from fun e => by have : w.heap.size ≤ k := hq.1; omega)).mono fun k hk1 hq => ?_
    obtain ⟨q1, q2⟩ := hq
    exact ⟨.inr ⟨q1, hk1⟩, by omega, q2, by omega, by omega, by omega, fun e => by have := h.inF k (m6 k e); omega⟩
  · obtain ⟨h1, h2, h3⟩ := h.nxs i hi
    exact ⟨at_keep h1 (hk nx i3 a2.symm), at_keep h2 (hk wr i4 a3.symm), at_keep h3 (hk rt i5 a4.symm)⟩
  · obtain ⟨xs0, hown, hev⟩ := h.log.keep (w' := w1.setCell ⟨r, 5, none⟩ (.pointer (some ⟨p, 0, none⟩))) (by rw [hsz]; exact hs1) (fun k hk1 hq => hk k hk1 (hq.elim (fun q => q.2.1) fun q => (h.logA k q).1)) (fun k hq => hq)
    refine ⟨xs0, hown, fun j e hj => ?_⟩
    obtain ⟨vd, vo, q1, q2, q3, q4, q5, q6, q7, q8⟩ := hev j e hj
    have hm : ∀ k, RRows F r pb nx wr rt lg k → RRows (fun k => F k ∨ w.heap.size ≤ k ∧ k < (w1.setCell ⟨r, 5, none⟩ (.pointer (some ⟨p, 0, none⟩))).heap.size) r p nx wr rt lg k := fun k hq => by
      obtain ⟨b1, b2, b3, b4, b5, b6, b7⟩ := hq
      have := h.inF k b1
      exact ⟨.inl b1, b2, by omega, b4, b5, b6, b7⟩
    exact ⟨vd, vo, q1, q2, q3, q4, q5, q6.mono fun k _ hq => hm k hq, q7.mono fun k _ hq => hm k hq, q8⟩
  · exact ⟨by omega, a2, a3, a4, by omega, by omega, by omega, a8, a9, a10⟩
  · have hla := h.logA k e
    have := h.inF k (m6 k e)
    exact ⟨hla.1, by omega, hla.2.2.1, hla.2.2.2.1, hla.2.2.2.2⟩
  · rcases hk2 with hk2 | hk2
    · have := h.inF k hk2
      rw [hsz]
      omega
    · exact hk2.2

end Go.Proofs.Ytlkapaecaeldpaa
