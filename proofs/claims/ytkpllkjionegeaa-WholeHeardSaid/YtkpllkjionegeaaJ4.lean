/- Walks of the vote package, third part. -/
import Derived.Test.YtkpllkjionegeaaJ3
import Derived.RangeFuncNested
import Derived.RangeFuncBound
import Derived.RangeFuncCalls
import Derived.RangeFuncLeaves
import Derived.Shelf.Abstract
import Derived.Shelf.RegionOpen
import Derived.OwnWalkIn
import Derived.TacticsInMore
import Derived.LoopNIn
import Derived.LoopIn
import Derived.Test.YtkpllkjionegeaaJ1
set_option linter.unusedVariables false
set_option linter.unusedSimpArgs false
/- Walks: slices.Backward. -/
namespace Go.Proofs.Ytkpllkjionegeaa
open Go Go.RowKit Go.Shelf

attribute [local go_sem] Oper.semAt_some

set_option maxRecDepth 100000 in
theorem backward_calls (a : Option Addr) (len cap : Nat) (w : World) :
    Calls Try.prog 88 #[.slice a len cap] w fun e w' => e = .returned (.func (.func 102) #[] #[.pointer (some ⟨w.heap.size, 0, none⟩)]) ∧ w' = w.alloc (.cells #[.slice a len cap] 78) := by
  go_enter Try.func88, Try.ntmps88
  go_wp2
  go_ret
  exact ⟨rfl, rfl⟩

theorem back_more {zs : List Int} {j : Nat} {pre : List (Int × Int)} {x : Int × Int} (h : pre.map (·.2) = (zs.drop (j + 1)).reverse) (hz : x.2 = zs.getD j 0) (hj : j + 1 ≤ zs.length) :
    (pre ++ [x]).map (·.2) = (zs.drop j).reverse := by
  rw [List.map_append, h, List.drop_eq_getElem_cons (show j < zs.length by omega), List.reverse_cons]
  simp [hz, List.getD, show j < zs.length by omega]

set_option maxRecDepth 100000 in
set_option maxHeartbeats 2000000 in
/-- Backward's closure -/
theorem back_in (F : Fence) (n : Nat) (h8 : F.fn 102) (hro : F.round = none) (hn : 1 ≤ n) (l Bs n₀ : Nat) (A : Option Addr) (cap : Nat) (zs : List Int) (hlen : zs.length ≤ 1048577) (J Jx : List (Int × Int) → World → Prop)
    (hY : ∀ pre x W, J pre W → pre.length < zs.length → YieldAt F (n - 1) Try.prog l #[.int .i64 x.1, .int .i64 x.2] W fun e W' =>
      (e = .returned (.bool true) ∧ J (pre ++ [x]) W' ∧ Below n₀ W W') ∨ (e = .returned (.bool false) ∧ Jx (pre ++ [x]) W'))
    (W : World) (hBn : Bs < n₀) (hBs : W.cell? ⟨Bs, 0, none⟩ = some (.slice A zs.length cap)) (hc : ∀ j, j < zs.length → ∃ b o, A = some ⟨b, o, none⟩ ∧ b < n₀ ∧ W.cell? ⟨b, o + j, none⟩ = some (.int .i64 (zs.getD j 0))) (h0 : J [] W) :
    CallsIn F n Try.prog 102 #[.func (.yield l) #[] #[], .pointer (some ⟨Bs, 0, none⟩)] W fun e W' => (∃ v, e = .returned v) ∧
      ((∃ ys : List (Int × Int), ys.map (·.2) = zs.reverse ∧ J ys W') ∨ (∃ pre : List (Int × Int), pre.map (·.2) <+: zs.reverse ∧ Jx pre W')) := by
  refine callsIn_of_wp Try.func102 rfl h8 ?_ hro
  simp only [Try.ntmps102, List.size_toArray, List.length_cons, List.length_nil, Nat.reduceAdd, Nat.reduceSub, Array.replicate_succ, Array.replicate_zero, List.push_toArray, List.append_toArray, List.nil_append, List.cons_append]
  gi_wp2
  gi_loopw [3] (fun i wr => ∃ (m : Nat) (pre : List (Int × Int)), m ≤ zs.length ∧ i = .int .i64 ((m : Int) - 1) ∧ pre.length = zs.length - m ∧ pre.map (·.2) = (zs.drop m).reverse ∧ J pre wr ∧ Below n₀ W wr)
    (fun i _ => (intOf i + 1).toNat)
  case atStart => exact ⟨zs.length, [], Nat.le_refl _, rfl, by simp, by simp, h0, Below.refl _ _⟩
  case round =>
    obtain ⟨m, pre, hm, rfl, hpl, hpm, hJs, hnx⟩ := hrel
    cases m with
    | zero =>
      gi_wp2
      go_end0
      exact ⟨⟨_, rfl⟩, .inl ⟨pre, by simpa using hpm, hJs⟩⟩
    | succ j =>
      have e1 : (((j + 1 : Nat) : Int) - 1) = (j : Int) := by omega
      rw [e1]
      obtain ⟨b, o, rfl, hb, hcj⟩ := hc j (by omega)
      have hcx := (hnx.cell (p := ⟨b, o + j, none⟩) hb).trans hcj
      obtain ⟨z, hz⟩ : ∃ z, z = zs.getD j 0 := ⟨_, rfl⟩
      rw [← hz] at hcx
      have HZ := Lib.hid hz
      have HPM := Lib.hid hpm
      have HC := Lib.hid hc
      have hbs : wr.cell? ⟨Bs, 0, none⟩ = some (.slice (some ⟨b, o, none⟩) zs.length cap) := (hnx.cell (p := ⟨Bs, 0, none⟩) hBn).trans hBs
      clear hz hcj hpm hc
      obtain ⟨fn, tmps, assign, body, hy, hR⟩ := hY _ (((j : Nat) : Int), z) wr hJs (by omega)
      dsimp only at hy
      gi_wp2
      refine hR.mono ?_
      rintro e W3 (⟨rfl, hJ3, hk3⟩ | ⟨rfl, hJx3⟩)
      · gi_wp2
        go_roundw
        case rel => exact ⟨j, _, by omega, by go_num, by (simp <;> omega), back_more HPM.out HZ.out hm, hJ3, hnx.trans hk3⟩
        case measure => (simp [intOf] <;> omega)
      · gi_wp2
        refine bodyPost_ret (results_none rfl _ _ _) rfl ?_
        exact ⟨⟨_, rfl⟩, .inr ⟨_, by rw [back_more (x := ((j : Int), z)) HPM.out HZ.out hm]; exact List.reverse_prefix.2 (List.drop_suffix _ _), hJx3⟩⟩

theorem back_stops (n : Nat) (hn : 1 ≤ n) (Bs : Nat) (A : Option Addr) (cap : Nat) (zs : List Int) (hlen : zs.length ≤ 1048577) (w : World)
    (hBs : w.cell? ⟨Bs, 0, none⟩ = some (.slice A zs.length cap)) (hc : IntsAt w (.slice A zs.length cap) zs) :
    SeqStopsK Fence.wide n Try.prog 102 #[.pointer (some ⟨Bs, 0, none⟩)] (fun x : Int × Int => #[Value.int .i64 x.1, Value.int .i64 x.2]) (Below w.heap.size) (fun ys => ys.map (·.2) = zs.reverse) (fun pre => pre.map (·.2) <+: zs.reverse) zs.length w :=
  fun l J Jx W hW _ _ hY h0 => back_in Fence.wide n trivial rfl hn l Bs w.heap.size A cap zs hlen J Jx hY W (World.block_lt_of_cell? w _ hBs) ((hW.cell (p := ⟨Bs, 0, none⟩) (World.block_lt_of_cell? w _ hBs)).trans hBs) (fun j hj => by
    obtain ⟨b, o, rfl, h⟩ := hc.at hj
    have hb := World.block_lt_of_cell? w _ h
    exact ⟨b, o, rfl, hb, (hW.cell (p := ⟨b, o + j, none⟩) hb).trans h⟩) h0
end Go.Proofs.Ytkpllkjionegeaa

/- Walks: the greatest view in which a value is prepared (best). -/
namespace Go.Proofs.Ytkpllkjionegeaa
open Go Go.RowKit Go.Shelf

attribute [local go_sem] Oper.semAt_some

theorem bestIn_append (c : Core) (below : Int) : ∀ (l l' : List Int), c.bestIn below (l ++ l') = match c.bestIn below l with | some x => some x | none => c.bestIn below l'
  | [], l' => rfl
  | v :: r, l' => by
    simp only [List.cons_append, Core.bestIn]
    cases c.prepared v with
    | none => exact bestIn_append c below r l'
    | some u =>
      simp only
      split
      · rfl
      · exact bestIn_append c below r l'

theorem Ext.others {w w' : World} (h : Ext w w') : KeepsOthers w w' := ⟨h.size, fun k o hk _ => (h.block k (Array.getElem?_eq_some_iff.1 hk).1).trans hk⟩

theorem Ext.below {w w' : World} (h : Ext w w') {n : Nat} (hn : n ≤ w.heap.size) : Below n w w' := Below.mono h hn

/-- bytes are cells alone -/
theorem BytesAt.kept {W W' : World} {v : Value} {l : Bytes} (h : BytesAt W v l) (hk : ∀ a u, W.cell? a = some u → W'.cell? a = some u) : BytesAt W' v l := by
  obtain ⟨a, cap, h1, h2, h3⟩ := h
  exact ⟨a, cap, h1, h2, fun hl => let ⟨b, o, h4, h5⟩ := h3 hl; ⟨b, o, h4, fun i hi => hk _ _ (h5 i hi)⟩⟩

def GivesBest (o : Option (Int × Bytes)) (w : World) (e : Ending) (w' : World) : Prop :=
  ∃ v, e = .returned (.tuple #[.int .i64 (match o with | some p => p.1 | none => -1), v, .bool o.isSome]) ∧ BytesAt w' v (match o with | some p => p.2 | none => []) ∧ Ext w w'

set_option maxRecDepth 100000 in
set_option maxHeartbeats 2000000 in
theorem best_calls (cb : Nat) (c : Core) (L : Lay) (below : Int) (w : World) (hc : CoreAt w cb c L) (hw : Wf c) :
    Calls Try.prog 78 #[.pointer (some ⟨cb, 0, none⟩), .int .i64 below] w (GivesBest (c.best below) w) := by
  obtain ⟨Z, hZ⟩ : ∃ Z, Z = AL.keys c.preps := ⟨_, rfl⟩
  have hzl : Z.length ≤ 1048577 := by rw [hZ]; simpa [AL.keys] using hw.preps.keys.2
  have hlt := hc.lt
  have c8 := hc.c8
  have HC := Lib.hid hc
  have HW := Lib.hid hw
  have HZ := Lib.hid hZ
  have HZL := Lib.hid hzl
  have hx5 : Ext w (((((w.alloc (Obj.cells #[.pointer (some ⟨cb, 0, none⟩)] 30)).alloc (Obj.cells #[.int .i64 below] 3)).alloc (Obj.cells #[.int .i64 0] 3)).alloc (Obj.cells #[.slice none 0 0] 26)).alloc (Obj.cells #[.bool false] 4)) :=
    Ext.al (Ext.al (Ext.al (Ext.al (Ext.al (Ext.refl w) _) _) _) _) _
  have e8 := hx5.at c8
  have hx6 := Ext.al hx5 (Obj.cells #[.map (some L.preps)] 66)
  have hb6 := (boxed (((((w.alloc (Obj.cells #[.pointer (some ⟨cb, 0, none⟩)] 30)).alloc (Obj.cells #[.int .i64 below] 3)).alloc (Obj.cells #[.int .i64 0] 3)).alloc (Obj.cells #[.slice none 0 0] 26)).alloc (Obj.cells #[.bool false] 4)) #[.map (some L.preps)] 66).2.1 0
  simp only [World.size_alloc] at hb6
  have B0 := ((((((Boxed.new w 30 (.pointer (some ⟨cb, 0, none⟩))).alloc (Obj.cells #[.int .i64 below] 3)).alloc (Obj.cells #[.int .i64 0] 3)).alloc (Obj.cells #[.slice none 0 0] 26)).alloc (Obj.cells #[.bool false] 4)).alloc (Obj.cells #[.map (some L.preps)] 66))
  have B1 := (((((Boxed.new (w.alloc (Obj.cells #[.pointer (some ⟨cb, 0, none⟩)] 30)) 3 (.int .i64 below)).alloc (Obj.cells #[.int .i64 0] 3)).alloc (Obj.cells #[.slice none 0 0] 26)).alloc (Obj.cells #[.bool false] 4)).alloc (Obj.cells #[.map (some L.preps)] 66))
  have B2 := ((((Boxed.new ((w.alloc (Obj.cells #[.pointer (some ⟨cb, 0, none⟩)] 30)).alloc (Obj.cells #[.int .i64 below] 3)) 3 (.int .i64 0)).alloc (Obj.cells #[.slice none 0 0] 26)).alloc (Obj.cells #[.bool false] 4)).alloc (Obj.cells #[.map (some L.preps)] 66))
  have B3 := (((Boxed.new (((w.alloc (Obj.cells #[.pointer (some ⟨cb, 0, none⟩)] 30)).alloc (Obj.cells #[.int .i64 below] 3)).alloc (Obj.cells #[.int .i64 0] 3)) 26 (.slice none 0 0)).alloc (Obj.cells #[.bool false] 4)).alloc (Obj.cells #[.map (some L.preps)] 66))
  have B4 := ((Boxed.new ((((w.alloc (Obj.cells #[.pointer (some ⟨cb, 0, none⟩)] 30)).alloc (Obj.cells #[.int .i64 below] 3)).alloc (Obj.cells #[.int .i64 0] 3)).alloc (Obj.cells #[.slice none 0 0] 26)) 4 (.bool false)).alloc (Obj.cells #[.map (some L.preps)] 66))
  simp only [World.size_alloc] at B1 B2 B3 B4
  have HB := Lib.hid (And.intro B0 (And.intro B1 (And.intro B2 (And.intro B3 B4))))
  have HX6 := Lib.hid hx6
  have HB6 := Lib.hid hb6
  clear B0 B1 B2 B3 B4 hx6 hx5 hb6
  clear hc hw hZ hzl
  refine (callsIn_wide (n := 9)).1 ?_
  refine callsIn_of_wp_marks Try.func78 rfl trivial ?_ rfl
  simp only [Try.ntmps78, List.size_toArray, List.length_cons, List.length_nil, Nat.reduceAdd, Nat.reduceSub, Array.replicate_succ, Array.replicate_zero, List.push_toArray, List.append_toArray, List.nil_append, List.cons_append]
  gi_wp2_with (first
    | (refine ⟨trivial, ?_⟩; gi_at_call 46; refine (callsIn_wide.2 (keysA_calls _ _)).mono ?_; rintro e w1 ⟨rfl, rfl⟩)
    | (refine ⟨trivial, ?_⟩; gi_at_call 45; refine (callsIn_wide.2 (sortedA_tmap _ L.preps c.preps L.ip _ (HC.out.ext HX6.out).preps HW.out.preps HB6.out)).mono ?_; rw [← HZ.out]; rintro e w2 ⟨v2, rfl, hi2, hx2⟩; obtain ⟨A2, C2, rfl, _⟩ := id hi2)
    | (refine ⟨trivial, ?_⟩; gi_at_call 88; refine (callsIn_wide.2 (backward_calls _ _ _ _)).mono ?_; rintro e w1 ⟨rfl, rfl⟩))
  obtain ⟨b0, b1, b2, b3, b4⟩ := HB.out
  have hxw2 : Ext w w2 := Ext.trans HX6.out hx2
  have hn2 : w.heap.size + 6 ≤ w2.heap.size := by have := hx2.size; simp only [World.size_alloc] at this; omega
  have hx0 : Ext w2 (w2.alloc (.cells #[.slice A2 Z.length C2] 78)) := Ext.al (Ext.refl w2) _
  have bB := Boxed.new w2 78 (.slice A2 Z.length C2)
  have hlift : ∀ {B t v}, Boxed ((((((w.alloc (Obj.cells #[.pointer (some ⟨cb, 0, none⟩)] 30)).alloc (Obj.cells #[.int .i64 below] 3)).alloc (Obj.cells #[.int .i64 0] 3)).alloc (Obj.cells #[.slice none 0 0] 26)).alloc (Obj.cells #[.bool false] 4)).alloc (Obj.cells #[.map (some L.preps)] 66)) B t v → Boxed (w2.alloc (.cells #[.slice A2 Z.length C2] 78)) B t v :=
    fun h => Boxed.alloc (W := w2) ((hx2.block _ h.lt).trans h) _
  replace b0 := hlift b0
  replace b1 := hlift b1
  replace b2 := hlift b2
  replace b3 := hlift b3
  replace b4 := hlift b4
  have hi0 := hi2.ext hx0
  have hxw0 := Ext.trans hxw2 hx0
  have hs0 : (w2.alloc (.cells #[.slice A2 Z.length C2] 78)).heap.size = w2.heap.size + 1 := by simp
  clear hlift
  obtain ⟨W0, hW0⟩ : ∃ W0, W0 = w2.alloc (.cells #[.slice A2 Z.length C2] 78) := ⟨_, rfl⟩
  rw [← hW0] at b0 b1 b2 b3 b4 bB hi0 hxw0 hs0 hx0 ⊢
  have HX0 := Lib.hid hxw0
  have HBX := Lib.hid (And.intro b0 (And.intro b1 (And.intro b2 (And.intro b3 b4))))
  clear hW0 HB HX6 HB6 e8 hxw2 hx2 hi2 hxw0
  refine wpIn_rangeFunc_ownG rfl (by omega) (gf := 102) (lb := #[.pointer (some ⟨w2.heap.size, 0, none⟩)]) rfl trivial (enters_of Try.func102 (by kernel_rfl) rfl)
    (back_stops (9 - 1) (by omega) w2.heap.size A2 C2 Z HZL.out W0 bB.cell hi0) belowK_t (belowK_b (Nat.le_refl _)) (Below.refl _ _) (fun _ => rfl)
    (fun pre W => c.bestIn below (pre.map (·.2)) = none ∧ Below W0.heap.size W0 W)
    (fun cd pre W => (cd = .ret ∧ ∃ (ini : List (Int × Int)) (last : Int × Int) (v : Bytes) (vv : Value), pre = ini ++ [last] ∧ c.bestIn below (ini.map (·.2)) = none ∧ c.prepared last.2 = some v ∧ last.2 < below ∧ W.cell? ⟨w.heap.size + 1 + 1, 0, none⟩ = some (.int .i64 last.2) ∧
      W.cell? ⟨w.heap.size + 1 + 1 + 1, 0, none⟩ = some vv ∧ W.cell? ⟨w.heap.size + 1 + 1 + 1 + 1, 0, none⟩ = some (.bool true) ∧ BytesAt W vv v) ∧ Below w.heap.size w W)
    (OwnFrom.and (ownFrom_pure _ _) (ownFrom_below (Nat.le_refl _) (Nat.le_refl _)))
    (fun cd => OwnFrom.and (Go.Own.from (fun s A B row hs hg hr => by
      obtain ⟨e0, ini, last, v, vv, e1, e2, e3, e4, e5, e6, e7, e8⟩ := hs
      exact ⟨e0, ini, last, v, vv, e1, e2, e3, e4, cell_kept e5 hg hr, cell_kept e6 hg hr, cell_kept e7 hg hr, e8.kept (fun a u h => cell_kept h hg hr)⟩) _) (ownFrom_below (Nat.le_refl _) HX0.out.size))
    ⟨rfl, Below.refl _ _⟩
    (fun x => { tmps := #[.pointer (some ⟨cb, 0, none⟩), .int .i64 below, .pointer (some ⟨w.heap.size, 0, none⟩), .pointer (some ⟨w.heap.size + 1, 0, none⟩), .pointer (some ⟨w.heap.size + 1 + 1, 0, none⟩), .pointer (some ⟨w.heap.size + 1 + 1 + 1, 0, none⟩),
      .pointer (some ⟨w.heap.size + 1 + 1 + 1 + 1, 0, none⟩), undef, .int .i64 x.2, undef, undef, .pointer (some ⟨cb, 0, none⟩), .pointer (some ⟨cb, 0, none⟩), .pointer (some ⟨cb, 8, none⟩), .map (some L.preps),
      .func (.func 72) #[] #[.pointer (some ⟨w.heap.size + 1 + 1 + 1 + 1 + 1, 0, none⟩)], .slice A2 Z.length C2, .func (.func 102) #[] #[.pointer (some ⟨w2.heap.size, 0, none⟩)], .int .i64 x.1, .int .i64 x.2, undef, undef, undef, undef, undef, undef, undef, undef, undef, undef, undef, undef, undef, undef], defers := [] }) ?assign ?body ?done ?stop
  case assign =>
    intro l x W K hK
    gi_wp2
    exact hK
  case body =>
    rintro l pre x W ⟨hp, hB⟩ _
    have hbx := HBX.out
    obtain ⟨b0, b1, b2, b3, b4⟩ := hbx
    replace b0 : Boxed W _ _ _ := (hB.block _ b0.lt).trans b0
    replace b1 : Boxed W _ _ _ := (hB.block _ b1.lt).trans b1
    replace b2 : Boxed W _ _ _ := (hB.block _ b2.lt).trans b2
    replace b3 : Boxed W _ _ _ := (hB.block _ b3.lt).trans b3
    replace b4 : Boxed W _ _ _ := (hB.block _ b4.lt).trans b4
    have c0 := b0.cell
    have HBW := Lib.hid hB
    have HP := Lib.hid hp
    have HBB := Lib.hid (And.intro b1 (And.intro b2 (And.intro b3 b4)))
    clear hp hB b0 b1 b2 b3 b4 HBX bB hi0
    obtain ⟨x1, x2⟩ := x
    simp only at *
    cases hpr : c.prepared x2 with
    | none =>
      have HPR := Lib.hid hpr
      clear hpr
      gi_wp2_with (refine ⟨trivial, ?_⟩; gi_at_call 80; refine (CallsIn.inRound l (callsIn_wide.2 (prepared_calls cb c L x2 _ (HC.out.ext (Ext.trans HX0.out HBW.out)) HW.out))).mono ?_; rw [HPR.out]; rintro e w5 ⟨v5, rfl, hb5, hx5⟩)
      exact ⟨hx5.others.from _, hx5.below HBW.out.size, ⟨by rw [List.map_append, bestIn_append, HP.out]; simp [Core.bestIn, HPR.out], HBW.out.trans (hx5.below HBW.out.size)⟩⟩
    | some v =>
      have HPR := Lib.hid hpr
      clear hpr
      by_cases hlb : x2 < below
      · gi_wp2_with (refine ⟨trivial, ?_⟩; gi_at_call 80; refine (CallsIn.inRound l (callsIn_wide.2 (prepared_calls cb c L x2 _ (HC.out.ext (Ext.trans HX0.out HBW.out)) HW.out))).mono ?_; rw [HPR.out]; rintro e w5 ⟨v5, rfl, hb5, hx5⟩; obtain ⟨A5, K5, rfl, _⟩ := id hb5; have d1 : Boxed w5 _ _ _ := (hx5.block _ HBB.out.1.lt).trans HBB.out.1; have d2 : Boxed w5 _ _ _ := (hx5.block _ HBB.out.2.1.lt).trans HBB.out.2.1; have d3 : Boxed w5 _ _ _ := (hx5.block _ HBB.out.2.2.1.lt).trans HBB.out.2.2.1; have d4 : Boxed w5 _ _ _ := (hx5.block _ HBB.out.2.2.2.lt).trans HBB.out.2.2.2; have c1 := d1.cell; have c2 := d2.cell; have c3 := d3.cell; have c4 := d4.cell; have f2 := d2.frozen; have f3 := d3.frozen; have f4 := d4.frozen)
        have s2 := Boxed.set (.int .i64 x2) d2
        have s3 := Boxed.set (.slice A5 v.length K5) (d3.other (B' := w.heap.size + 1 + 1) (by omega) (.int .i64 x2))
        have s4 := Boxed.set (.bool true) ((d4.other (B' := w.heap.size + 1 + 1) (by omega) (.int .i64 x2)).other (B' := w.heap.size + 1 + 1 + 1) (by omega) (.slice A5 v.length K5))
        have t3 := s2.other (B' := w.heap.size + 1 + 1 + 1) (by omega) (.slice A5 v.length K5)
        have u3 := t3.other (B' := w.heap.size + 1 + 1 + 1 + 1) (by omega) (.bool true)
        have u4 := s3.other (B' := w.heap.size + 1 + 1 + 1 + 1) (by omega) (.bool true)
        have q1 := Turn.setCell (v := .int .i64 x2) c2 (by intro x h; cases h)
        have q2 := Turn.setCell (v := .slice A5 v.length K5) (d3.other (B' := w.heap.size + 1 + 1) (by omega) (.int .i64 x2)).cell (by intro x h; cases h)
        have q3 := Turn.setCell (v := .bool true) ((d4.other (B' := w.heap.size + 1 + 1) (by omega) (.int .i64 x2)).other (B' := w.heap.size + 1 + 1 + 1) (by omega) (.slice A5 v.length K5)).cell (by intro x h; cases h)
        have hbb := ((hb5.turn q1).turn q2).turn q3
        have hw5 : Below w.heap.size w w5 := (Ext.trans (Ext.trans HX0.out HBW.out) hx5)
        exact ⟨(((hx5.others.trans (KeepsOthers.setCell _ _ _)).trans (KeepsOthers.setCell _ _ _)).trans (KeepsOthers.setCell _ _ _)).from _,
          ⟨rfl, pre, (x1, x2), v, .slice A5 v.length K5, rfl, HP.out, HPR.out, hlb, u3.cell, u4.cell, s4.cell, hbb⟩,
          ((hw5.setCell (p := ⟨w.heap.size + 1 + 1, 0, none⟩) (by simp; omega) _).setCell (p := ⟨w.heap.size + 1 + 1 + 1, 0, none⟩) (by simp; omega) _).setCell (p := ⟨w.heap.size + 1 + 1 + 1 + 1, 0, none⟩) (by simp; omega) _⟩
      · gi_wp2_with (refine ⟨trivial, ?_⟩; gi_at_call 80; refine (CallsIn.inRound l (callsIn_wide.2 (prepared_calls cb c L x2 _ (HC.out.ext (Ext.trans HX0.out HBW.out)) HW.out))).mono ?_; rw [HPR.out]; rintro e w5 ⟨v5, rfl, hb5, hx5⟩; have c1 := hx5.at HBB.out.1.cell)
        exact ⟨hx5.others.from _, hx5.below HBW.out.size, ⟨by rw [List.map_append, bestIn_append, HP.out]; simp [Core.bestIn, HPR.out, hlb], HBW.out.trans (hx5.below HBW.out.size)⟩⟩
  case done =>
    rintro D ys W hD hys ⟨hp, hB⟩ hK
    obtain ⟨b0, b1, b2, b3, b4⟩ := HBX.out
    replace b2 : Boxed W _ _ _ := (hB.block _ b2.lt).trans b2
    replace b3 : Boxed W _ _ _ := (hB.block _ b3.lt).trans b3
    replace b4 : Boxed W _ _ _ := (hB.block _ b4.lt).trans b4
    have c2 := b2.cell
    have c3 := b3.cell
    have c4 := b4.cell
    have f2 := b2.frozen
    have f3 := b3.frozen
    have f4 := b4.frozen
    gi_wp2
    have hbest : c.best below = none := by unfold Core.best; rw [← HZ.out, ← hys]; exact hp
    have hK' := (((KeepsOthers.setCell W ⟨w.heap.size + 1 + 1, 0, none⟩ (.int .i64 (-1))).trans (KeepsOthers.setCell _ ⟨w.heap.size + 1 + 1 + 1, 0, none⟩ (.slice none 0 0))).trans (KeepsOthers.setCell _ ⟨w.heap.size + 1 + 1 + 1 + 1, 0, none⟩ (.bool false))).same D _ hK rfl
    have s2 := ((Boxed.set (.int .i64 (-1)) b2).other (B' := w.heap.size + 1 + 1 + 1) (by omega) (.slice none 0 0)).other (B' := w.heap.size + 1 + 1 + 1 + 1) (by omega) (.bool false)
    have s3 := (Boxed.set (.slice none 0 0) (b3.other (B' := w.heap.size + 1 + 1) (by omega) (.int .i64 (-1)))).other (B' := w.heap.size + 1 + 1 + 1 + 1) (by omega) (.bool false)
    have s4 := Boxed.set (.bool false) ((b4.other (B' := w.heap.size + 1 + 1) (by omega) (.int .i64 (-1))).other (B' := w.heap.size + 1 + 1 + 1) (by omega) (.slice none 0 0))
    refine ⟨by simp, .inl ⟨_, _, rfl, run_takeDeferred hK', ?_⟩⟩
    have g2 := cell_kept s2.cell (grownBy_putObj' _ D (.deferred none)) (fun r e => by cases e; exact ⟨_, hK', rfl⟩)
    have g3 := cell_kept s3.cell (grownBy_putObj' _ D (.deferred none)) (fun r e => by cases e; exact ⟨_, hK', rfl⟩)
    have g4 := cell_kept s4.cell (grownBy_putObj' _ D (.deferred none)) (fun r e => by cases e; exact ⟨_, hK', rfl⟩)
    have hw5 : Below w.heap.size w W := Ext.trans HX0.out hB
    have hfin := (((hw5.setCell (p := ⟨w.heap.size + 1 + 1, 0, none⟩) (by simp; omega) (.int .i64 (-1))).setCell (p := ⟨w.heap.size + 1 + 1 + 1, 0, none⟩) (by simp; omega) (.slice none 0 0)).setCell (p := ⟨w.heap.size + 1 + 1 + 1 + 1, 0, none⟩) (by simp; omega) (.bool false)).trans (belowK_b (w := w) (Nat.le_refl _) _ D _ (.deferred none) (by have := HX0.out.size; omega) hK' rfl rfl)
    refine ⟨.tuple #[.int .i64 (-1), .slice none 0 0, .bool false], ?_, .slice none 0 0, by rw [hbest]; rfl, by rw [hbest]; exact BytesAt.nil _, hfin⟩
    simp [results, Try.f78, go_sem, g2, g3, g4]
  case stop =>
    rintro D cd pre W hD hpre ⟨⟨rfl, ini, last, v, vv, e1, e2, e3, e4, e5, e6, e7, e8⟩, hB⟩ hK
    gi_wp2
    have hbest : c.best below = some (last.2, v) := by
      unfold Core.best
      rw [← HZ.out]
      obtain ⟨rest, hr⟩ := hpre
      rw [← hr, e1, List.map_append, List.append_assoc, bestIn_append, e2]
      simp [Core.bestIn, e3, e4]
    refine ⟨by simp, .inl ⟨_, _, rfl, run_takeDeferred hK, ?_⟩⟩
    have g2 := cell_kept e5 (grownBy_putObj' _ D (.deferred none)) (fun r e => by cases e; exact ⟨_, hK, rfl⟩)
    have g3 := cell_kept e6 (grownBy_putObj' _ D (.deferred none)) (fun r e => by cases e; exact ⟨_, hK, rfl⟩)
    have g4 := cell_kept e7 (grownBy_putObj' _ D (.deferred none)) (fun r e => by cases e; exact ⟨_, hK, rfl⟩)
    have hbb := e8.kept (fun a u h => cell_kept h (grownBy_putObj' _ D (.deferred none)) (fun r e => by cases e; exact ⟨_, hK, rfl⟩))
    have hfin := hB.trans (belowK_b (w := w) (Nat.le_refl _) _ D _ (.deferred none) (by have := HX0.out.size; omega) hK rfl rfl)
    refine ⟨.tuple #[.int .i64 last.2, vv, .bool true], ?_, vv, by rw [hbest]; rfl, by rw [hbest]; exact hbb, hfin⟩
    simp [results, Try.f78, go_sem, g2, g3, g4]
end Go.Proofs.Ytkpllkjionegeaa

/- Walks: a Proposal of one's own (propose). -/
namespace Go.Proofs.Ytkpllkjionegeaa
open Go Go.RowKit



set_option maxRecDepth 100000 in
set_option maxHeartbeats 800000 in
theorem propose_old (cb : Nat) (c : Core) (L : Lay) (w : World) (hc : CoreAt w cb c L) (hw : Wf c) (hd : (AL.get? c.props c.view).isSome = true) :
    Calls Try.prog 66 #[.pointer (some ⟨cb, 0, none⟩)] w (StepPost cb L c c.propose w) := by
  have HF := Lib.hid (show c.propose = none by unfold Core.propose; simp [hd])
  obtain ⟨A, N, K0, q, hp1, _⟩ := props_look hc.props c.view
  rw [hd] at hp1
  have hlt := hc.lt
  have hpl := hc.props.lt
  have c7 := hc.c7
  have c4 := hc.c4
  have HC := Lib.hid hc
  have HW := Lib.hid hw
  clear hc hw
  go_enter Try.func66, Try.ntmps66
  go_wp2
  refine wp_region_T [13] (.pure 0 (.pure 1 (.pure 2 (.pure 4 (.pure 5 (.pure 6 (.take 3 (.take 7 (.take 8 (.pure 9 (.pure 10 (.pure 11 (.one 12 (.one 13 (.pure 14 .nil))))))))))))))) (by kernel_rfl) (by kernel_rfl) ?_
  iterate 6 (refine' wpT_pure rfl rfl (fun w' => ?_) ?_; rotate_left 1; (focus ((try go_simp); (try go_bits); (first | done | with_reducible rfl))); simp only [Act.put, List.setIfInBounds_toArray, List.set_cons_zero, List.set_cons_succ])
  iterate 3 (first | (refine' wpT_take_dddd rfl rfl (fun w' hc hl hsz => ?_) ?_; rotate_left 1; (focus ((try go_simp); (try go_bits); (first | done | with_reducible rfl))); simp only [Act.put, List.setIfInBounds_toArray, List.set_cons_zero, List.set_cons_succ]) | (refine' wpT_take_ddd rfl rfl (fun w' hc hl hsz => ?_) ?_; rotate_left 1; (focus ((try go_simp); (try go_bits); (first | done | with_reducible rfl))); simp only [Act.put, List.setIfInBounds_toArray, List.set_cons_zero, List.set_cons_succ]) | (refine' wpT_take_dd rfl rfl (fun w' hc hl hsz => ?_) ?_; rotate_left 1; (focus ((try go_simp); (try go_bits); (first | done | with_reducible rfl))); simp only [Act.put, List.setIfInBounds_toArray, List.set_cons_zero, List.set_cons_succ]) | (refine' wpT_take_d rfl rfl (fun w' hc hl hsz => ?_) ?_; rotate_left 1; (focus ((try go_simp); (try go_bits); (first | done | with_reducible rfl))); simp only [Act.put, List.setIfInBounds_toArray, List.set_cons_zero, List.set_cons_succ]))
  iterate 3 (refine' wpT_pure rfl rfl (fun w' => ?_) ?_; rotate_left 1; (focus ((try go_simp); (try go_bits); (first | done | with_reducible rfl))); simp only [Act.put, List.setIfInBounds_toArray, List.set_cons_zero, List.set_cons_succ])
  refine wpT_one rfl rfl (fun K hK => ?_)
  go_wp2
  refine hK _ _ (Ext.al (Ext.refl _) _) ?_
  clear hK K
  refine wpT_writer rfl rfl (by decide) (fun K hK => ?_)
  go_wp2
  first | (refine hK _ _ ?_; clear hK K) | skip
  (refine' wpT_pure rfl rfl (fun w' => ?_) ?_; rotate_left 1; (focus ((try go_simp); (try go_bits); (first | done | with_reducible rfl))); simp only [Act.put, List.setIfInBounds_toArray, List.set_cons_zero, List.set_cons_succ])
  refine wpT_nil ?_
  go_wp2
  refine wp_fresh (w.alloc (.cells #[.slice A N K0, (.int .i64 q)] 103)) (Ext.refl _).dr (fun W2 hx2 => ?_)
  have hx : Ext w W2 := Ext.trans (Ext.al (Ext.refl w) _) hx2
  have hc2 := HC.out.ext hx
  have hlt2 := hc2.lt
  have d4 := hc2.c4
  have d1 := hc2.c1
  have HX := Lib.hid hx
  clear hx hx2 hc2 hp1
  refine wp_region_T [] (.pure 0 (.pure 1 (.pure 2 (.pure 3 (.pure 4 (.pure 5 (.pure 8 (.pure 9 (.pure 10 (.take 6 (.take 11 (.one 7 (.pure 12 (.pure 13 .nil)))))))))))))) (by kernel_rfl) (by kernel_rfl) ?_
  iterate 2 (refine' wpT_pure rfl rfl (fun w' => ?_) ?_; rotate_left 1; (focus ((try go_simp); (try go_bits); (first | done | with_reducible rfl))); simp only [Act.put, List.setIfInBounds_toArray, List.set_cons_zero, List.set_cons_succ])
  iterate 7 (first | (refine' wpT_pure_on rfl rfl (fun w' => ?_) ?_; rotate_left 1; (focus ((try go_simp); (try go_bits); (first | done | with_reducible rfl))); simp only [Act.put, List.setIfInBounds_toArray, List.set_cons_zero, List.set_cons_succ]) | (refine wpT_pure_off rfl rfl ?_; simp only [Act.put, List.setIfInBounds_toArray, List.set_cons_zero, List.set_cons_succ]))
  iterate 2 (first | (refine' wpT_take_on_dddd rfl rfl (fun w' hc hl hsz => ?_) ?_; rotate_left 1; (focus ((try go_simp); (try go_bits); (first | done | with_reducible rfl))); simp only [Act.put, List.setIfInBounds_toArray, List.set_cons_zero, List.set_cons_succ]) | (refine' wpT_take_on_ddd rfl rfl (fun w' hc hl hsz => ?_) ?_; rotate_left 1; (focus ((try go_simp); (try go_bits); (first | done | with_reducible rfl))); simp only [Act.put, List.setIfInBounds_toArray, List.set_cons_zero, List.set_cons_succ]) | (refine' wpT_take_on_dd rfl rfl (fun w' hc hl hsz => ?_) ?_; rotate_left 1; (focus ((try go_simp); (try go_bits); (first | done | with_reducible rfl))); simp only [Act.put, List.setIfInBounds_toArray, List.set_cons_zero, List.set_cons_succ]) | (refine' wpT_take_on_d rfl rfl (fun w' hc hl hsz => ?_) ?_; rotate_left 1; (focus ((try go_simp); (try go_bits); (first | done | with_reducible rfl))); simp only [Act.put, List.setIfInBounds_toArray, List.set_cons_zero, List.set_cons_succ]) | (refine wpT_take_off rfl rfl ?_; simp only [Act.put, List.setIfInBounds_toArray, List.set_cons_zero, List.set_cons_succ]))
  refine wpT_one_off rfl rfl ?_
  simp only [Act.put, List.setIfInBounds_toArray, List.set_cons_zero, List.set_cons_succ]
  first | (refine' wpT_pure_on rfl rfl (fun w' => ?_) ?_; rotate_left 1; (focus ((try go_simp); (try go_bits); (first | done | with_reducible rfl))); simp only [Act.put, List.setIfInBounds_toArray, List.set_cons_zero, List.set_cons_succ]) | (refine wpT_pure_off rfl rfl ?_; simp only [Act.put, List.setIfInBounds_toArray, List.set_cons_zero, List.set_cons_succ])
  (refine' wpT_pure rfl rfl (fun w' => ?_) ?_; rotate_left 1; (focus ((try go_simp); (try go_bits); (first | done | with_reducible rfl))); simp only [Act.put, List.setIfInBounds_toArray, List.set_cons_zero, List.set_cons_succ])
  refine wpT_nil ?_
  go_wp2
  go_ret
  rw [HF.out]
  exact StepPost.no HC.out (Ext.trans HX.out (Ext.refl W2).dr)


set_option maxRecDepth 100000 in
set_option maxHeartbeats 800000 in
theorem propose_alien (cb : Nat) (c : Core) (L : Lay) (w : World) (hc : CoreAt w cb c L) (hw : Wf c) (hd : (AL.get? c.props c.view).isSome = false) (hm : (c.proposer c.view != c.me) = true) :
    Calls Try.prog 66 #[.pointer (some ⟨cb, 0, none⟩)] w (StepPost cb L c c.propose w) := by
  have HF := Lib.hid (show c.propose = none by unfold Core.propose; simp [hd, hm])
  obtain ⟨A, N, K0, q, hp1, _⟩ := props_look hc.props c.view
  rw [hd] at hp1
  have hlt := hc.lt
  have hpl := hc.props.lt
  have c7 := hc.c7
  have c4 := hc.c4
  have HC := Lib.hid hc
  have HW := Lib.hid hw
  clear hc hw
  go_enter Try.func66, Try.ntmps66
  go_wp2
  refine wp_region_T [13] (.pure 0 (.pure 1 (.pure 2 (.pure 4 (.pure 5 (.pure 6 (.take 3 (.take 7 (.take 8 (.pure 9 (.pure 10 (.pure 11 (.one 12 (.one 13 (.pure 14 .nil))))))))))))))) (by kernel_rfl) (by kernel_rfl) ?_
  iterate 6 (refine' wpT_pure rfl rfl (fun w' => ?_) ?_; rotate_left 1; (focus ((try go_simp); (try go_bits); (first | done | with_reducible rfl))); simp only [Act.put, List.setIfInBounds_toArray, List.set_cons_zero, List.set_cons_succ])
  iterate 3 (first | (refine' wpT_take_dddd rfl rfl (fun w' hc hl hsz => ?_) ?_; rotate_left 1; (focus ((try go_simp); (try go_bits); (first | done | with_reducible rfl))); simp only [Act.put, List.setIfInBounds_toArray, List.set_cons_zero, List.set_cons_succ]) | (refine' wpT_take_ddd rfl rfl (fun w' hc hl hsz => ?_) ?_; rotate_left 1; (focus ((try go_simp); (try go_bits); (first | done | with_reducible rfl))); simp only [Act.put, List.setIfInBounds_toArray, List.set_cons_zero, List.set_cons_succ]) | (refine' wpT_take_dd rfl rfl (fun w' hc hl hsz => ?_) ?_; rotate_left 1; (focus ((try go_simp); (try go_bits); (first | done | with_reducible rfl))); simp only [Act.put, List.setIfInBounds_toArray, List.set_cons_zero, List.set_cons_succ]) | (refine' wpT_take_d rfl rfl (fun w' hc hl hsz => ?_) ?_; rotate_left 1; (focus ((try go_simp); (try go_bits); (first | done | with_reducible rfl))); simp only [Act.put, List.setIfInBounds_toArray, List.set_cons_zero, List.set_cons_succ]))
  iterate 3 (refine' wpT_pure rfl rfl (fun w' => ?_) ?_; rotate_left 1; (focus ((try go_simp); (try go_bits); (first | done | with_reducible rfl))); simp only [Act.put, List.setIfInBounds_toArray, List.set_cons_zero, List.set_cons_succ])
  refine wpT_one rfl rfl (fun K hK => ?_)
  go_wp2
  refine hK _ _ (Ext.al (Ext.refl _) _) ?_
  clear hK K
  refine wpT_writer rfl rfl (by decide) (fun K hK => ?_)
  go_wp2
  first | (refine hK _ _ ?_; clear hK K) | skip
  (refine' wpT_pure rfl rfl (fun w' => ?_) ?_; rotate_left 1; (focus ((try go_simp); (try go_bits); (first | done | with_reducible rfl))); simp only [Act.put, List.setIfInBounds_toArray, List.set_cons_zero, List.set_cons_succ])
  refine wpT_nil ?_
  go_wp2
  refine wp_fresh (w.alloc (.cells #[.slice A N K0, (.int .i64 q)] 103)) (Ext.refl _).dr (fun W2 hx2 => ?_)
  have hx : Ext w W2 := Ext.trans (Ext.al (Ext.refl w) _) hx2
  have hc2 := HC.out.ext hx
  have hlt2 := hc2.lt
  have d4 := hc2.c4
  have d1 := hc2.c1
  have HX := Lib.hid hx
  clear hx hx2 hc2 hp1
  refine wp_region_T [] (.pure 0 (.pure 1 (.pure 2 (.pure 3 (.pure 4 (.pure 5 (.pure 8 (.pure 9 (.pure 10 (.take 6 (.take 11 (.one 7 (.pure 12 (.pure 13 .nil)))))))))))))) (by kernel_rfl) (by kernel_rfl) ?_
  iterate 2 (refine' wpT_pure rfl rfl (fun w' => ?_) ?_; rotate_left 1; (focus ((try go_simp); (try go_bits); (first | done | with_reducible rfl))); simp only [Act.put, List.setIfInBounds_toArray, List.set_cons_zero, List.set_cons_succ])
  iterate 7 (first | (refine' wpT_pure_on rfl rfl (fun w' => ?_) ?_; rotate_left 1; (focus ((try go_simp); (try go_bits); (first | done | with_reducible rfl))); simp only [Act.put, List.setIfInBounds_toArray, List.set_cons_zero, List.set_cons_succ]) | (refine wpT_pure_off rfl rfl ?_; simp only [Act.put, List.setIfInBounds_toArray, List.set_cons_zero, List.set_cons_succ]))
  iterate 2 (first | (refine' wpT_take_on_dddd rfl rfl (fun w' hc hl hsz => ?_) ?_; rotate_left 1; (focus ((try go_simp); (try go_bits); (first | done | with_reducible rfl))); simp only [Act.put, List.setIfInBounds_toArray, List.set_cons_zero, List.set_cons_succ]) | (refine' wpT_take_on_ddd rfl rfl (fun w' hc hl hsz => ?_) ?_; rotate_left 1; (focus ((try go_simp); (try go_bits); (first | done | with_reducible rfl))); simp only [Act.put, List.setIfInBounds_toArray, List.set_cons_zero, List.set_cons_succ]) | (refine' wpT_take_on_dd rfl rfl (fun w' hc hl hsz => ?_) ?_; rotate_left 1; (focus ((try go_simp); (try go_bits); (first | done | with_reducible rfl))); simp only [Act.put, List.setIfInBounds_toArray, List.set_cons_zero, List.set_cons_succ]) | (refine' wpT_take_on_d rfl rfl (fun w' hc hl hsz => ?_) ?_; rotate_left 1; (focus ((try go_simp); (try go_bits); (first | done | with_reducible rfl))); simp only [Act.put, List.setIfInBounds_toArray, List.set_cons_zero, List.set_cons_succ]) | (refine wpT_take_off rfl rfl ?_; simp only [Act.put, List.setIfInBounds_toArray, List.set_cons_zero, List.set_cons_succ]))
  refine wpT_one_on rfl rfl (fun K hK => ?_)
  go_wp2_with (go_at_call 63; refine (proposer_calls cb c L c.view _ (HC.out.ext (Ext.trans HX.out (Ext.refl W2).dr)) HW.out.n4 HW.out.n64 HW.out.s0 HW.out.s1 HW.out.v0 (by have := HW.out.v1; omega)).mono ?_; rintro e w3 ⟨rfl, he3⟩)
  refine hK _ _ he3 ?_
  clear hK K
  first | (refine' wpT_pure_on rfl rfl (fun w' => ?_) ?_; rotate_left 1; (focus ((try go_simp); (try go_bits); (first | done | with_reducible rfl))); simp only [Act.put, List.setIfInBounds_toArray, List.set_cons_zero, List.set_cons_succ]) | (refine wpT_pure_off rfl rfl ?_; simp only [Act.put, List.setIfInBounds_toArray, List.set_cons_zero, List.set_cons_succ])
  (refine' wpT_pure rfl rfl (fun w' => ?_) ?_; rotate_left 1; (focus ((try go_simp); (try go_bits); (first | done | with_reducible rfl))); simp only [Act.put, List.setIfInBounds_toArray, List.set_cons_zero, List.set_cons_succ])
  refine wpT_nil ?_
  go_wp2
  go_ret
  rw [HF.out]
  exact StepPost.no HC.out (Ext.trans HX.out (Ext.undrew he3))


set_option maxRecDepth 100000 in
set_option maxHeartbeats 800000 in
theorem propose_nothing (cb : Nat) (c : Core) (L : Lay) (w : World) (hc : CoreAt w cb c L) (hw : Wf c) (hd : (AL.get? c.props c.view).isSome = false) (hm : (c.proposer c.view != c.me) = false) (hb : c.best c.view = none) (hwi : c.wishes = false) :
    Calls Try.prog 66 #[.pointer (some ⟨cb, 0, none⟩)] w (StepPost cb L c c.propose w) := by
  have HF := Lib.hid (show c.propose = none by unfold Core.propose; simp [hd, hm, hb, hwi])
  have HB := Lib.hid hb
  clear hb
  obtain ⟨A, N, K0, q, hp1, _⟩ := props_look hc.props c.view
  rw [hd] at hp1
  have hlt := hc.lt
  have hpl := hc.props.lt
  have c7 := hc.c7
  have c4 := hc.c4
  have HC := Lib.hid hc
  have HW := Lib.hid hw
  clear hc hw
  go_enter Try.func66, Try.ntmps66
  go_wp2
  refine wp_region_T [13] (.pure 0 (.pure 1 (.pure 2 (.pure 4 (.pure 5 (.pure 6 (.take 3 (.take 7 (.take 8 (.pure 9 (.pure 10 (.pure 11 (.one 12 (.one 13 (.pure 14 .nil))))))))))))))) (by kernel_rfl) (by kernel_rfl) ?_
  iterate 6 (refine' wpT_pure rfl rfl (fun w' => ?_) ?_; rotate_left 1; (focus ((try go_simp); (try go_bits); (first | done | with_reducible rfl))); simp only [Act.put, List.setIfInBounds_toArray, List.set_cons_zero, List.set_cons_succ])
  iterate 3 (first | (refine' wpT_take_dddd rfl rfl (fun w' hc hl hsz => ?_) ?_; rotate_left 1; (focus ((try go_simp); (try go_bits); (first | done | with_reducible rfl))); simp only [Act.put, List.setIfInBounds_toArray, List.set_cons_zero, List.set_cons_succ]) | (refine' wpT_take_ddd rfl rfl (fun w' hc hl hsz => ?_) ?_; rotate_left 1; (focus ((try go_simp); (try go_bits); (first | done | with_reducible rfl))); simp only [Act.put, List.setIfInBounds_toArray, List.set_cons_zero, List.set_cons_succ]) | (refine' wpT_take_dd rfl rfl (fun w' hc hl hsz => ?_) ?_; rotate_left 1; (focus ((try go_simp); (try go_bits); (first | done | with_reducible rfl))); simp only [Act.put, List.setIfInBounds_toArray, List.set_cons_zero, List.set_cons_succ]) | (refine' wpT_take_d rfl rfl (fun w' hc hl hsz => ?_) ?_; rotate_left 1; (focus ((try go_simp); (try go_bits); (first | done | with_reducible rfl))); simp only [Act.put, List.setIfInBounds_toArray, List.set_cons_zero, List.set_cons_succ]))
  iterate 3 (refine' wpT_pure rfl rfl (fun w' => ?_) ?_; rotate_left 1; (focus ((try go_simp); (try go_bits); (first | done | with_reducible rfl))); simp only [Act.put, List.setIfInBounds_toArray, List.set_cons_zero, List.set_cons_succ])
  refine wpT_one rfl rfl (fun K hK => ?_)
  go_wp2
  refine hK _ _ (Ext.al (Ext.refl _) _) ?_
  clear hK K
  refine wpT_writer rfl rfl (by decide) (fun K hK => ?_)
  go_wp2
  first | (refine hK _ _ ?_; clear hK K) | skip
  (refine' wpT_pure rfl rfl (fun w' => ?_) ?_; rotate_left 1; (focus ((try go_simp); (try go_bits); (first | done | with_reducible rfl))); simp only [Act.put, List.setIfInBounds_toArray, List.set_cons_zero, List.set_cons_succ])
  refine wpT_nil ?_
  go_wp2
  refine wp_fresh (w.alloc (.cells #[.slice A N K0, (.int .i64 q)] 103)) (Ext.refl _).dr (fun W2 hx2 => ?_)
  have hx : Ext w W2 := Ext.trans (Ext.al (Ext.refl w) _) hx2
  have hc2 := HC.out.ext hx
  have hlt2 := hc2.lt
  have d4 := hc2.c4
  have d1 := hc2.c1
  have HX := Lib.hid hx
  clear hx hx2 hc2 hp1
  refine wp_region_T [] (.pure 0 (.pure 1 (.pure 2 (.pure 3 (.pure 4 (.pure 5 (.pure 8 (.pure 9 (.pure 10 (.take 6 (.take 11 (.one 7 (.pure 12 (.pure 13 .nil)))))))))))))) (by kernel_rfl) (by kernel_rfl) ?_
  iterate 2 (refine' wpT_pure rfl rfl (fun w' => ?_) ?_; rotate_left 1; (focus ((try go_simp); (try go_bits); (first | done | with_reducible rfl))); simp only [Act.put, List.setIfInBounds_toArray, List.set_cons_zero, List.set_cons_succ])
  iterate 7 (first | (refine' wpT_pure_on rfl rfl (fun w' => ?_) ?_; rotate_left 1; (focus ((try go_simp); (try go_bits); (first | done | with_reducible rfl))); simp only [Act.put, List.setIfInBounds_toArray, List.set_cons_zero, List.set_cons_succ]) | (refine wpT_pure_off rfl rfl ?_; simp only [Act.put, List.setIfInBounds_toArray, List.set_cons_zero, List.set_cons_succ]))
  iterate 2 (first | (refine' wpT_take_on_dddd rfl rfl (fun w' hc hl hsz => ?_) ?_; rotate_left 1; (focus ((try go_simp); (try go_bits); (first | done | with_reducible rfl))); simp only [Act.put, List.setIfInBounds_toArray, List.set_cons_zero, List.set_cons_succ]) | (refine' wpT_take_on_ddd rfl rfl (fun w' hc hl hsz => ?_) ?_; rotate_left 1; (focus ((try go_simp); (try go_bits); (first | done | with_reducible rfl))); simp only [Act.put, List.setIfInBounds_toArray, List.set_cons_zero, List.set_cons_succ]) | (refine' wpT_take_on_dd rfl rfl (fun w' hc hl hsz => ?_) ?_; rotate_left 1; (focus ((try go_simp); (try go_bits); (first | done | with_reducible rfl))); simp only [Act.put, List.setIfInBounds_toArray, List.set_cons_zero, List.set_cons_succ]) | (refine' wpT_take_on_d rfl rfl (fun w' hc hl hsz => ?_) ?_; rotate_left 1; (focus ((try go_simp); (try go_bits); (first | done | with_reducible rfl))); simp only [Act.put, List.setIfInBounds_toArray, List.set_cons_zero, List.set_cons_succ]) | (refine wpT_take_off rfl rfl ?_; simp only [Act.put, List.setIfInBounds_toArray, List.set_cons_zero, List.set_cons_succ]))
  refine wpT_one_on rfl rfl (fun K hK => ?_)
  go_wp2_with (go_at_call 63; refine (proposer_calls cb c L c.view _ (HC.out.ext (Ext.trans HX.out (Ext.refl W2).dr)) HW.out.n4 HW.out.n64 HW.out.s0 HW.out.s1 HW.out.v0 (by have := HW.out.v1; omega)).mono ?_; rintro e w3 ⟨rfl, he3⟩; have hx4 := Ext.trans HX.out (Ext.undrew he3); have hc4 := HC.out.ext hx4; have hlt4 := hc4.lt; have g4 := hc4.c4; have HX4 := Lib.hid hx4; clear hc4)
  refine hK _ _ he3 ?_
  clear hK K
  first | (refine' wpT_pure_on rfl rfl (fun w' => ?_) ?_; rotate_left 1; (focus ((try go_simp); (try go_bits); (first | done | with_reducible rfl))); simp only [Act.put, List.setIfInBounds_toArray, List.set_cons_zero, List.set_cons_succ]) | (refine wpT_pure_off rfl rfl ?_; simp only [Act.put, List.setIfInBounds_toArray, List.set_cons_zero, List.set_cons_succ])
  (refine' wpT_pure rfl rfl (fun w' => ?_) ?_; rotate_left 1; (focus ((try go_simp); (try go_bits); (first | done | with_reducible rfl))); simp only [Act.put, List.setIfInBounds_toArray, List.set_cons_zero, List.set_cons_succ])
  refine wpT_nil ?_
  clear hx4 d4 d1 hlt2
  go_wp2_with (go_at_call 78; refine (best_calls cb c L c.view _ (HC.out.ext HX4.out) HW.out).mono ?_; rw [HB.out]; rintro e w5 ⟨v5, rfl, hb5, hx5⟩; have hc5 := HC.out.ext (Ext.trans HX4.out hx5); have k5 := hc5.c5; have k6 := hc5.c6; have hlt5 := hc5.lt)
  go_ret
  rw [HF.out]
  exact StepPost.no HC.out (Ext.trans HX4.out hx5)


set_option maxRecDepth 100000 in
set_option maxHeartbeats 800000 in
theorem propose_wish (cb : Nat) (c : Core) (L : Lay) (w : World) (hc : CoreAt w cb c L) (hw : Wf c) (hd : (AL.get? c.props c.view).isSome = false) (hm : (c.proposer c.view != c.me) = false) (hb : c.best c.view = none) (hwi : c.wishes = true) :
    Calls Try.prog 66 #[.pointer (some ⟨cb, 0, none⟩)] w (StepPost cb L c c.propose w) := by
  have HF := Lib.hid (show c.propose = some { c with props := AL.put c.props c.view (c.wish, -1) } by unfold Core.propose; simp [hd, hm, hb, hwi])
  have HB := Lib.hid hb
  clear hb
  obtain ⟨A, N, K0, q, hp1, _⟩ := props_look hc.props c.view
  rw [hd] at hp1
  have hlt := hc.lt
  have hpl := hc.props.lt
  have c7 := hc.c7
  have c4 := hc.c4
  have HC := Lib.hid hc
  have HW := Lib.hid hw
  clear hc hw
  go_enter Try.func66, Try.ntmps66
  go_wp2
  refine wp_region_T [13] (.pure 0 (.pure 1 (.pure 2 (.pure 4 (.pure 5 (.pure 6 (.take 3 (.take 7 (.take 8 (.pure 9 (.pure 10 (.pure 11 (.one 12 (.one 13 (.pure 14 .nil))))))))))))))) (by kernel_rfl) (by kernel_rfl) ?_
  iterate 6 (refine' wpT_pure rfl rfl (fun w' => ?_) ?_; rotate_left 1; (focus ((try go_simp); (try go_bits); (first | done | with_reducible rfl))); simp only [Act.put, List.setIfInBounds_toArray, List.set_cons_zero, List.set_cons_succ])
  iterate 3 (first | (refine' wpT_take_dddd rfl rfl (fun w' hc hl hsz => ?_) ?_; rotate_left 1; (focus ((try go_simp); (try go_bits); (first | done | with_reducible rfl))); simp only [Act.put, List.setIfInBounds_toArray, List.set_cons_zero, List.set_cons_succ]) | (refine' wpT_take_ddd rfl rfl (fun w' hc hl hsz => ?_) ?_; rotate_left 1; (focus ((try go_simp); (try go_bits); (first | done | with_reducible rfl))); simp only [Act.put, List.setIfInBounds_toArray, List.set_cons_zero, List.set_cons_succ]) | (refine' wpT_take_dd rfl rfl (fun w' hc hl hsz => ?_) ?_; rotate_left 1; (focus ((try go_simp); (try go_bits); (first | done | with_reducible rfl))); simp only [Act.put, List.setIfInBounds_toArray, List.set_cons_zero, List.set_cons_succ]) | (refine' wpT_take_d rfl rfl (fun w' hc hl hsz => ?_) ?_; rotate_left 1; (focus ((try go_simp); (try go_bits); (first | done | with_reducible rfl))); simp only [Act.put, List.setIfInBounds_toArray, List.set_cons_zero, List.set_cons_succ]))
  iterate 3 (refine' wpT_pure rfl rfl (fun w' => ?_) ?_; rotate_left 1; (focus ((try go_simp); (try go_bits); (first | done | with_reducible rfl))); simp only [Act.put, List.setIfInBounds_toArray, List.set_cons_zero, List.set_cons_succ])
  refine wpT_one rfl rfl (fun K hK => ?_)
  go_wp2
  refine hK _ _ (Ext.al (Ext.refl _) _) ?_
  clear hK K
  refine wpT_writer rfl rfl (by decide) (fun K hK => ?_)
  go_wp2
  first | (refine hK _ _ ?_; clear hK K) | skip
  (refine' wpT_pure rfl rfl (fun w' => ?_) ?_; rotate_left 1; (focus ((try go_simp); (try go_bits); (first | done | with_reducible rfl))); simp only [Act.put, List.setIfInBounds_toArray, List.set_cons_zero, List.set_cons_succ])
  refine wpT_nil ?_
  go_wp2
  refine wp_fresh (w.alloc (.cells #[.slice A N K0, (.int .i64 q)] 103)) (Ext.refl _).dr (fun W2 hx2 => ?_)
  have hx : Ext w W2 := Ext.trans (Ext.al (Ext.refl w) _) hx2
  have hc2 := HC.out.ext hx
  have hlt2 := hc2.lt
  have d4 := hc2.c4
  have d1 := hc2.c1
  have HX := Lib.hid hx
  clear hx hx2 hc2 hp1
  refine wp_region_T [] (.pure 0 (.pure 1 (.pure 2 (.pure 3 (.pure 4 (.pure 5 (.pure 8 (.pure 9 (.pure 10 (.take 6 (.take 11 (.one 7 (.pure 12 (.pure 13 .nil)))))))))))))) (by kernel_rfl) (by kernel_rfl) ?_
  iterate 2 (refine' wpT_pure rfl rfl (fun w' => ?_) ?_; rotate_left 1; (focus ((try go_simp); (try go_bits); (first | done | with_reducible rfl))); simp only [Act.put, List.setIfInBounds_toArray, List.set_cons_zero, List.set_cons_succ])
  iterate 7 (first | (refine' wpT_pure_on rfl rfl (fun w' => ?_) ?_; rotate_left 1; (focus ((try go_simp); (try go_bits); (first | done | with_reducible rfl))); simp only [Act.put, List.setIfInBounds_toArray, List.set_cons_zero, List.set_cons_succ]) | (refine wpT_pure_off rfl rfl ?_; simp only [Act.put, List.setIfInBounds_toArray, List.set_cons_zero, List.set_cons_succ]))
  iterate 2 (first | (refine' wpT_take_on_dddd rfl rfl (fun w' hc hl hsz => ?_) ?_; rotate_left 1; (focus ((try go_simp); (try go_bits); (first | done | with_reducible rfl))); simp only [Act.put, List.setIfInBounds_toArray, List.set_cons_zero, List.set_cons_succ]) | (refine' wpT_take_on_ddd rfl rfl (fun w' hc hl hsz => ?_) ?_; rotate_left 1; (focus ((try go_simp); (try go_bits); (first | done | with_reducible rfl))); simp only [Act.put, List.setIfInBounds_toArray, List.set_cons_zero, List.set_cons_succ]) | (refine' wpT_take_on_dd rfl rfl (fun w' hc hl hsz => ?_) ?_; rotate_left 1; (focus ((try go_simp); (try go_bits); (first | done | with_reducible rfl))); simp only [Act.put, List.setIfInBounds_toArray, List.set_cons_zero, List.set_cons_succ]) | (refine' wpT_take_on_d rfl rfl (fun w' hc hl hsz => ?_) ?_; rotate_left 1; (focus ((try go_simp); (try go_bits); (first | done | with_reducible rfl))); simp only [Act.put, List.setIfInBounds_toArray, List.set_cons_zero, List.set_cons_succ]) | (refine wpT_take_off rfl rfl ?_; simp only [Act.put, List.setIfInBounds_toArray, List.set_cons_zero, List.set_cons_succ]))
  refine wpT_one_on rfl rfl (fun K hK => ?_)
  go_wp2_with (go_at_call 63; refine (proposer_calls cb c L c.view _ (HC.out.ext (Ext.trans HX.out (Ext.refl W2).dr)) HW.out.n4 HW.out.n64 HW.out.s0 HW.out.s1 HW.out.v0 (by have := HW.out.v1; omega)).mono ?_; rintro e w3 ⟨rfl, he3⟩; have hx4 := Ext.trans HX.out (Ext.undrew he3); have hc4 := HC.out.ext hx4; have hlt4 := hc4.lt; have g4 := hc4.c4; have HX4 := Lib.hid hx4; clear hc4)
  refine hK _ _ he3 ?_
  clear hK K
  first | (refine' wpT_pure_on rfl rfl (fun w' => ?_) ?_; rotate_left 1; (focus ((try go_simp); (try go_bits); (first | done | with_reducible rfl))); simp only [Act.put, List.setIfInBounds_toArray, List.set_cons_zero, List.set_cons_succ]) | (refine wpT_pure_off rfl rfl ?_; simp only [Act.put, List.setIfInBounds_toArray, List.set_cons_zero, List.set_cons_succ])
  (refine' wpT_pure rfl rfl (fun w' => ?_) ?_; rotate_left 1; (focus ((try go_simp); (try go_bits); (first | done | with_reducible rfl))); simp only [Act.put, List.setIfInBounds_toArray, List.set_cons_zero, List.set_cons_succ])
  refine wpT_nil ?_
  clear hx4 d4 d1 hlt2
  go_wp2_with (go_at_call 78; refine (best_calls cb c L c.view _ (HC.out.ext HX4.out) HW.out).mono ?_; rw [HB.out]; rintro e w5 ⟨v5, rfl, hb5, hx5⟩; have hc5 := HC.out.ext (Ext.trans HX4.out hx5); have k5 := hc5.c5; have k6 := hc5.c6; have hlt5 := hc5.lt)
  obtain ⟨AW, KW, hLW, _⟩ := id hc5.wish
  have HWB : BytesAt w5 (.slice AW c.wish.length KW) c.wish := by rw [← hLW]; exact hc5.wish
  rw [hLW] at *
  refine wp_fresh w5 (Ext.refl w5) (fun W6 hx6 => ?_)
  have hx := Ext.trans (Ext.trans HX4.out hx5) hx6
  have hc6 := HC.out.ext hx
  have m7 := hc6.c7
  have m4 := hc6.c4
  have hlt6 := hc6.lt
  have HX6 := Lib.hid hx
  have HV6 : Hid (BytesAt W6.drew (.slice AW c.wish.length KW) c.wish) := Lib.hid (HWB.ext (Ext.trans hx6 (Ext.refl W6).dr))
  clear hx hc6 hx6 hx5 hb5 k5 k6 hlt5
  refine wp_region_T [12] (.pure 0 (.pure 1 (.pure 2 (.pure 4 (.pure 5 (.pure 6 (.pure 8 (.pure 10 (.take 3 (.take 7 (.one 9 (.pure 11 (.one 12 .nil))))))))))))) (by kernel_rfl) (by kernel_rfl) ?_
  iterate 8 (refine' wpT_pure rfl rfl (fun w' => ?_) ?_; rotate_left 1; (focus ((try go_simp); (try go_bits); (first | done | with_reducible rfl))); simp only [Act.put, List.setIfInBounds_toArray, List.set_cons_zero, List.set_cons_succ])
  iterate 2 (first | (refine' wpT_take_dddd rfl rfl (fun w' hc hl hsz => ?_) ?_; rotate_left 1; (focus ((try go_simp); (try go_bits); (first | done | with_reducible rfl))); simp only [Act.put, List.setIfInBounds_toArray, List.set_cons_zero, List.set_cons_succ]) | (refine' wpT_take_ddd rfl rfl (fun w' hc hl hsz => ?_) ?_; rotate_left 1; (focus ((try go_simp); (try go_bits); (first | done | with_reducible rfl))); simp only [Act.put, List.setIfInBounds_toArray, List.set_cons_zero, List.set_cons_succ]) | (refine' wpT_take_dd rfl rfl (fun w' hc hl hsz => ?_) ?_; rotate_left 1; (focus ((try go_simp); (try go_bits); (first | done | with_reducible rfl))); simp only [Act.put, List.setIfInBounds_toArray, List.set_cons_zero, List.set_cons_succ]) | (refine' wpT_take_d rfl rfl (fun w' hc hl hsz => ?_) ?_; rotate_left 1; (focus ((try go_simp); (try go_bits); (first | done | with_reducible rfl))); simp only [Act.put, List.setIfInBounds_toArray, List.set_cons_zero, List.set_cons_succ]))
  refine wpT_one rfl rfl (fun K hK => ?_)
  go_wp2_with (go_at_call 41; refine (clone_calls _ c.wish _ HV6.out (by have := HW.out.wishL; omega)).mono ?_; rintro e w7 ⟨v', rfl, hb7, hx7⟩; obtain ⟨A7, C7, rfl, _⟩ := id hb7)
  refine hK _ _ hx7 ?_
  clear hK K
  (refine' wpT_pure rfl rfl (fun w' => ?_) ?_; rotate_left 1; (focus ((try go_simp); (try go_bits); (first | done | with_reducible rfl))); simp only [Act.put, List.setIfInBounds_toArray, List.set_cons_zero, List.set_cons_succ])
  refine wpT_writer rfl rfl (by decide) (fun K hK => ?_)
  obtain ⟨mm, hmm, hri, hrel⟩ := HC.out.props
  have he : Ext w w7 := HX6.out.trans (Ext.undrew hx7)
  refine wp_mapUpdate _ 65 103 _ _ _ rfl Try.underlying65 L.props mm rfl (hmm.ext he) c.view rfl _ rfl ?_
  intro w8 hm8 hb8
  first | (refine hK _ _ ?_; clear hK K) | skip
  refine wpT_nil ?_
  go_wp2
  go_ret
  have he : Ext w w7 := HX6.out.trans (Ext.undrew hx7)
  have hC := (HC.out.ext he).set_props (hmm.ext he) (hrel.mono fun _ _ _ _ _ ⟨x, h1, h2⟩ => ⟨x, h1, h2.ext he⟩) hri hb7 hm8 hb8
  rw [HF.out]
  exact ⟨L, rfl, hC.1, (Moves.of_ext he).trans hC.2⟩

set_option maxRecDepth 100000 in
set_option maxHeartbeats 800000 in
theorem propose_best (cb : Nat) (c : Core) (L : Lay) (w : World) (hc : CoreAt w cb c L) (hw : Wf c) (hd : (AL.get? c.props c.view).isSome = false) (hm : (c.proposer c.view != c.me) = false) (view : Int) (v : Bytes) (hb : c.best c.view = some (view, v)) :
    Calls Try.prog 66 #[.pointer (some ⟨cb, 0, none⟩)] w (StepPost cb L c c.propose w) := by
  have HF := Lib.hid (show c.propose = some { c with props := AL.put c.props c.view (v, view) } by unfold Core.propose; simp [hd, hm, hb])
  have HB := Lib.hid hb
  have hvl := hw.prepared_len (hw.best_spec hb).2
  have HVL := Lib.hid hvl
  clear hb hvl
  obtain ⟨A, N, K0, q, hp1, _⟩ := props_look hc.props c.view
  rw [hd] at hp1
  have hlt := hc.lt
  have hpl := hc.props.lt
  have c7 := hc.c7
  have c4 := hc.c4
  have HC := Lib.hid hc
  have HW := Lib.hid hw
  clear hc hw
  go_enter Try.func66, Try.ntmps66
  go_wp2
  refine wp_region_T [13] (.pure 0 (.pure 1 (.pure 2 (.pure 4 (.pure 5 (.pure 6 (.take 3 (.take 7 (.take 8 (.pure 9 (.pure 10 (.pure 11 (.one 12 (.one 13 (.pure 14 .nil))))))))))))))) (by kernel_rfl) (by kernel_rfl) ?_
  iterate 6 (refine' wpT_pure rfl rfl (fun w' => ?_) ?_; rotate_left 1; (focus ((try go_simp); (try go_bits); (first | done | with_reducible rfl))); simp only [Act.put, List.setIfInBounds_toArray, List.set_cons_zero, List.set_cons_succ])
  iterate 3 (first | (refine' wpT_take_dddd rfl rfl (fun w' hc hl hsz => ?_) ?_; rotate_left 1; (focus ((try go_simp); (try go_bits); (first | done | with_reducible rfl))); simp only [Act.put, List.setIfInBounds_toArray, List.set_cons_zero, List.set_cons_succ]) | (refine' wpT_take_ddd rfl rfl (fun w' hc hl hsz => ?_) ?_; rotate_left 1; (focus ((try go_simp); (try go_bits); (first | done | with_reducible rfl))); simp only [Act.put, List.setIfInBounds_toArray, List.set_cons_zero, List.set_cons_succ]) | (refine' wpT_take_dd rfl rfl (fun w' hc hl hsz => ?_) ?_; rotate_left 1; (focus ((try go_simp); (try go_bits); (first | done | with_reducible rfl))); simp only [Act.put, List.setIfInBounds_toArray, List.set_cons_zero, List.set_cons_succ]) | (refine' wpT_take_d rfl rfl (fun w' hc hl hsz => ?_) ?_; rotate_left 1; (focus ((try go_simp); (try go_bits); (first | done | with_reducible rfl))); simp only [Act.put, List.setIfInBounds_toArray, List.set_cons_zero, List.set_cons_succ]))
  iterate 3 (refine' wpT_pure rfl rfl (fun w' => ?_) ?_; rotate_left 1; (focus ((try go_simp); (try go_bits); (first | done | with_reducible rfl))); simp only [Act.put, List.setIfInBounds_toArray, List.set_cons_zero, List.set_cons_succ])
  refine wpT_one rfl rfl (fun K hK => ?_)
  go_wp2
  refine hK _ _ (Ext.al (Ext.refl _) _) ?_
  clear hK K
  refine wpT_writer rfl rfl (by decide) (fun K hK => ?_)
  go_wp2
  first | (refine hK _ _ ?_; clear hK K) | skip
  (refine' wpT_pure rfl rfl (fun w' => ?_) ?_; rotate_left 1; (focus ((try go_simp); (try go_bits); (first | done | with_reducible rfl))); simp only [Act.put, List.setIfInBounds_toArray, List.set_cons_zero, List.set_cons_succ])
  refine wpT_nil ?_
  go_wp2
  refine wp_fresh (w.alloc (.cells #[.slice A N K0, (.int .i64 q)] 103)) (Ext.refl _).dr (fun W2 hx2 => ?_)
  have hx : Ext w W2 := Ext.trans (Ext.al (Ext.refl w) _) hx2
  have hc2 := HC.out.ext hx
  have hlt2 := hc2.lt
  have d4 := hc2.c4
  have d1 := hc2.c1
  have HX := Lib.hid hx
  clear hx hx2 hc2 hp1
  refine wp_region_T [] (.pure 0 (.pure 1 (.pure 2 (.pure 3 (.pure 4 (.pure 5 (.pure 8 (.pure 9 (.pure 10 (.take 6 (.take 11 (.one 7 (.pure 12 (.pure 13 .nil)))))))))))))) (by kernel_rfl) (by kernel_rfl) ?_
  iterate 2 (refine' wpT_pure rfl rfl (fun w' => ?_) ?_; rotate_left 1; (focus ((try go_simp); (try go_bits); (first | done | with_reducible rfl))); simp only [Act.put, List.setIfInBounds_toArray, List.set_cons_zero, List.set_cons_succ])
  iterate 7 (first | (refine' wpT_pure_on rfl rfl (fun w' => ?_) ?_; rotate_left 1; (focus ((try go_simp); (try go_bits); (first | done | with_reducible rfl))); simp only [Act.put, List.setIfInBounds_toArray, List.set_cons_zero, List.set_cons_succ]) | (refine wpT_pure_off rfl rfl ?_; simp only [Act.put, List.setIfInBounds_toArray, List.set_cons_zero, List.set_cons_succ]))
  iterate 2 (first | (refine' wpT_take_on_dddd rfl rfl (fun w' hc hl hsz => ?_) ?_; rotate_left 1; (focus ((try go_simp); (try go_bits); (first | done | with_reducible rfl))); simp only [Act.put, List.setIfInBounds_toArray, List.set_cons_zero, List.set_cons_succ]) | (refine' wpT_take_on_ddd rfl rfl (fun w' hc hl hsz => ?_) ?_; rotate_left 1; (focus ((try go_simp); (try go_bits); (first | done | with_reducible rfl))); simp only [Act.put, List.setIfInBounds_toArray, List.set_cons_zero, List.set_cons_succ]) | (refine' wpT_take_on_dd rfl rfl (fun w' hc hl hsz => ?_) ?_; rotate_left 1; (focus ((try go_simp); (try go_bits); (first | done | with_reducible rfl))); simp only [Act.put, List.setIfInBounds_toArray, List.set_cons_zero, List.set_cons_succ]) | (refine' wpT_take_on_d rfl rfl (fun w' hc hl hsz => ?_) ?_; rotate_left 1; (focus ((try go_simp); (try go_bits); (first | done | with_reducible rfl))); simp only [Act.put, List.setIfInBounds_toArray, List.set_cons_zero, List.set_cons_succ]) | (refine wpT_take_off rfl rfl ?_; simp only [Act.put, List.setIfInBounds_toArray, List.set_cons_zero, List.set_cons_succ]))
  refine wpT_one_on rfl rfl (fun K hK => ?_)
  go_wp2_with (go_at_call 63; refine (proposer_calls cb c L c.view _ (HC.out.ext (Ext.trans HX.out (Ext.refl W2).dr)) HW.out.n4 HW.out.n64 HW.out.s0 HW.out.s1 HW.out.v0 (by have := HW.out.v1; omega)).mono ?_; rintro e w3 ⟨rfl, he3⟩; have hx4 := Ext.trans HX.out (Ext.undrew he3); have hc4 := HC.out.ext hx4; have hlt4 := hc4.lt; have g4 := hc4.c4; have HX4 := Lib.hid hx4; clear hc4)
  refine hK _ _ he3 ?_
  clear hK K
  first | (refine' wpT_pure_on rfl rfl (fun w' => ?_) ?_; rotate_left 1; (focus ((try go_simp); (try go_bits); (first | done | with_reducible rfl))); simp only [Act.put, List.setIfInBounds_toArray, List.set_cons_zero, List.set_cons_succ]) | (refine wpT_pure_off rfl rfl ?_; simp only [Act.put, List.setIfInBounds_toArray, List.set_cons_zero, List.set_cons_succ])
  (refine' wpT_pure rfl rfl (fun w' => ?_) ?_; rotate_left 1; (focus ((try go_simp); (try go_bits); (first | done | with_reducible rfl))); simp only [Act.put, List.setIfInBounds_toArray, List.set_cons_zero, List.set_cons_succ])
  refine wpT_nil ?_
  clear hx4 d4 d1 hlt2
  go_wp2_with (go_at_call 78; refine (best_calls cb c L c.view _ (HC.out.ext HX4.out) HW.out).mono ?_; rw [HB.out]; rintro e w5 ⟨v5, rfl, hb5, hx5⟩; have hc5 := HC.out.ext (Ext.trans HX4.out hx5); have k5 := hc5.c5; have k6 := hc5.c6; have hlt5 := hc5.lt)
  obtain ⟨A5, K5, rfl, _⟩ := id hb5
  have HWB : BytesAt w5 (.slice A5 v.length K5) v := hb5

  refine wp_fresh w5 (Ext.refl w5) (fun W6 hx6 => ?_)
  have hx := Ext.trans (Ext.trans HX4.out hx5) hx6
  have hc6 := HC.out.ext hx
  have m7 := hc6.c7
  have m4 := hc6.c4
  have hlt6 := hc6.lt
  have HX6 := Lib.hid hx
  have HV6 : Hid (BytesAt W6.drew (.slice A5 v.length K5) v) := Lib.hid (HWB.ext (Ext.trans hx6 (Ext.refl W6).dr))
  clear hx hc6 hx6 hx5 hb5 k5 k6 hlt5
  refine wp_region_T [12] (.pure 0 (.pure 1 (.pure 2 (.pure 4 (.pure 5 (.pure 6 (.pure 8 (.pure 10 (.take 3 (.take 7 (.one 9 (.pure 11 (.one 12 .nil))))))))))))) (by kernel_rfl) (by kernel_rfl) ?_
  iterate 8 (refine' wpT_pure rfl rfl (fun w' => ?_) ?_; rotate_left 1; (focus ((try go_simp); (try go_bits); (first | done | with_reducible rfl))); simp only [Act.put, List.setIfInBounds_toArray, List.set_cons_zero, List.set_cons_succ])
  iterate 2 (first | (refine' wpT_take_dddd rfl rfl (fun w' hc hl hsz => ?_) ?_; rotate_left 1; (focus ((try go_simp); (try go_bits); (first | done | with_reducible rfl))); simp only [Act.put, List.setIfInBounds_toArray, List.set_cons_zero, List.set_cons_succ]) | (refine' wpT_take_ddd rfl rfl (fun w' hc hl hsz => ?_) ?_; rotate_left 1; (focus ((try go_simp); (try go_bits); (first | done | with_reducible rfl))); simp only [Act.put, List.setIfInBounds_toArray, List.set_cons_zero, List.set_cons_succ]) | (refine' wpT_take_dd rfl rfl (fun w' hc hl hsz => ?_) ?_; rotate_left 1; (focus ((try go_simp); (try go_bits); (first | done | with_reducible rfl))); simp only [Act.put, List.setIfInBounds_toArray, List.set_cons_zero, List.set_cons_succ]) | (refine' wpT_take_d rfl rfl (fun w' hc hl hsz => ?_) ?_; rotate_left 1; (focus ((try go_simp); (try go_bits); (first | done | with_reducible rfl))); simp only [Act.put, List.setIfInBounds_toArray, List.set_cons_zero, List.set_cons_succ]))
  refine wpT_one rfl rfl (fun K hK => ?_)
  go_wp2_with (go_at_call 41; refine (clone_calls _ v _ HV6.out (by have := HVL.out; omega)).mono ?_; rintro e w7 ⟨v', rfl, hb7, hx7⟩; obtain ⟨A7, C7, rfl, _⟩ := id hb7)
  refine hK _ _ hx7 ?_
  clear hK K
  (refine' wpT_pure rfl rfl (fun w' => ?_) ?_; rotate_left 1; (focus ((try go_simp); (try go_bits); (first | done | with_reducible rfl))); simp only [Act.put, List.setIfInBounds_toArray, List.set_cons_zero, List.set_cons_succ])
  refine wpT_writer rfl rfl (by decide) (fun K hK => ?_)
  obtain ⟨mm, hmm, hri, hrel⟩ := HC.out.props
  have he : Ext w w7 := HX6.out.trans (Ext.undrew hx7)
  refine wp_mapUpdate _ 65 103 _ _ _ rfl Try.underlying65 L.props mm rfl (hmm.ext he) c.view rfl _ rfl ?_
  intro w8 hm8 hb8
  first | (refine hK _ _ ?_; clear hK K) | skip
  refine wpT_nil ?_
  go_wp2
  go_ret
  have he : Ext w w7 := HX6.out.trans (Ext.undrew hx7)
  have hC := (HC.out.ext he).set_props (hmm.ext he) (hrel.mono fun _ _ _ _ _ ⟨x, h1, h2⟩ => ⟨x, h1, h2.ext he⟩) hri hb7 hm8 hb8
  rw [HF.out]
  exact ⟨L, rfl, hC.1, (Moves.of_ext he).trans hC.2⟩

theorem propose_calls (cb : Nat) (c : Core) (L : Lay) (w : World) (hc : CoreAt w cb c L) (hw : Wf c) : Calls Try.prog 66 #[.pointer (some ⟨cb, 0, none⟩)] w (StepPost cb L c c.propose w) := by
  cases hd : (AL.get? c.props c.view).isSome with
  | true => exact propose_old cb c L w hc hw hd
  | false =>
    cases hm : (c.proposer c.view != c.me) with
    | true => exact propose_alien cb c L w hc hw hd hm
    | false =>
      cases hb : c.best c.view with
      | none =>
        cases hwi : c.wishes with
        | false => exact propose_nothing cb c L w hc hw hd hm hb hwi
        | true => exact propose_wish cb c L w hc hw hd hm hb hwi
      | some p => exact propose_best cb c L w hc hw hd hm p.1 p.2 hb
end Go.Proofs.Ytkpllkjionegeaa

/- Walks: the values of a map of numbers, sorted; the turn to a view (turn). -/
namespace Go.Proofs.Ytkpllkjionegeaa
open Go Go.RowKit Go.Maps Go.Sort Go.Shelf

attribute [local go_sem] Oper.semAt_some

section
variable {P : Program} {F : Fence} {fn : Nat} (w : World) {ops : Array Oper} {rest : List Oper} {o : Oper} {a : Act} {Q : Exit → Act → World → Prop}

theorem wpListIn_range (hg : o.guard = none) (m : Operand) (t e : TypeId) (hop : o.op = Op.range t m) (ht : P.underlying t = some (.map 3 e)) (r : Nat) (mm : AL Value) (hm : a.eval m = .map (some r)) (h : MapAt w r mm)
    (hK : ∀ w', IterAt w' w.heap.size r mm → Ext w w' → w'.heap.size = w.heap.size + 1 → wpListIn F fn P ops Q rest (a.put o.dst (.pointer (some ⟨w.heap.size, 0, none⟩))) w') : wpListIn F fn P ops Q (o :: rest) a w := by
  refine wpListIn_plain hg fun K' hK' => ?_
  obtain ⟨w', hrun, h1, h2, h3⟩ := h.range ht
  unfold Oper.wpIn
  refine ⟨?_, ?_⟩
  · simp [Oper.about, hop]
  · rw [Oper.semAt_plain F _ _ (by rw [hop]; intro c hc'; cases hc')]
    simp [execOp, hop, hm, hrun, Result.andThen]
    exact hK' _ _ (hK w' h1 h2 h3)

theorem wpListIn_next (hg : o.guard = none) (it : Operand) (hop : o.op = Op.next it false) (i r : Nat) (todo : List (Int × Value)) (hit : a.eval it = .pointer (some ⟨i, 0, none⟩)) (h : IterAt w i r todo)
    (hDone : todo = [] → wpListIn F fn P ops Q rest (a.put o.dst (.tuple #[.bool false])) w)
    (hMore : ∀ (k : Int) (v : Value) (todo' : List (Int × Value)) (w' : World), todo.Perm ((k, v) :: todo') → IterAt w' i r todo' → But i w w' → (Instr.entry (.pointer (some ⟨i, 0, none⟩))).run P w' = .ok (.tuple #[.int .i64 k, v]) w' →
      wpListIn F fn P ops Q rest (a.put o.dst (.tuple #[.bool true, .int .i64 k, v])) w') : wpListIn F fn P ops Q (o :: rest) a w := by
  refine wpListIn_plain hg fun K' hK' => ?_
  unfold Oper.wpIn
  refine ⟨?_, ?_⟩
  · simp [Oper.about, hop]
  · rw [Oper.semAt_plain F _ _ (by rw [hop]; intro c hc'; cases hc')]
    rcases h.next (P := P) o.type with ⟨h0, hrun⟩ | ⟨p, todo', w', hp, hrun, h1, h2, h3⟩
    · simp [execOp, hop, hit, hrun, Result.andThen]
      exact hK' _ _ (hDone h0)
    · simp [execOp, hop, hit, hrun, Result.andThen]
      exact hK' _ _ (hMore p.1 p.2 todo' w' hp h1 h2 h3)
end

theorem IterAt.walks {w w' : World} {i r : Nat} {todo : List (Int × Value)} (h : IterAt w i r todo) (hk : KeepsWalks w w') : IterAt w' i r todo := by
  obtain ⟨es, clk, since, seen, c0, h1, h2, h3⟩ := h
  exact ⟨es, clk, since, seen, c0, hk.same i _ h1 rfl, hk.same r _ h2 rfl, h3⟩

theorem IterAt.walk {w : World} {i r : Nat} {todo : List (Int × Value)} (h : IterAt w i r todo) : ∃ o : Obj, w.heap[i]? = some o ∧ o.isWalk = true := by
  obtain ⟨es, clk, since, seen, c0, h1, _⟩ := h
  exact ⟨_, h1, rfl⟩

theorem Ext.grown {w w' : World} (h : Ext w w') : w.grownBy w' none := ⟨h.os, h.tape, h.output, h.size, fun k hk _ => h.block k hk⟩
theorem But.grown {w w' : World} {r : Nat} (h : But r w w') : w.grownBy w' (some r) := ⟨h.os, h.tape, h.output, Nat.le_of_eq h.size.symm, fun k hk hn => h.block k (fun e => hn (by rw [e]))⟩

set_option maxRecDepth 100000 in
theorem values_calls (mb : Option Nat) (w : World) : Calls Try.prog 77 #[.map mb] w fun e w' => e = .returned (.func (.func 87) #[] #[.pointer (some ⟨w.heap.size, 0, none⟩)]) ∧ w' = w.alloc (.cells #[.map mb] 67) := by
  go_enter Try.func77, Try.ntmps77
  go_wp2
  go_ret
  exact ⟨rfl, rfl⟩

set_option maxRecDepth 100000 in
set_option maxHeartbeats 2000000 in
/-- Values's closure -/
theorem values_give (n : Nat) (hn : 1 ≤ n) (Bm r : Nat) (s : AL Int) (w : World) (hm : w.cell? ⟨Bm, 0, none⟩ = some (.map (some r))) (hs : MapAt w r (AL.mapVal (.int .i64) s)) :
    SeqGives Fence.wide n Try.prog 87 #[.pointer (some ⟨Bm, 0, none⟩)] encZ (fun xs => xs.Perm (AL.vals s)) s.length w := fun l J W hW hJ hY h0 => by
  have hm' := (hW.cell (p := ⟨Bm, 0, none⟩) (World.block_lt_of_cell? w _ hm)).trans hm
  have hs' : MapAt W r (AL.mapVal (.int .i64) s) := hs.kept (hW.block r hs.lt)
  clear hm hs hW
  refine callsIn_of_wp Try.func87 rfl trivial ?_ rfl
  simp only [Try.ntmps87, List.size_toArray, List.length_cons, List.length_nil, Nat.reduceAdd, Nat.reduceSub, Array.replicate_succ, Array.replicate_zero, List.push_toArray, List.append_toArray, List.nil_append, List.cons_append]
  gi_wp2_with (first
    | (gi_at_range; refine wpListIn_range _ rfl _ 67 3 rfl Try.underlying67 r _ rfl hs' ?_; intro w0 hit0 hx0 hsz0)
    | gi_in)
  go_frame
  have HIT := Lib.hid hit0
  have HX0 := Lib.hid hx0
  clear hit0 hx0
  gi_loopw [4] (fun _ wr => ∃ (pre : List Int) (todo : List (Int × Value)), IterAt wr W.heap.size r todo ∧ pre.length + todo.length = s.length ∧ (pre ++ todo.map fun p => intOf p.2).Perm (AL.vals s) ∧ (∀ p ∈ todo, ∃ x, p.2 = .int .i64 x) ∧ J pre wr)
    (fun _ wr => iterLeft W.heap.size r wr)
  case atStart =>
    refine ⟨[], _, HIT.out, by simp [AL.mapVal], ?_, ?_, hJ [] W w0 none h0 HX0.out.grown (fun r e => by cases e)⟩
    · simp [AL.mapVal, AL.vals, Function.comp_def, intOf]
    · intro p hp
      obtain ⟨q, hq, rfl⟩ := List.mem_map.1 hp
      exact ⟨_, rfl⟩
  case round =>
    obtain ⟨pre, todo, hit, hlen, hperm, hint, hJs⟩ := hrel
    gi_wp2_with (first
      | (gi_at_next; refine wpListIn_next _ rfl _ rfl W.heap.size r todo rfl hit ?_ ?_)
      | gi_in)
    · intro htodo
      gi_wp2
      go_end0
      exact ⟨⟨_, rfl⟩, pre, by subst htodo; simpa using hperm, hJs⟩
    · intro kk vv todo' wj hpm hitj hbj hent
      obtain ⟨x, rfl⟩ : ∃ x, vv = .int .i64 x := hint (kk, vv) (hpm.mem_iff.2 (by simp))
      have hJ2 : J pre wj := hJ pre wr wj (some W.heap.size) hJs hbj.grown (fun r e => by cases e; exact ⟨Nat.le_refl _, hit.walk⟩)
      have hlp : todo.length = todo'.length + 1 := by have := hpm.length_eq; simpa using this
      obtain ⟨fn, tmps, assign, body, hy, hR⟩ := hY pre x wj hJ2 (by omega)
      dsimp only [encZ] at hy
      have HPM := Lib.hid hpm
      have HP := Lib.hid hperm
      have HIN := Lib.hid hint
      have HI1 := Lib.hid hit
      have HI2 := Lib.hid hitj
      clear hpm hperm hint hit hitj
      gi_wp2
      refine hR.mono ?_
      rintro e W3 ⟨rfl, hJ3, hk3⟩
      gi_wp2
      have hit3 := HI2.out.walks hk3
      go_roundw
      case rel =>
        refine ⟨pre ++ [x], todo', hit3, by simp; omega, ?_, fun p hp => HIN.out p (HPM.out.mem_iff.2 (by simp [hp])), hJ3⟩
        refine List.Perm.trans ?_ HP.out
        have := (HPM.out.map fun p => intOf p.2).append_left pre
        have hx : intOf (Value.int .i64 x) = x := rfl
        simp only [List.map_cons, hx] at this
        refine List.Perm.trans ?_ this.symm
        simp
      case measure => rw [hit3.left, HI1.out.left]; omega

theorem sorted_vals (Bm r : Nat) (s : AL Int) (w : World) (h : SeenAt w r s) (hk : s.length ≤ 2000000) (hc : w.cell? ⟨Bm, 0, none⟩ = some (.map (some r))) :
    Calls Try.prog 45 #[.func (.func 87) #[] #[.pointer (some ⟨Bm, 0, none⟩)]] w (GivesInts ((AL.vals s).mergeSort (fun x y => decide (x ≤ y))) w) := by
  have hseq := values_give 2 (by omega) Bm r s w hc h.1
  have cS := AnyZI.sorted_in Try.sortedA Fence.wide 5 trivial trivial trivial trivial rfl (by omega) (sorts _) (enters_of Try.func71 (by kernel_rfl) rfl) 87 #[.pointer (some ⟨Bm, 0, none⟩)] trivial (enters_of Try.func87 (by kernel_rfl) rfl) _ _
    (by unfold maxLen; omega) (by omega) w hseq
  refine (callsIn_wide.1 cS).mono ?_
  rintro e w' ⟨v, ss, rfl, hS, hrow, _, hb⟩
  rw [mergeSort_of_perm_i hS] at hrow
  exact ⟨v, rfl, ints_of_own hrow, hb⟩
end Go.Proofs.Ytkpllkjionegeaa

/- Walks: the turn to a view (turn). -/
namespace Go.Proofs.Ytkpllkjionegeaa
open Go Go.RowKit


theorem Wf.seen_len {c : Core} (hw : Wf c) : c.seen.length ≤ 64 := by
  have h1 : ∀ k ∈ AL.keys c.seen, 1 ≤ k ∧ k ≤ 64 := fun k hk => by
    obtain ⟨v, hv⟩ := Option.isSome_iff_exists.1 ((AL.mem_keys_get? hw.seenR).1 hk)
    exact (hw.seen k v hv).1
  have := AL.length_le_of_bounds (AL.keys_rising hw.seenR) (a := 1) (n := 64) (fun x hx => by have := h1 x hx; omega)
  simpa [AL.keys] using this


set_option maxRecDepth 100000 in
set_option maxHeartbeats 800000 in
theorem turn_few (cb : Nat) (c : Core) (L : Lay) (w : World) (hc : CoreAt w cb c L) (hw : Wf c) (hf : (c.views.length : Int) ≤ c.f) :
    Calls Try.prog 65 #[.pointer (some ⟨cb, 0, none⟩)] w (StepPost cb L c c.turn w) := by
  have HF := Lib.hid (show c.turn = none by unfold Core.turn Core.turnTo; simp [hf])
  have HFF := Lib.hid hf
  clear hf
  have hvl := hw.seen_len
  have hlt := hc.lt
  have c11 := hc.c11
  have hvv : (AL.vals c.seen).mergeSort (fun x y => decide (x ≤ y)) = c.views := rfl
  obtain ⟨Z, hZ⟩ : ∃ Z, Z = c.views := ⟨_, rfl⟩
  rw [← hZ] at hvv
  have hzl : Z.length ≤ 64 := by rw [hZ]; simpa [Core.views, AL.vals] using hvl
  have HC := Lib.hid hc
  have HW := Lib.hid hw
  have HVV := Lib.hid hvv
  have HZ := Lib.hid hZ
  have hn4 := hw.n4
  have hn64 := hw.n64
  clear hc hw hvv hZ hvl
  go_enter Try.func65, Try.ntmps65
  go_wp2_with (first
    | (go_at_call 77; refine (values_calls _ _).mono ?_; rintro e w1 ⟨rfl, rfl⟩)
    | (go_at_call 45; refine (sorted_vals w.heap.size L.seen c.seen _ (HC.out.ext ((Ext.refl w).alloc (Nat.le_refl _) _)).seen (by have := HW.out.seen_len; omega) (boxed w _ 67 |>.2.1 0)).mono ?_; rw [HVV.out]; rintro e w2 ⟨v2, rfl, hi2, hx2⟩; obtain ⟨A2, C2, rfl, _⟩ := id hi2; have hc2 := HC.out.ext (Ext.trans (Ext.al (Ext.refl w) _) hx2); have d0 := hc2.c0; have d4 := hc2.c4; have f4 := hc2.free 4; have hlt2 := hc2.lt; have HX := Lib.hid (Ext.trans (Ext.al (Ext.refl w) _) hx2); have HI := Lib.hid hi2; have HC2 := Lib.hid hc2; clear hc2 hx2 hi2 c11))
  have hle : decide ((Z.length : Int) ≤ (c.n - 1) / 3) = true := by have := HFF.out; unfold Core.f at this; rw [← HZ.out] at this; simpa using this
  refine wp_fresh w2 (Ext.refl w2) (fun W3 hx3 => ?_)
  have hlt3 := Nat.lt_of_lt_of_le hlt2 hx3.size
  clear d0 d4 f4
  refine wp_region_T [] (.pure 0 (.pure 1 (.pure 2 (.pure 3 (.pure 4 (.pure 5 (.pure 6 (.pure 7 (.pure 8 (.pure 9 (.pure 10 (.pure 11 (.pure 13 (.pure 14 (.pure 15 (.take 12 (.take 16 (.pure 17 (.pure 18 .nil))))))))))))))))))) (by kernel_rfl) (by kernel_rfl) ?_
  iterate 5 (refine' wpT_pure rfl rfl (fun w' => ?_) ?_; rotate_left 1; (focus ((try go_simp); (try go_bits); (first | done | with_reducible rfl))); simp only [Act.put, List.setIfInBounds_toArray, List.set_cons_zero, List.set_cons_succ])
  iterate 10 (first | (refine' wpT_pure_on rfl rfl (fun w' => ?_) ?_; rotate_left 1; (focus ((try go_simp); (try go_bits); (first | done | with_reducible rfl))); simp only [Act.put, List.setIfInBounds_toArray, List.set_cons_zero, List.set_cons_succ]) | (refine wpT_pure_off rfl rfl ?_; simp only [Act.put, List.setIfInBounds_toArray, List.set_cons_zero, List.set_cons_succ]))
  iterate 2 (first | (refine' wpT_take_on_dddd rfl rfl (fun w' hc hl hsz => ?_) ?_; rotate_left 1; (focus ((try go_simp); (try go_bits); (first | done | with_reducible rfl))); simp only [Act.put, List.setIfInBounds_toArray, List.set_cons_zero, List.set_cons_succ]) | (refine' wpT_take_on_ddd rfl rfl (fun w' hc hl hsz => ?_) ?_; rotate_left 1; (focus ((try go_simp); (try go_bits); (first | done | with_reducible rfl))); simp only [Act.put, List.setIfInBounds_toArray, List.set_cons_zero, List.set_cons_succ]) | (refine' wpT_take_on_dd rfl rfl (fun w' hc hl hsz => ?_) ?_; rotate_left 1; (focus ((try go_simp); (try go_bits); (first | done | with_reducible rfl))); simp only [Act.put, List.setIfInBounds_toArray, List.set_cons_zero, List.set_cons_succ]) | (refine' wpT_take_on_d rfl rfl (fun w' hc hl hsz => ?_) ?_; rotate_left 1; (focus ((try go_simp); (try go_bits); (first | done | with_reducible rfl))); simp only [Act.put, List.setIfInBounds_toArray, List.set_cons_zero, List.set_cons_succ]) | (refine wpT_take_off rfl rfl ?_; simp only [Act.put, List.setIfInBounds_toArray, List.set_cons_zero, List.set_cons_succ]))
  first | (refine' wpT_pure_on rfl rfl (fun w' => ?_) ?_; rotate_left 1; (focus ((try go_simp); (try go_bits); (first | done | with_reducible rfl))); simp only [Act.put, List.setIfInBounds_toArray, List.set_cons_zero, List.set_cons_succ]) | (refine wpT_pure_off rfl rfl ?_; simp only [Act.put, List.setIfInBounds_toArray, List.set_cons_zero, List.set_cons_succ])
  (refine' wpT_pure rfl rfl (fun w' => ?_) ?_; rotate_left 1; (focus ((try go_simp); (try go_bits); (first | done | with_reducible rfl))); simp only [Act.put, List.setIfInBounds_toArray, List.set_cons_zero, List.set_cons_succ])
  refine wpT_nil ?_
  go_wp2
  go_ret
  rw [HF.out]
  exact StepPost.no HC.out (Ext.trans (Ext.trans HX.out hx3) (Ext.refl W3).dr)


theorem Core.turnTo_of {c : Core} (hf : ¬ (c.views.length : Int) ≤ c.f) {Z : List Int} (hZ : Z = c.views) {j : Nat} (hj : j = Z.length - 1 - ((c.n - 1) / 3).toNat) : c.turnTo = if Z.getD j 0 ≤ c.view then none else some (Z.getD j 0) := by
  subst hZ
  subst hj
  unfold Core.turnTo
  rw [if_neg hf]
  rfl

set_option maxRecDepth 100000 in
set_option maxHeartbeats 800000 in
theorem turn_many (cb : Nat) (c : Core) (L : Lay) (w : World) (hc : CoreAt w cb c L) (hw : Wf c) (hf : ¬ (c.views.length : Int) ≤ c.f) :
    Calls Try.prog 65 #[.pointer (some ⟨cb, 0, none⟩)] w (StepPost cb L c c.turn w) := by
  have HFF := Lib.hid hf
  clear hf
  have hvl := hw.seen_len
  have hlt := hc.lt
  have c11 := hc.c11
  have hvv : (AL.vals c.seen).mergeSort (fun x y => decide (x ≤ y)) = c.views := rfl
  obtain ⟨Z, hZ⟩ : ∃ Z, Z = c.views := ⟨_, rfl⟩
  rw [← hZ] at hvv
  have hzl : Z.length ≤ 64 := by rw [hZ]; simpa [Core.views, AL.vals] using hvl
  have HC := Lib.hid hc
  have HW := Lib.hid hw
  have HVV := Lib.hid hvv
  have HZ := Lib.hid hZ
  have hn4 := hw.n4
  have hn64 := hw.n64
  clear hc hw hvv hZ hvl
  go_enter Try.func65, Try.ntmps65
  go_wp2_with (first
    | (go_at_call 77; refine (values_calls _ _).mono ?_; rintro e w1 ⟨rfl, rfl⟩)
    | (go_at_call 45; refine (sorted_vals w.heap.size L.seen c.seen _ (HC.out.ext ((Ext.refl w).alloc (Nat.le_refl _) _)).seen (by have := HW.out.seen_len; omega) (boxed w _ 67 |>.2.1 0)).mono ?_; rw [HVV.out]; rintro e w2 ⟨v2, rfl, hi2, hx2⟩; obtain ⟨A2, C2, rfl, _⟩ := id hi2; have hc2 := HC.out.ext (Ext.trans (Ext.al (Ext.refl w) _) hx2); have d0 := hc2.c0; have d4 := hc2.c4; have f4 := hc2.free 4; have hlt2 := hc2.lt; have HX := Lib.hid (Ext.trans (Ext.al (Ext.refl w) _) hx2); have HI := Lib.hid hi2; have HC2 := Lib.hid hc2; clear hc2 hx2 hi2 c11))
  have hff := HFF.out
  unfold Core.f at hff
  rw [← HZ.out] at hff
  obtain ⟨j, hj⟩ : ∃ j : Nat, j = Z.length - 1 - ((c.n - 1) / 3).toNat := ⟨_, rfl⟩
  have hjl : j < Z.length := by omega
  have hji : ((Z.length : Int) - 1 - (c.n - 1) / 3) = (j : Int) := by omega
  have hlq : decide ((Z.length : Int) ≤ (c.n - 1) / 3) = false := by simp; omega
  obtain ⟨cbk, co, hA, hcell⟩ := HI.out.at hjl
  subst hA
  obtain ⟨z, hz⟩ : ∃ z, z = Z.getD j 0 := ⟨_, rfl⟩
  rw [← hz] at hcell
  have HJ := Lib.hid hj
  have HZ2 := Lib.hid hz
  clear hj hz hff
  refine wp_fresh w2 (Ext.refl w2) (fun W3 hx3 => ?_)
  have hlt3 := Nat.lt_of_lt_of_le hlt2 hx3.size
  have hbl := World.block_lt_of_cell? w2 _ hcell
  have hbl3 := Nat.lt_of_lt_of_le hbl hx3.size
  have e4 := hx3.at d4
  have ecell := hx3.at hcell
  have HX3 := Lib.hid hx3
  clear d0 d4 f4 hcell hx3
  cases hle : decide (z ≤ c.view) with
  | true =>
    refine wp_region_T [] (.pure 0 (.pure 1 (.pure 2 (.pure 3 (.pure 4 (.pure 5 (.pure 6 (.pure 7 (.pure 8 (.pure 9 (.pure 10 (.pure 11 (.pure 13 (.pure 14 (.pure 15 (.take 12 (.take 16 (.pure 17 (.pure 18 .nil))))))))))))))))))) (by kernel_rfl) (by kernel_rfl) ?_
    iterate 5 (refine' wpT_pure rfl rfl (fun w' => ?_) ?_; rotate_left 1; (focus ((try go_simp); (try go_bits); (first | done | with_reducible rfl))); simp only [Act.put, List.setIfInBounds_toArray, List.set_cons_zero, List.set_cons_succ])
    iterate 10 (first | (refine' wpT_pure_on rfl rfl (fun w' => ?_) ?_; rotate_left 1; (focus ((try go_simp); (try go_bits); (first | done | with_reducible rfl))); simp only [Act.put, List.setIfInBounds_toArray, List.set_cons_zero, List.set_cons_succ]) | (refine wpT_pure_off rfl rfl ?_; simp only [Act.put, List.setIfInBounds_toArray, List.set_cons_zero, List.set_cons_succ]))
    iterate 2 (first | (refine' wpT_take_on_dddd rfl rfl (fun w' hc hl hsz => ?_) ?_; rotate_left 1; (focus ((try go_simp); (try go_bits); (first | done | with_reducible rfl))); simp only [Act.put, List.setIfInBounds_toArray, List.set_cons_zero, List.set_cons_succ]) | (refine' wpT_take_on_ddd rfl rfl (fun w' hc hl hsz => ?_) ?_; rotate_left 1; (focus ((try go_simp); (try go_bits); (first | done | with_reducible rfl))); simp only [Act.put, List.setIfInBounds_toArray, List.set_cons_zero, List.set_cons_succ]) | (refine' wpT_take_on_dd rfl rfl (fun w' hc hl hsz => ?_) ?_; rotate_left 1; (focus ((try go_simp); (try go_bits); (first | done | with_reducible rfl))); simp only [Act.put, List.setIfInBounds_toArray, List.set_cons_zero, List.set_cons_succ]) | (refine' wpT_take_on_d rfl rfl (fun w' hc hl hsz => ?_) ?_; rotate_left 1; (focus ((try go_simp); (try go_bits); (first | done | with_reducible rfl))); simp only [Act.put, List.setIfInBounds_toArray, List.set_cons_zero, List.set_cons_succ]) | (refine wpT_take_off rfl rfl ?_; simp only [Act.put, List.setIfInBounds_toArray, List.set_cons_zero, List.set_cons_succ]))
    first | (refine' wpT_pure_on rfl rfl (fun w' => ?_) ?_; rotate_left 1; (focus ((try go_simp); (try go_bits); (first | done | with_reducible rfl))); simp only [Act.put, List.setIfInBounds_toArray, List.set_cons_zero, List.set_cons_succ]) | (refine wpT_pure_off rfl rfl ?_; simp only [Act.put, List.setIfInBounds_toArray, List.set_cons_zero, List.set_cons_succ])
    (refine' wpT_pure rfl rfl (fun w' => ?_) ?_; rotate_left 1; (focus ((try go_simp); (try go_bits); (first | done | with_reducible rfl))); simp only [Act.put, List.setIfInBounds_toArray, List.set_cons_zero, List.set_cons_succ])
    refine wpT_nil ?_
    go_wp2
    go_ret
    have hF : c.turn = none := by
      unfold Core.turn
      rw [Core.turnTo_of (by have := HFF.out; omega) HZ.out HJ.out, ← HZ2.out, if_pos (by simpa using hle)]; rfl
    rw [hF]
    exact StepPost.no HC.out (Ext.trans (Ext.trans HX.out HX3.out) (Ext.refl W3).dr)
  | false =>
    have hF : c.turn = some { c with view := z } := by
      unfold Core.turn
      rw [Core.turnTo_of (by have := HFF.out; omega) HZ.out HJ.out, ← HZ2.out, if_neg (by simpa using hle)]; rfl
    have HF := Lib.hid hF
    clear hF
    refine wp_region_T [] (.pure 0 (.pure 1 (.pure 2 (.pure 3 (.pure 4 (.pure 5 (.pure 6 (.pure 7 (.pure 8 (.pure 9 (.pure 10 (.pure 11 (.pure 13 (.pure 14 (.pure 15 (.take 12 (.take 16 (.pure 17 (.pure 18 .nil))))))))))))))))))) (by kernel_rfl) (by kernel_rfl) ?_
    iterate 5 (refine' wpT_pure rfl rfl (fun w' => ?_) ?_; rotate_left 1; (focus ((try go_simp); (try go_bits); (first | done | with_reducible rfl))); simp only [Act.put, List.setIfInBounds_toArray, List.set_cons_zero, List.set_cons_succ])
    iterate 10 (first | (refine' wpT_pure_on rfl rfl (fun w' => ?_) ?_; rotate_left 1; (focus ((try go_simp); (try go_bits); (first | done | with_reducible rfl))); simp only [Act.put, List.setIfInBounds_toArray, List.set_cons_zero, List.set_cons_succ]) | (refine wpT_pure_off rfl rfl ?_; simp only [Act.put, List.setIfInBounds_toArray, List.set_cons_zero, List.set_cons_succ]))
    iterate 2 (first | (refine' wpT_take_on_dddd rfl rfl (fun w' hc hl hsz => ?_) ?_; rotate_left 1; (focus ((try go_simp); (try go_bits); (first | done | with_reducible rfl))); simp only [Act.put, List.setIfInBounds_toArray, List.set_cons_zero, List.set_cons_succ]) | (refine' wpT_take_on_ddd rfl rfl (fun w' hc hl hsz => ?_) ?_; rotate_left 1; (focus ((try go_simp); (try go_bits); (first | done | with_reducible rfl))); simp only [Act.put, List.setIfInBounds_toArray, List.set_cons_zero, List.set_cons_succ]) | (refine' wpT_take_on_dd rfl rfl (fun w' hc hl hsz => ?_) ?_; rotate_left 1; (focus ((try go_simp); (try go_bits); (first | done | with_reducible rfl))); simp only [Act.put, List.setIfInBounds_toArray, List.set_cons_zero, List.set_cons_succ]) | (refine' wpT_take_on_d rfl rfl (fun w' hc hl hsz => ?_) ?_; rotate_left 1; (focus ((try go_simp); (try go_bits); (first | done | with_reducible rfl))); simp only [Act.put, List.setIfInBounds_toArray, List.set_cons_zero, List.set_cons_succ]) | (refine wpT_take_off rfl rfl ?_; simp only [Act.put, List.setIfInBounds_toArray, List.set_cons_zero, List.set_cons_succ]))
    first | (refine' wpT_pure_on rfl rfl (fun w' => ?_) ?_; rotate_left 1; (focus ((try go_simp); (try go_bits); (first | done | with_reducible rfl))); simp only [Act.put, List.setIfInBounds_toArray, List.set_cons_zero, List.set_cons_succ]) | (refine wpT_pure_off rfl rfl ?_; simp only [Act.put, List.setIfInBounds_toArray, List.set_cons_zero, List.set_cons_succ])
    (refine' wpT_pure rfl rfl (fun w' => ?_) ?_; rotate_left 1; (focus ((try go_simp); (try go_bits); (first | done | with_reducible rfl))); simp only [Act.put, List.setIfInBounds_toArray, List.set_cons_zero, List.set_cons_succ])
    refine wpT_nil ?_
    have hc3 := HC2.out.ext HX3.out
    have f4 := hc3.free 4
    have HC3 := Lib.hid hc3
    clear hc3
    go_wp2
    go_ret
    have hc4 := HC3.out.ext (Ext.refl W3).dr
    have k1 := cells_store hc4.blk (.int .i64 z) (i := 4) (u := .int .i64 c.view) rfl (by intro x h; cases h)
    have hs := CoreAt.set_cells hc4 (c' := { c with view := z }) (L' := L) k1.1 k1.2 rfl rfl (hc4.wish.turn k1.2) (hc4.locked.turn k1.2) (hc4.value.turn k1.2) ⟨rfl, rfl, rfl, rfl, rfl, rfl⟩ ⟨rfl, rfl, rfl, rfl, rfl, rfl, rfl, rfl, rfl⟩
    rw [HF.out]
    exact ⟨L, rfl, hs.1, (Moves.of_ext (Ext.trans (Ext.trans HX.out HX3.out) (Ext.refl W3).dr)).trans hs.2⟩

theorem turn_calls (cb : Nat) (c : Core) (L : Lay) (w : World) (hc : CoreAt w cb c L) (hw : Wf c) : Calls Try.prog 65 #[.pointer (some ⟨cb, 0, none⟩)] w (StepPost cb L c c.turn w) := by
  by_cases hf : (c.views.length : Int) ≤ c.f
  · exact turn_few cb c L w hc hw hf
  · exact turn_many cb c L w hc hw hf
end Go.Proofs.Ytkpllkjionegeaa

/- Walks: all that a core can do (act). -/
namespace Go.Proofs.Ytkpllkjionegeaa
open Go Go.RowKit


/-- what acting leaves -/
def ActPost (cb : Nat) (L : Lay) (c' : Core) (w : World) (w' : World) : Prop := ∃ L', CoreAt w' cb c' L' ∧ Moves cb L L' w w'

theorem sep_moves {cb : Nat} {L L' : Lay} {w w' : World} {C : List Nat} (hlt : ∀ b ∈ C, b < w.heap.size) (hsep : ∀ b ∈ C, ¬ Own cb L b) (hm : Moves cb L L' w w') : ∀ b ∈ C, ¬ Own cb L' b := fun b hb ho => by
  rcases ho with h | h
  · exact hsep b hb (Or.inl h)
  · rcases hm.new b h with h | h
    · exact hsep b hb (Or.inr h)
    · have := hlt b hb; omega

/-- what stands between two rounds -/
structure Mid (cb : Nat) (c : Core) (L : Lay) (acc : Bytes → Bool) (C : List Nat) (k : FuncId) (caps : Array Value) (w : World) (c' : Core) (L' : Lay) (w' : World) : Prop where
  core : CoreAt w' cb c' L'
  moves : Moves cb L L' w w'
  wf : Wf c'
  acc : AccAt w' L'.acc acc C k caps
  sep : ∀ b ∈ C, ¬ Own cb L' b

theorem Mid.next {cb : Nat} {c : Core} {L : Lay} {acc : Bytes → Bool} {C : List Nat} {k : FuncId} {caps : Array Value} {w : World} {c' c'' : Core} {L' L'' : Lay} {w' w'' : World}
    (h : Mid cb c L acc C k caps w c' L' w') (hc : CoreAt w'' cb c'' L'') (hm : Moves cb L' L'' w' w'') (hw : Wf c'') : Mid cb c L acc C k caps w c'' L'' w'' :=
  ⟨hc, h.moves.trans hm, hw, by rw [hm.acc]; exact h.acc.turn hm.turn h.sep, sep_moves h.acc.lt h.sep hm⟩

theorem Mid.same {cb : Nat} {c : Core} {L : Lay} {acc : Bytes → Bool} {C : List Nat} {k : FuncId} {caps : Array Value} {w : World} {c' : Core} {L' L'' : Lay} {w' w'' : World} {c1 : Core}
    (h : Mid cb c L acc C k caps w c' L' w') (hc : CoreAt w'' cb c1 L'') (he : c1 = c') (hm : Moves cb L' L'' w' w'') : Mid cb c L acc C k caps w c' L'' w'' := by subst he; exact h.next hc hm h.wf

def ActEnds (cb : Nat) (L : Lay) (c' : Core) (w : World) (e : Ending) (w' : World) : Prop := (∃ v, e = .returned v) ∧ ActPost cb L c' w w'

theorem actN_none {acc : Bytes → Bool} {c : Core} (h : c.step acc = none) : ∀ k, Core.actN acc k c = c
  | 0 => rfl
  | k + 1 => by simp [Core.actN, h]

set_option maxRecDepth 100000 in
set_option maxHeartbeats 2000000 in
theorem act_calls (cb : Nat) (c : Core) (L : Lay) (acc : Bytes → Bool) (C : List Nat) (k : FuncId) (caps : Array Value) (w : World) (hc : CoreAt w cb c L) (hw : Wf c) (ha : AccAt w L.acc acc C k caps) (hsep : ∀ b ∈ C, ¬ Own cb L b) : Calls Try.prog 40 #[.pointer (some ⟨cb, 0, none⟩)] w (ActEnds cb L (c.act acc) w) := by
  have hmid : Mid cb c L acc C k caps w c L w := ⟨hc, Moves.refl cb L w, hw, ha, hsep⟩
  have hmu := c.mu_le
  have HM0 := Lib.hid hmid
  have HMU := Lib.hid hmu
  clear hc hw ha hsep hmid hmu
  go_enter Try.func40, Try.ntmps40
  go_wp2
  go_loopg [2] 32 (fun g _ wr => ∃ c' L', Mid cb c L acc C k caps w c' L' wr ∧ c'.mu < g ∧ Core.actN acc g c' = c.act acc)
  case atStart => exact ⟨c, L, HM0.out, by have := HMU.out; omega, rfl⟩
  case round =>
    obtain ⟨c', L', hM, hmu, hact⟩ := hrel
    have hlt := hM.core.lt
    have c15 := hM.core.c15
    have HM := Lib.hid hM
    have HMU' := Lib.hid hmu
    have HACT := Lib.hid hact
    clear hM hmu hact
    cases hd : c'.decided with
    | true =>
      rw [hd] at c15
      have hst : c'.step acc = none := by unfold Core.step; rw [hd]; rfl
      have HST := Lib.hid hst
      clear hst hd
      go_wp2
      go_end0
      exact ⟨⟨_, rfl⟩, L', by rw [← HACT.out, actN_none HST.out]; exact HM.out.core, HM.out.moves⟩
    | false =>
      rw [hd] at c15
      have HD := Lib.hid hd
      clear hd
      cases ho : c'.turn with
      | some c1 =>
        have HT := Lib.hid ho
        clear ho
        have HST := Lib.hid (show c'.step acc = some c1 from by unfold Core.step; rw [if_neg (by rw [HD.out]; simp)]; simp only [HT.out])
        go_wp2_with (first | (go_at_call 65; refine (turn_calls cb c' L' _ HM.out.core HM.out.wf).mono ?_; rw [HT.out]; rintro e w1 ⟨L1, rfl, hc1, hm1⟩))
        have hne : 0 < gk := by have := HMU'.out; omega
        obtain ⟨g', rfl⟩ : ∃ g', gk = g' + 1 := ⟨gk - 1, by omega⟩
        go_roundg g'
        case measure => omega
        case rel => exact ⟨c1, L1, HM.out.next hc1 hm1 (HM.out.wf.step HST.out), by have := HM.out.wf.step_mu HST.out; have := HMU'.out; omega, by have := HACT.out; simpa [Core.actN, HST.out] using this⟩
      | none =>
        have HT := Lib.hid ho
        clear ho
        cases ho : c'.propose with
        | some c1 =>
          have HP := Lib.hid ho
          clear ho
          have HST := Lib.hid (show c'.step acc = some c1 from by unfold Core.step; rw [if_neg (by rw [HD.out]; simp)]; simp only [HT.out, HP.out])
          go_wp2_with (first | (go_at_call 65; refine (turn_calls cb c' L' _ HM.out.core HM.out.wf).mono ?_; rw [HT.out]; rintro e w1 ⟨L1, rfl, hc1, hm1⟩; have H1 := Lib.hid (HM.out.same hc1 rfl hm1); clear hc1 hm1) | (go_at_call 66; refine (propose_calls cb c' L1 _ H1.out.core H1.out.wf).mono ?_; rw [HP.out]; rintro e w2 ⟨L2, rfl, hc2, hm2⟩))
          have hne : 0 < gk := by have := HMU'.out; omega
          obtain ⟨g', rfl⟩ : ∃ g', gk = g' + 1 := ⟨gk - 1, by omega⟩
          go_roundg g'
          case measure => omega
          case rel => exact ⟨c1, L2, H1.out.next hc2 hm2 (HM.out.wf.step HST.out), by have := HM.out.wf.step_mu HST.out; have := HMU'.out; omega, by have := HACT.out; simpa [Core.actN, HST.out] using this⟩
        | none =>
          have HP := Lib.hid ho
          clear ho
          cases ho : c'.prepare acc with
          | some c1 =>
            have HR := Lib.hid ho
            clear ho
            have HST := Lib.hid (show c'.step acc = some c1 from by unfold Core.step; rw [if_neg (by rw [HD.out]; simp)]; simp only [HT.out, HP.out, HR.out])
            go_wp2_with (first | (go_at_call 65; refine (turn_calls cb c' L' _ HM.out.core HM.out.wf).mono ?_; rw [HT.out]; rintro e w1 ⟨L1, rfl, hc1, hm1⟩; have H1 := Lib.hid (HM.out.same hc1 rfl hm1); clear hc1 hm1) | (go_at_call 66; refine (propose_calls cb c' L1 _ H1.out.core H1.out.wf).mono ?_; rw [HP.out]; rintro e w2 ⟨L2, rfl, hc2, hm2⟩; have H2 := Lib.hid (H1.out.same hc2 rfl hm2); clear hc2 hm2) | (go_at_call 67; refine (prepare_calls cb c' L2 acc C k caps _ H2.out.core H2.out.wf H2.out.acc).mono ?_; rw [HR.out]; rintro e w3 ⟨L3, rfl, hc3, hm3⟩))
            have hne : 0 < gk := by have := HMU'.out; omega
            obtain ⟨g', rfl⟩ : ∃ g', gk = g' + 1 := ⟨gk - 1, by omega⟩
            go_roundg g'
            case measure => omega
            case rel => exact ⟨c1, L3, H2.out.next hc3 hm3 (HM.out.wf.step HST.out), by have := HM.out.wf.step_mu HST.out; have := HMU'.out; omega, by have := HACT.out; simpa [Core.actN, HST.out] using this⟩
          | none =>
            have HR := Lib.hid ho
            clear ho
            cases ho : c'.commit with
            | some c1 =>
              have HCM := Lib.hid ho
              clear ho
              have HST := Lib.hid (show c'.step acc = some c1 from by unfold Core.step; rw [if_neg (by rw [HD.out]; simp)]; simp only [HT.out, HP.out, HR.out, HCM.out])
              go_wp2_with (first | (go_at_call 65; refine (turn_calls cb c' L' _ HM.out.core HM.out.wf).mono ?_; rw [HT.out]; rintro e w1 ⟨L1, rfl, hc1, hm1⟩; have H1 := Lib.hid (HM.out.same hc1 rfl hm1); clear hc1 hm1) | (go_at_call 66; refine (propose_calls cb c' L1 _ H1.out.core H1.out.wf).mono ?_; rw [HP.out]; rintro e w2 ⟨L2, rfl, hc2, hm2⟩; have H2 := Lib.hid (H1.out.same hc2 rfl hm2); clear hc2 hm2) | (go_at_call 67; refine (prepare_calls cb c' L2 acc C k caps _ H2.out.core H2.out.wf H2.out.acc).mono ?_; rw [HR.out]; rintro e w3 ⟨L3, rfl, hc3, hm3⟩; have H3 := Lib.hid (H2.out.same hc3 rfl hm3); clear hc3 hm3) | (go_at_call 68; refine (commit_calls cb c' L3 _ H3.out.core H3.out.wf).mono ?_; rw [HCM.out]; rintro e w4 ⟨L4, rfl, hc4, hm4⟩))
              have hne : 0 < gk := by have := HMU'.out; omega
              obtain ⟨g', rfl⟩ : ∃ g', gk = g' + 1 := ⟨gk - 1, by omega⟩
              go_roundg g'
              case measure => omega
              case rel => exact ⟨c1, L4, H3.out.next hc4 hm4 (HM.out.wf.step HST.out), by have := HM.out.wf.step_mu HST.out; have := HMU'.out; omega, by have := HACT.out; simpa [Core.actN, HST.out] using this⟩
            | none =>
              have HCM := Lib.hid ho
              clear ho
              cases ho : c'.decide with
              | some c1 =>
                have HDC := Lib.hid ho
                clear ho
                have HST := Lib.hid (show c'.step acc = some c1 from by unfold Core.step; rw [if_neg (by rw [HD.out]; simp)]; simp only [HT.out, HP.out, HR.out, HCM.out, HDC.out])
                go_wp2_with (first | (go_at_call 65; refine (turn_calls cb c' L' _ HM.out.core HM.out.wf).mono ?_; rw [HT.out]; rintro e w1 ⟨L1, rfl, hc1, hm1⟩; have H1 := Lib.hid (HM.out.same hc1 rfl hm1); clear hc1 hm1) | (go_at_call 66; refine (propose_calls cb c' L1 _ H1.out.core H1.out.wf).mono ?_; rw [HP.out]; rintro e w2 ⟨L2, rfl, hc2, hm2⟩; have H2 := Lib.hid (H1.out.same hc2 rfl hm2); clear hc2 hm2) | (go_at_call 67; refine (prepare_calls cb c' L2 acc C k caps _ H2.out.core H2.out.wf H2.out.acc).mono ?_; rw [HR.out]; rintro e w3 ⟨L3, rfl, hc3, hm3⟩; have H3 := Lib.hid (H2.out.same hc3 rfl hm3); clear hc3 hm3) | (go_at_call 68; refine (commit_calls cb c' L3 _ H3.out.core H3.out.wf).mono ?_; rw [HCM.out]; rintro e w4 ⟨L4, rfl, hc4, hm4⟩; have H4 := Lib.hid (H3.out.same hc4 rfl hm4); clear hc4 hm4) | (go_at_call 69; refine (decide_calls cb c' L4 _ H4.out.core H4.out.wf HD.out).mono ?_; rw [HDC.out]; rintro e w5 ⟨L5, rfl, hc5, hm5⟩))
                have hne : 0 < gk := by have := HMU'.out; omega
                obtain ⟨g', rfl⟩ : ∃ g', gk = g' + 1 := ⟨gk - 1, by omega⟩
                go_roundg g'
                case measure => omega
                case rel => exact ⟨c1, L5, H4.out.next hc5 hm5 (HM.out.wf.step HST.out), by have := HM.out.wf.step_mu HST.out; have := HMU'.out; omega, by have := HACT.out; simpa [Core.actN, HST.out] using this⟩
              | none =>
                have HDC := Lib.hid ho
                clear ho
                have HST := Lib.hid (show c'.step acc = none from by unfold Core.step; rw [if_neg (by rw [HD.out]; simp)]; simp only [HT.out, HP.out, HR.out, HCM.out, HDC.out])
                go_wp2_with (first | (go_at_call 65; refine (turn_calls cb c' L' _ HM.out.core HM.out.wf).mono ?_; rw [HT.out]; rintro e w1 ⟨L1, rfl, hc1, hm1⟩; have H1 := Lib.hid (HM.out.same hc1 rfl hm1); clear hc1 hm1) | (go_at_call 66; refine (propose_calls cb c' L1 _ H1.out.core H1.out.wf).mono ?_; rw [HP.out]; rintro e w2 ⟨L2, rfl, hc2, hm2⟩; have H2 := Lib.hid (H1.out.same hc2 rfl hm2); clear hc2 hm2) | (go_at_call 67; refine (prepare_calls cb c' L2 acc C k caps _ H2.out.core H2.out.wf H2.out.acc).mono ?_; rw [HR.out]; rintro e w3 ⟨L3, rfl, hc3, hm3⟩; have H3 := Lib.hid (H2.out.same hc3 rfl hm3); clear hc3 hm3) | (go_at_call 68; refine (commit_calls cb c' L3 _ H3.out.core H3.out.wf).mono ?_; rw [HCM.out]; rintro e w4 ⟨L4, rfl, hc4, hm4⟩; have H4 := Lib.hid (H3.out.same hc4 rfl hm4); clear hc4 hm4) | (go_at_call 69; refine (decide_calls cb c' L4 _ H4.out.core H4.out.wf HD.out).mono ?_; rw [HDC.out]; rintro e w5 ⟨L5, rfl, hc5, hm5⟩; have H5 := Lib.hid (H4.out.same hc5 rfl hm5); clear hc5 hm5))
                go_end0
                exact ⟨⟨_, rfl⟩, L5, by rw [← HACT.out, actN_none HST.out]; exact H5.out.core, H5.out.moves⟩
end Go.Proofs.Ytkpllkjionegeaa

/- Walks: what a vote's encoding says of it: the writer (num, text). -/
namespace Go.Proofs.Ytkpllkjionegeaa
open Go Go.RowKit

theorem wp_append {P : Program} {o : Oper} {a : Act} {w : World} {K : Act → World → Prop} {Q : Exit → Act → World → Prop} (s x : Operand) (t : TypeId)
    (ho : o.op = .call { callee := .builtin .append, args := #[s, x], argTypes := #[t, t] })
    (base : Nat) (e : TypeId) (i : TypeInfo) (z : Value) (size bytes : Nat) (ht : P.underlying t = some (.slice e)) (hi : P.info? e = some i) (hz : i.zero = some z)
    (hsize : i.size = size) (hby : i.bytes = bytes) (hzs : z.cells.size = size) (hsz : 0 < size)
    (v : Value) (n : Nat) (xs : List Value) (hs : a.eval s = v) (hown : w.ownsRow base e size v n xs)
    (ad : Addr) (m c : Nat) (news : List Value) (hx : a.eval x = .slice (some ad) m c) (hl : news.length = m * size) (hnews : ∀ j u, news[j]? = some u → w.cell? (ad.add j) = some u) (h1 : ∀ u ∈ news, u.oneCell' = true)
    (h63 : n + m ≤ maxLen) (hbytes : (n + m) * bytes ≤ 140737488355328) (hbase : base ≤ w.heap.size)
    (h : ∀ v' w', w'.ownsRow base e size v' (n + m) (xs ++ news) → w.grownBy w' v.ownBlock → (v' = .slice none 0 0 ↔ v = .slice none 0 0 ∧ m = 0) → (v'.ownBlock = v.ownBlock ∨ v'.ownBlock = some w.heap.size) → K (a.put o.dst v') w') :
    o.wp P a w K Q := by
  obtain ⟨v', w', hr, h2, h3, h4, h5⟩ := run_append_own_at (P := P) w base t o.type e i z size bytes ht hi hz hsize hby hzs hsz v n xs hown ad m c news hl hnews h1 h63 hbytes hbase
  unfold Oper.wp execOp
  simp only [ho, resolve, invoke, builtin, Sem.run_bind, Sem.run_pure, Result.andThen_ok, List.map_toArray, List.map_cons, List.map_nil, hs, hx, hr]
  exact h v' w' h2 h3 h4 h5

/-- a writer: so many bytes stand in it -/
def WrAt (B wb n : Nat) (bad : Bool) (w : World) : Prop :=
  ∃ v l, w.heap[wb]? = some (.cells #[v, .bool bad] 99 (0, 0)) ∧ w.ownsRow B 5 1 v l.length (byteCells l) ∧ l.length = n ∧ ∀ x, v ≠ .int .u8 x

theorem own_slice {w : World} {B e s n : Nat} {v : Value} {xs : List Value} (h : w.ownsRow B e s v n xs) : ∃ A C, v = .slice A n C := by
  rcases h.2 with ⟨rfl, rfl⟩ | ⟨g, cap, cur, rfl, _⟩
  · exact ⟨none, 0, rfl⟩
  · exact ⟨_, _, rfl⟩

/-- the writer's own block is no row's -/
theorem own_ne {w : World} {B n : Nat} {v : Value} {xs : List Value} (h : w.ownsRow B 5 1 v n xs) {wb : Nat} {cs : Array Value} {t : TypeId} (hb : w.heap[wb]? = some (.cells cs t (0, 0))) (ht : t ≠ 5) : some wb ≠ v.ownBlock := by
  rcases h.2 with ⟨rfl, _⟩ | ⟨g, cap, cur, rfl, _, hg, _⟩
  · simp [Value.ownBlock]
  · intro e
    have : wb = g := by simpa [Value.ownBlock] using e
    subst this
    rw [hb] at hg
    cases hg
    exact ht rfl

theorem own_beyond {w : World} {B n : Nat} {v : Value} {xs : List Value} (h : w.ownsRow B 5 1 v n xs) : ∀ k, v.ownBlock = some k → B ≤ k := by
  rcases h.2 with ⟨rfl, _⟩ | ⟨g, cap, cur, rfl, hB, _⟩
  · intro k hk; simp [Value.ownBlock] at hk
  · intro k hk
    have : g = k := by simpa [Value.ownBlock] using hk
    omega

theorem WrAt.lt {B wb n : Nat} {bad : Bool} {w : World} (h : WrAt B wb n bad w) : wb < w.heap.size := by
  obtain ⟨v, l, h1, _⟩ := h
  exact (Array.getElem?_eq_some_iff.1 h1).1

theorem own_ext {w w' : World} {B n : Nat} {v : Value} {xs : List Value} (h : w.ownsRow B 5 1 v n xs) (hx : ∀ k, v.ownBlock = some k → w'.heap[k]? = w.heap[k]?) : w'.ownsRow B 5 1 v n xs := by
  obtain ⟨h1, h2⟩ := h
  refine ⟨h1, ?_⟩
  rcases h2 with h | ⟨g, cap, cur, rfl, hB, hg, h3⟩
  · exact Or.inl h
  · exact Or.inr ⟨g, cap, cur, rfl, hB, (hx g rfl).trans hg, h3⟩

theorem byte_of (z : Int) : ∃ b : UInt8, ((b.toNat : Nat) : Int) = z % 256 := by
  refine ⟨UInt8.ofNat (z % 256).toNat, ?_⟩
  simp only [UInt8.toNat_ofNat']
  omega

/-- a byte has been appended and the row stored -/
theorem WrAt.more {B wb n : Nat} {bad : Bool} {w w1 : World} {A A' : Option Addr} {K K' : Nat} {l : Bytes} {z : Int} (hb : w.heap[wb]? = some (.cells #[.slice A l.length K, .bool bad] 99 (0, 0)))
    (ho : w.ownsRow B 5 1 (.slice A l.length K) l.length (byteCells l)) (hl : l.length = n) (hB : B ≤ wb) (o : Obj) (hown : w1.ownsRow B 5 1 (.slice A' (l.length + 1) K') (l.length + 1) (byteCells l ++ [.int .u8 (z % 256)]))
    (hg : (w.alloc o).drew.grownBy w1 (Value.ownBlock (.slice A l.length K))) (hb1 : w1.heap[wb]? = some (.cells #[.slice A l.length K, .bool bad] 99 (0, 0))) :
    WrAt B wb (n + 1) bad (w1.setCell ⟨wb, 0, none⟩ (.slice A' (l.length + 1) K')) ∧ Below B w (w1.setCell ⟨wb, 0, none⟩ (.slice A' (l.length + 1) K')) := by
  obtain ⟨b, hbz⟩ := byte_of z
  have hwb : wb < w.heap.size := (Array.getElem?_eq_some_iff.1 hb).1
  have e : byteCells l ++ [.int .u8 (z % 256)] = byteCells (l ++ [b]) := by rw [byteCells_append]; simp [byteCells, hbz]
  rw [e] at hown
  refine ⟨⟨_, l ++ [b], heap_setCell_same hb1 _, ?_, by simp [hl], fun x hx => by cases hx⟩, ?_⟩
  · have h2 := own_ext (w' := w1.setCell ⟨wb, 0, none⟩ (.slice A' (l.length + 1) K')) hown (fun k hk => Below.heap_setCell _ _ _ _ (fun e => own_ne hown hb1 (by decide) (by rw [hk, e])))
    simpa using h2
  · have h1 : Below B w (w.alloc o).drew := ((Below.refl B w).alloc (by omega) _).drew
    exact (h1.trans ((Below.refl B _).grown hg (by have := h1.size; omega) (fun k hk => own_beyond ho k hk))).setCell (p := ⟨wb, 0, none⟩) hB _



set_option maxRecDepth 100000 in
set_option maxHeartbeats 4000000 in
theorem num_calls (B wb n : Nat) (bad : Bool) (x least most : Int) (size : Nat) (w : World) (h : WrAt B wb n bad w) (hB : B ≤ wb) (hs : size ≤ 4) (hn : n ≤ 10000) (hx : -9223372036854775808 ≤ x ∧ x ≤ 9223372036854775807) :
    Calls Try.prog 61 #[.pointer (some ⟨wb, 0, none⟩), .int .i64 x, .int .i64 least, .int .i64 most, .int .i64 size] w
      (fun e w' => (∃ v, e = .returned v) ∧ WrAt B wb (n + size) (bad || decide (x < least) || decide (most < x)) w' ∧ Below B w w') := by
  obtain ⟨v, l, hb, hown, hl, hu8⟩ := id h
  have hlt := h.lt
  have c0 : w.cell? ⟨wb, 0, none⟩ = some v := by simp [World.cell?, hb]
  have c1 : w.cell? ⟨wb, 1, none⟩ = some (.bool bad) := by simp [World.cell?, hb]
  have f1 : w.frozen? ⟨wb, 1, none⟩ = false := by simp [World.frozen?, hb]
  have HB := Lib.hid hb
  have HO := Lib.hid hown
  have HL := Lib.hid hl
  have HU := Lib.hid hu8
  have HX := Lib.hid hx
  clear h hb hown hl hu8 hx
  obtain ⟨i0, hi0, hz0, hz1, hz2⟩ := info_parts info5
  have HI := Lib.hid hi0
  clear hi0
  go_enter Try.func61, Try.ntmps61
  obtain ⟨b1, hb1⟩ : ∃ b1, b1 = decide (x < least) := ⟨_, rfl⟩
  obtain ⟨b2, hb2⟩ : ∃ b2, b2 = decide (most < x) := ⟨_, rfl⟩
  rw [← hb1, ← hb2]
  replace hb1 := hb1.symm
  replace hb2 := hb2.symm
  have HR := Lib.hid (And.intro hb1 hb2)
  have hst : ∀ b : Bool, WrAt B wb n b (w.setCell ⟨wb, 1, none⟩ (.bool b)) ∧ Below B w (w.setCell ⟨wb, 1, none⟩ (.bool b)) := fun b =>
    ⟨⟨v, l, heap_setCell_same HB.out (.bool b), own_ext HO.out (fun k hk => Below.heap_setCell _ _ _ _ (fun e => own_ne HO.out HB.out (by decide) (by rw [hk, e]))), HL.out, HU.out⟩, (Below.refl B w).setCell (p := ⟨wb, 1, none⟩) hB _⟩
  have HST := Lib.hid hst
  clear hst c0
  go_wp2
  · obtain ⟨bf, hbf⟩ : ∃ bf, bf = (bad || b1 || b2) := ⟨_, rfl⟩
    have HBF := Lib.hid hbf
    clear hbf
    go_loopw [10] (fun i wr => ∃ j m : Nat, i = .int .i64 ((j : Int) - 1) ∧ j + m = size ∧ WrAt B wb (n + m) bf wr ∧ Below B w wr) (fun i _ => (intOf i + 1).toNat)
    case atStart => exact ⟨size, 0, rfl, rfl, by
      rw [HBF.out]
      first
      | (have e : (bad || b1 || b2) = true := by simp [*]
         rw [e]; exact (HST.out true).1)
      | (have e : (bad || b1 || b2) = b2 := by simp [*]
         rw [e]; exact (HST.out b2).1), (HST.out _).2⟩
    case round =>
      obtain ⟨j, m, rfl, hjm, hW, hBW⟩ := hrel
      cases j with
      | zero =>
        go_wp2
        go_end0
        have hm : m = size := by omega
        subst hm
        exact ⟨⟨_, rfl⟩, by rw [← HBF.out]; exact hW, hBW⟩
      | succ i =>
        have hi : i = 0 ∨ i = 1 ∨ i = 2 ∨ i = 3 := by omega
        obtain ⟨v5, l5, hb5, ho5, hl5, hu5⟩ := id hW
        obtain ⟨A5, K5, rfl⟩ := own_slice ho5
        have hlt5 := hW.lt
        have d0 : wr.cell? ⟨wb, 0, none⟩ = some (.slice A5 l5.length K5) := by simp [World.cell?, hb5]
        have g0 : wr.frozen? ⟨wb, 0, none⟩ = false := by simp [World.frozen?, hb5]
        have HW5 := Lib.hid hW
        have HBW := Lib.hid hBW
        have HB5 := Lib.hid hb5
        have HO5 := Lib.hid ho5
        have HL5 := Lib.hid hl5
        clear hW hBW hb5 ho5 hl5 hu5
        rcases hi with rfl | rfl | rfl | rfl
        · have e1 : (((0 + 1 : Nat) : Int) - 1) = 0 := by omega
          rw [e1]
          go_wp2
          refine wp_region_T [12, 15] (.pure 0 (.pure 1 (.pure 2 (.pure 3 (.pure 5 (.pure 6 (.pure 7 (.pure 8 (.pure 9 (.pure 10 (.take 4 (.one 11 (.one 12 (.pure 13 (.pure 14 (.one 15 .nil)))))))))))))))) (by kernel_rfl) (by kernel_rfl) ?_
          iterate 10 (refine' wpT_pure rfl rfl (fun w' => ?_) ?_; rotate_left 1; (focus ((try go_simp); (try go_bits); (first | done | with_reducible rfl))); simp only [Act.put, List.setIfInBounds_toArray, List.set_cons_zero, List.set_cons_succ])
          first | (refine' wpT_take_dddd rfl rfl (fun w' hc hl hsz => ?_) ?_; rotate_left 1; (focus ((try go_simp); (try go_bits); (first | done | with_reducible rfl))); simp only [Act.put, List.setIfInBounds_toArray, List.set_cons_zero, List.set_cons_succ]) | (refine' wpT_take_ddd rfl rfl (fun w' hc hl hsz => ?_) ?_; rotate_left 1; (focus ((try go_simp); (try go_bits); (first | done | with_reducible rfl))); simp only [Act.put, List.setIfInBounds_toArray, List.set_cons_zero, List.set_cons_succ]) | (refine' wpT_take_dd rfl rfl (fun w' hc hl hsz => ?_) ?_; rotate_left 1; (focus ((try go_simp); (try go_bits); (first | done | with_reducible rfl))); simp only [Act.put, List.setIfInBounds_toArray, List.set_cons_zero, List.set_cons_succ]) | (refine' wpT_take_d rfl rfl (fun w' hc hl hsz => ?_) ?_; rotate_left 1; (focus ((try go_simp); (try go_bits); (first | done | with_reducible rfl))); simp only [Act.put, List.setIfInBounds_toArray, List.set_cons_zero, List.set_cons_succ])
          refine wpT_one rfl rfl (fun K hK => ?_)
          go_wp2
          refine hK _ _ (Ext.al (Ext.refl _) _) ?_
          clear hK K
          refine wpT_writer rfl rfl (by decide) (fun K hK => ?_)
          refine wp_append _ _ 26 rfl B 5 i0 (.int .u8 0) 1 1 Try.underlying26 HI.out hz0 hz1 hz2 rfl (by decide) _ _ _ rfl (HO5.out.alloc _) ⟨wr.heap.size, 0, none⟩ 1 1 [_] rfl rfl (cell_one_new wr _ 5) (by simp [Value.oneCell']) (by have := HL5.out; unfold maxLen; omega) (by have := HL5.out; omega) (by show B ≤ (wr.alloc _).heap.size; simp; omega) ?_
          intro v' w1 hown1 hgrow1 _ hat
          obtain ⟨A6, K6, rfl⟩ := own_slice hown1
          have hb6 : w1.heap[wb]? = _ := (hgrow1.block wb (by show wb < (wr.alloc _).heap.size; simp; omega) (own_ne HO5.out HB5.out (by decide))).trans ((Below.heap_alloc _ _ _ hlt5).trans HB5.out)
          have k0 : w1.cell? ⟨wb, 0, none⟩ = some (.slice A5 l5.length K5) := by simp [World.cell?, hb6]
          have kf : w1.frozen? ⟨wb, 0, none⟩ = false := by simp [World.frozen?, hb6]
          have hlt6 : wb < w1.heap.size := (Array.getElem?_eq_some_iff.1 hb6).1
          have HM := Lib.hid (WrAt.more HB5.out HO5.out HL5.out hB _ hown1 hgrow1 hb6)
          clear hown1 hgrow1 hat hb6
          first | (refine hK _ _ ?_; clear hK K) | skip
          iterate 2 (refine' wpT_pure rfl rfl (fun w' => ?_) ?_; rotate_left 1; (focus ((try go_simp); (try go_bits); (first | done | with_reducible rfl))); simp only [Act.put, List.setIfInBounds_toArray, List.set_cons_zero, List.set_cons_succ])
          refine wpT_writer rfl rfl (by decide) (fun K hK => ?_)
          go_wp2
          first | (refine hK _ _ ?_; clear hK K) | skip
          refine wpT_nil ?_
          go_wp2
          exact ⟨⟨0, m + 1, rfl, by omega, HM.out.1, HBW.out.trans HM.out.2⟩, by decide⟩
        · have e1 : (((1 + 1 : Nat) : Int) - 1) = 1 := by omega
          rw [e1]
          go_wp2
          refine wp_region_T [12, 15] (.pure 0 (.pure 1 (.pure 2 (.pure 3 (.pure 5 (.pure 6 (.pure 7 (.pure 8 (.pure 9 (.pure 10 (.take 4 (.one 11 (.one 12 (.pure 13 (.pure 14 (.one 15 .nil)))))))))))))))) (by kernel_rfl) (by kernel_rfl) ?_
          iterate 10 (refine' wpT_pure rfl rfl (fun w' => ?_) ?_; rotate_left 1; (focus ((try go_simp); (try go_bits); (first | done | with_reducible rfl))); simp only [Act.put, List.setIfInBounds_toArray, List.set_cons_zero, List.set_cons_succ])
          first | (refine' wpT_take_dddd rfl rfl (fun w' hc hl hsz => ?_) ?_; rotate_left 1; (focus ((try go_simp); (try go_bits); (first | done | with_reducible rfl))); simp only [Act.put, List.setIfInBounds_toArray, List.set_cons_zero, List.set_cons_succ]) | (refine' wpT_take_ddd rfl rfl (fun w' hc hl hsz => ?_) ?_; rotate_left 1; (focus ((try go_simp); (try go_bits); (first | done | with_reducible rfl))); simp only [Act.put, List.setIfInBounds_toArray, List.set_cons_zero, List.set_cons_succ]) | (refine' wpT_take_dd rfl rfl (fun w' hc hl hsz => ?_) ?_; rotate_left 1; (focus ((try go_simp); (try go_bits); (first | done | with_reducible rfl))); simp only [Act.put, List.setIfInBounds_toArray, List.set_cons_zero, List.set_cons_succ]) | (refine' wpT_take_d rfl rfl (fun w' hc hl hsz => ?_) ?_; rotate_left 1; (focus ((try go_simp); (try go_bits); (first | done | with_reducible rfl))); simp only [Act.put, List.setIfInBounds_toArray, List.set_cons_zero, List.set_cons_succ])
          refine wpT_one rfl rfl (fun K hK => ?_)
          go_wp2
          refine hK _ _ (Ext.al (Ext.refl _) _) ?_
          clear hK K
          refine wpT_writer rfl rfl (by decide) (fun K hK => ?_)
          refine wp_append _ _ 26 rfl B 5 i0 (.int .u8 0) 1 1 Try.underlying26 HI.out hz0 hz1 hz2 rfl (by decide) _ _ _ rfl (HO5.out.alloc _) ⟨wr.heap.size, 0, none⟩ 1 1 [_] rfl rfl (cell_one_new wr _ 5) (by simp [Value.oneCell']) (by have := HL5.out; unfold maxLen; omega) (by have := HL5.out; omega) (by show B ≤ (wr.alloc _).heap.size; simp; omega) ?_
          intro v' w1 hown1 hgrow1 _ hat
          obtain ⟨A6, K6, rfl⟩ := own_slice hown1
          have hb6 : w1.heap[wb]? = _ := (hgrow1.block wb (by show wb < (wr.alloc _).heap.size; simp; omega) (own_ne HO5.out HB5.out (by decide))).trans ((Below.heap_alloc _ _ _ hlt5).trans HB5.out)
          have k0 : w1.cell? ⟨wb, 0, none⟩ = some (.slice A5 l5.length K5) := by simp [World.cell?, hb6]
          have kf : w1.frozen? ⟨wb, 0, none⟩ = false := by simp [World.frozen?, hb6]
          have hlt6 : wb < w1.heap.size := (Array.getElem?_eq_some_iff.1 hb6).1
          have HM := Lib.hid (WrAt.more HB5.out HO5.out HL5.out hB _ hown1 hgrow1 hb6)
          clear hown1 hgrow1 hat hb6
          first | (refine hK _ _ ?_; clear hK K) | skip
          iterate 2 (refine' wpT_pure rfl rfl (fun w' => ?_) ?_; rotate_left 1; (focus ((try go_simp); (try go_bits); (first | done | with_reducible rfl))); simp only [Act.put, List.setIfInBounds_toArray, List.set_cons_zero, List.set_cons_succ])
          refine wpT_writer rfl rfl (by decide) (fun K hK => ?_)
          go_wp2
          first | (refine hK _ _ ?_; clear hK K) | skip
          refine wpT_nil ?_
          go_wp2
          exact ⟨⟨1, m + 1, rfl, by omega, HM.out.1, HBW.out.trans HM.out.2⟩, by decide⟩
        · have e1 : (((2 + 1 : Nat) : Int) - 1) = 2 := by omega
          rw [e1]
          go_wp2
          refine wp_region_T [12, 15] (.pure 0 (.pure 1 (.pure 2 (.pure 3 (.pure 5 (.pure 6 (.pure 7 (.pure 8 (.pure 9 (.pure 10 (.take 4 (.one 11 (.one 12 (.pure 13 (.pure 14 (.one 15 .nil)))))))))))))))) (by kernel_rfl) (by kernel_rfl) ?_
          iterate 10 (refine' wpT_pure rfl rfl (fun w' => ?_) ?_; rotate_left 1; (focus ((try go_simp); (try go_bits); (first | done | with_reducible rfl))); simp only [Act.put, List.setIfInBounds_toArray, List.set_cons_zero, List.set_cons_succ])
          first | (refine' wpT_take_dddd rfl rfl (fun w' hc hl hsz => ?_) ?_; rotate_left 1; (focus ((try go_simp); (try go_bits); (first | done | with_reducible rfl))); simp only [Act.put, List.setIfInBounds_toArray, List.set_cons_zero, List.set_cons_succ]) | (refine' wpT_take_ddd rfl rfl (fun w' hc hl hsz => ?_) ?_; rotate_left 1; (focus ((try go_simp); (try go_bits); (first | done | with_reducible rfl))); simp only [Act.put, List.setIfInBounds_toArray, List.set_cons_zero, List.set_cons_succ]) | (refine' wpT_take_dd rfl rfl (fun w' hc hl hsz => ?_) ?_; rotate_left 1; (focus ((try go_simp); (try go_bits); (first | done | with_reducible rfl))); simp only [Act.put, List.setIfInBounds_toArray, List.set_cons_zero, List.set_cons_succ]) | (refine' wpT_take_d rfl rfl (fun w' hc hl hsz => ?_) ?_; rotate_left 1; (focus ((try go_simp); (try go_bits); (first | done | with_reducible rfl))); simp only [Act.put, List.setIfInBounds_toArray, List.set_cons_zero, List.set_cons_succ])
          refine wpT_one rfl rfl (fun K hK => ?_)
          go_wp2
          refine hK _ _ (Ext.al (Ext.refl _) _) ?_
          clear hK K
          refine wpT_writer rfl rfl (by decide) (fun K hK => ?_)
          refine wp_append _ _ 26 rfl B 5 i0 (.int .u8 0) 1 1 Try.underlying26 HI.out hz0 hz1 hz2 rfl (by decide) _ _ _ rfl (HO5.out.alloc _) ⟨wr.heap.size, 0, none⟩ 1 1 [_] rfl rfl (cell_one_new wr _ 5) (by simp [Value.oneCell']) (by have := HL5.out; unfold maxLen; omega) (by have := HL5.out; omega) (by show B ≤ (wr.alloc _).heap.size; simp; omega) ?_
          intro v' w1 hown1 hgrow1 _ hat
          obtain ⟨A6, K6, rfl⟩ := own_slice hown1
          have hb6 : w1.heap[wb]? = _ := (hgrow1.block wb (by show wb < (wr.alloc _).heap.size; simp; omega) (own_ne HO5.out HB5.out (by decide))).trans ((Below.heap_alloc _ _ _ hlt5).trans HB5.out)
          have k0 : w1.cell? ⟨wb, 0, none⟩ = some (.slice A5 l5.length K5) := by simp [World.cell?, hb6]
          have kf : w1.frozen? ⟨wb, 0, none⟩ = false := by simp [World.frozen?, hb6]
          have hlt6 : wb < w1.heap.size := (Array.getElem?_eq_some_iff.1 hb6).1
          have HM := Lib.hid (WrAt.more HB5.out HO5.out HL5.out hB _ hown1 hgrow1 hb6)
          clear hown1 hgrow1 hat hb6
          first | (refine hK _ _ ?_; clear hK K) | skip
          iterate 2 (refine' wpT_pure rfl rfl (fun w' => ?_) ?_; rotate_left 1; (focus ((try go_simp); (try go_bits); (first | done | with_reducible rfl))); simp only [Act.put, List.setIfInBounds_toArray, List.set_cons_zero, List.set_cons_succ])
          refine wpT_writer rfl rfl (by decide) (fun K hK => ?_)
          go_wp2
          first | (refine hK _ _ ?_; clear hK K) | skip
          refine wpT_nil ?_
          go_wp2
          exact ⟨⟨2, m + 1, rfl, by omega, HM.out.1, HBW.out.trans HM.out.2⟩, by decide⟩
        · have e1 : (((3 + 1 : Nat) : Int) - 1) = 3 := by omega
          rw [e1]
          go_wp2
          refine wp_region_T [12, 15] (.pure 0 (.pure 1 (.pure 2 (.pure 3 (.pure 5 (.pure 6 (.pure 7 (.pure 8 (.pure 9 (.pure 10 (.take 4 (.one 11 (.one 12 (.pure 13 (.pure 14 (.one 15 .nil)))))))))))))))) (by kernel_rfl) (by kernel_rfl) ?_
          iterate 10 (refine' wpT_pure rfl rfl (fun w' => ?_) ?_; rotate_left 1; (focus ((try go_simp); (try go_bits); (first | done | with_reducible rfl))); simp only [Act.put, List.setIfInBounds_toArray, List.set_cons_zero, List.set_cons_succ])
          first | (refine' wpT_take_dddd rfl rfl (fun w' hc hl hsz => ?_) ?_; rotate_left 1; (focus ((try go_simp); (try go_bits); (first | done | with_reducible rfl))); simp only [Act.put, List.setIfInBounds_toArray, List.set_cons_zero, List.set_cons_succ]) | (refine' wpT_take_ddd rfl rfl (fun w' hc hl hsz => ?_) ?_; rotate_left 1; (focus ((try go_simp); (try go_bits); (first | done | with_reducible rfl))); simp only [Act.put, List.setIfInBounds_toArray, List.set_cons_zero, List.set_cons_succ]) | (refine' wpT_take_dd rfl rfl (fun w' hc hl hsz => ?_) ?_; rotate_left 1; (focus ((try go_simp); (try go_bits); (first | done | with_reducible rfl))); simp only [Act.put, List.setIfInBounds_toArray, List.set_cons_zero, List.set_cons_succ]) | (refine' wpT_take_d rfl rfl (fun w' hc hl hsz => ?_) ?_; rotate_left 1; (focus ((try go_simp); (try go_bits); (first | done | with_reducible rfl))); simp only [Act.put, List.setIfInBounds_toArray, List.set_cons_zero, List.set_cons_succ])
          refine wpT_one rfl rfl (fun K hK => ?_)
          go_wp2
          refine hK _ _ (Ext.al (Ext.refl _) _) ?_
          clear hK K
          refine wpT_writer rfl rfl (by decide) (fun K hK => ?_)
          refine wp_append _ _ 26 rfl B 5 i0 (.int .u8 0) 1 1 Try.underlying26 HI.out hz0 hz1 hz2 rfl (by decide) _ _ _ rfl (HO5.out.alloc _) ⟨wr.heap.size, 0, none⟩ 1 1 [_] rfl rfl (cell_one_new wr _ 5) (by simp [Value.oneCell']) (by have := HL5.out; unfold maxLen; omega) (by have := HL5.out; omega) (by show B ≤ (wr.alloc _).heap.size; simp; omega) ?_
          intro v' w1 hown1 hgrow1 _ hat
          obtain ⟨A6, K6, rfl⟩ := own_slice hown1
          have hb6 : w1.heap[wb]? = _ := (hgrow1.block wb (by show wb < (wr.alloc _).heap.size; simp; omega) (own_ne HO5.out HB5.out (by decide))).trans ((Below.heap_alloc _ _ _ hlt5).trans HB5.out)
          have k0 : w1.cell? ⟨wb, 0, none⟩ = some (.slice A5 l5.length K5) := by simp [World.cell?, hb6]
          have kf : w1.frozen? ⟨wb, 0, none⟩ = false := by simp [World.frozen?, hb6]
          have hlt6 : wb < w1.heap.size := (Array.getElem?_eq_some_iff.1 hb6).1
          have HM := Lib.hid (WrAt.more HB5.out HO5.out HL5.out hB _ hown1 hgrow1 hb6)
          clear hown1 hgrow1 hat hb6
          first | (refine hK _ _ ?_; clear hK K) | skip
          iterate 2 (refine' wpT_pure rfl rfl (fun w' => ?_) ?_; rotate_left 1; (focus ((try go_simp); (try go_bits); (first | done | with_reducible rfl))); simp only [Act.put, List.setIfInBounds_toArray, List.set_cons_zero, List.set_cons_succ])
          refine wpT_writer rfl rfl (by decide) (fun K hK => ?_)
          go_wp2
          first | (refine hK _ _ ?_; clear hK K) | skip
          refine wpT_nil ?_
          go_wp2
          exact ⟨⟨3, m + 1, rfl, by omega, HM.out.1, HBW.out.trans HM.out.2⟩, by decide⟩
  · obtain ⟨bf, hbf⟩ : ∃ bf, bf = (bad || b1 || b2) := ⟨_, rfl⟩
    have HBF := Lib.hid hbf
    clear hbf
    go_loopw [10] (fun i wr => ∃ j m : Nat, i = .int .i64 ((j : Int) - 1) ∧ j + m = size ∧ WrAt B wb (n + m) bf wr ∧ Below B w wr) (fun i _ => (intOf i + 1).toNat)
    case atStart => exact ⟨size, 0, rfl, rfl, by
      rw [HBF.out]
      first
      | (have e : (bad || b1 || b2) = true := by simp [*]
         rw [e]; exact (HST.out true).1)
      | (have e : (bad || b1 || b2) = b2 := by simp [*]
         rw [e]; exact (HST.out b2).1), (HST.out _).2⟩
    case round =>
      obtain ⟨j, m, rfl, hjm, hW, hBW⟩ := hrel
      cases j with
      | zero =>
        go_wp2
        go_end0
        have hm : m = size := by omega
        subst hm
        exact ⟨⟨_, rfl⟩, by rw [← HBF.out]; exact hW, hBW⟩
      | succ i =>
        have hi : i = 0 ∨ i = 1 ∨ i = 2 ∨ i = 3 := by omega
        obtain ⟨v5, l5, hb5, ho5, hl5, hu5⟩ := id hW
        obtain ⟨A5, K5, rfl⟩ := own_slice ho5
        have hlt5 := hW.lt
        have d0 : wr.cell? ⟨wb, 0, none⟩ = some (.slice A5 l5.length K5) := by simp [World.cell?, hb5]
        have g0 : wr.frozen? ⟨wb, 0, none⟩ = false := by simp [World.frozen?, hb5]
        have HW5 := Lib.hid hW
        have HBW := Lib.hid hBW
        have HB5 := Lib.hid hb5
        have HO5 := Lib.hid ho5
        have HL5 := Lib.hid hl5
        clear hW hBW hb5 ho5 hl5 hu5
        rcases hi with rfl | rfl | rfl | rfl
        · have e1 : (((0 + 1 : Nat) : Int) - 1) = 0 := by omega
          rw [e1]
          go_wp2
          refine wp_region_T [12, 15] (.pure 0 (.pure 1 (.pure 2 (.pure 3 (.pure 5 (.pure 6 (.pure 7 (.pure 8 (.pure 9 (.pure 10 (.take 4 (.one 11 (.one 12 (.pure 13 (.pure 14 (.one 15 .nil)))))))))))))))) (by kernel_rfl) (by kernel_rfl) ?_
          iterate 10 (refine' wpT_pure rfl rfl (fun w' => ?_) ?_; rotate_left 1; (focus ((try go_simp); (try go_bits); (first | done | with_reducible rfl))); simp only [Act.put, List.setIfInBounds_toArray, List.set_cons_zero, List.set_cons_succ])
          first | (refine' wpT_take_dddd rfl rfl (fun w' hc hl hsz => ?_) ?_; rotate_left 1; (focus ((try go_simp); (try go_bits); (first | done | with_reducible rfl))); simp only [Act.put, List.setIfInBounds_toArray, List.set_cons_zero, List.set_cons_succ]) | (refine' wpT_take_ddd rfl rfl (fun w' hc hl hsz => ?_) ?_; rotate_left 1; (focus ((try go_simp); (try go_bits); (first | done | with_reducible rfl))); simp only [Act.put, List.setIfInBounds_toArray, List.set_cons_zero, List.set_cons_succ]) | (refine' wpT_take_dd rfl rfl (fun w' hc hl hsz => ?_) ?_; rotate_left 1; (focus ((try go_simp); (try go_bits); (first | done | with_reducible rfl))); simp only [Act.put, List.setIfInBounds_toArray, List.set_cons_zero, List.set_cons_succ]) | (refine' wpT_take_d rfl rfl (fun w' hc hl hsz => ?_) ?_; rotate_left 1; (focus ((try go_simp); (try go_bits); (first | done | with_reducible rfl))); simp only [Act.put, List.setIfInBounds_toArray, List.set_cons_zero, List.set_cons_succ])
          refine wpT_one rfl rfl (fun K hK => ?_)
          go_wp2
          refine hK _ _ (Ext.al (Ext.refl _) _) ?_
          clear hK K
          refine wpT_writer rfl rfl (by decide) (fun K hK => ?_)
          refine wp_append _ _ 26 rfl B 5 i0 (.int .u8 0) 1 1 Try.underlying26 HI.out hz0 hz1 hz2 rfl (by decide) _ _ _ rfl (HO5.out.alloc _) ⟨wr.heap.size, 0, none⟩ 1 1 [_] rfl rfl (cell_one_new wr _ 5) (by simp [Value.oneCell']) (by have := HL5.out; unfold maxLen; omega) (by have := HL5.out; omega) (by show B ≤ (wr.alloc _).heap.size; simp; omega) ?_
          intro v' w1 hown1 hgrow1 _ hat
          obtain ⟨A6, K6, rfl⟩ := own_slice hown1
          have hb6 : w1.heap[wb]? = _ := (hgrow1.block wb (by show wb < (wr.alloc _).heap.size; simp; omega) (own_ne HO5.out HB5.out (by decide))).trans ((Below.heap_alloc _ _ _ hlt5).trans HB5.out)
          have k0 : w1.cell? ⟨wb, 0, none⟩ = some (.slice A5 l5.length K5) := by simp [World.cell?, hb6]
          have kf : w1.frozen? ⟨wb, 0, none⟩ = false := by simp [World.frozen?, hb6]
          have hlt6 : wb < w1.heap.size := (Array.getElem?_eq_some_iff.1 hb6).1
          have HM := Lib.hid (WrAt.more HB5.out HO5.out HL5.out hB _ hown1 hgrow1 hb6)
          clear hown1 hgrow1 hat hb6
          first | (refine hK _ _ ?_; clear hK K) | skip
          iterate 2 (refine' wpT_pure rfl rfl (fun w' => ?_) ?_; rotate_left 1; (focus ((try go_simp); (try go_bits); (first | done | with_reducible rfl))); simp only [Act.put, List.setIfInBounds_toArray, List.set_cons_zero, List.set_cons_succ])
          refine wpT_writer rfl rfl (by decide) (fun K hK => ?_)
          go_wp2
          first | (refine hK _ _ ?_; clear hK K) | skip
          refine wpT_nil ?_
          go_wp2
          exact ⟨⟨0, m + 1, rfl, by omega, HM.out.1, HBW.out.trans HM.out.2⟩, by decide⟩
        · have e1 : (((1 + 1 : Nat) : Int) - 1) = 1 := by omega
          rw [e1]
          go_wp2
          refine wp_region_T [12, 15] (.pure 0 (.pure 1 (.pure 2 (.pure 3 (.pure 5 (.pure 6 (.pure 7 (.pure 8 (.pure 9 (.pure 10 (.take 4 (.one 11 (.one 12 (.pure 13 (.pure 14 (.one 15 .nil)))))))))))))))) (by kernel_rfl) (by kernel_rfl) ?_
          iterate 10 (refine' wpT_pure rfl rfl (fun w' => ?_) ?_; rotate_left 1; (focus ((try go_simp); (try go_bits); (first | done | with_reducible rfl))); simp only [Act.put, List.setIfInBounds_toArray, List.set_cons_zero, List.set_cons_succ])
          first | (refine' wpT_take_dddd rfl rfl (fun w' hc hl hsz => ?_) ?_; rotate_left 1; (focus ((try go_simp); (try go_bits); (first | done | with_reducible rfl))); simp only [Act.put, List.setIfInBounds_toArray, List.set_cons_zero, List.set_cons_succ]) | (refine' wpT_take_ddd rfl rfl (fun w' hc hl hsz => ?_) ?_; rotate_left 1; (focus ((try go_simp); (try go_bits); (first | done | with_reducible rfl))); simp only [Act.put, List.setIfInBounds_toArray, List.set_cons_zero, List.set_cons_succ]) | (refine' wpT_take_dd rfl rfl (fun w' hc hl hsz => ?_) ?_; rotate_left 1; (focus ((try go_simp); (try go_bits); (first | done | with_reducible rfl))); simp only [Act.put, List.setIfInBounds_toArray, List.set_cons_zero, List.set_cons_succ]) | (refine' wpT_take_d rfl rfl (fun w' hc hl hsz => ?_) ?_; rotate_left 1; (focus ((try go_simp); (try go_bits); (first | done | with_reducible rfl))); simp only [Act.put, List.setIfInBounds_toArray, List.set_cons_zero, List.set_cons_succ])
          refine wpT_one rfl rfl (fun K hK => ?_)
          go_wp2
          refine hK _ _ (Ext.al (Ext.refl _) _) ?_
          clear hK K
          refine wpT_writer rfl rfl (by decide) (fun K hK => ?_)
          refine wp_append _ _ 26 rfl B 5 i0 (.int .u8 0) 1 1 Try.underlying26 HI.out hz0 hz1 hz2 rfl (by decide) _ _ _ rfl (HO5.out.alloc _) ⟨wr.heap.size, 0, none⟩ 1 1 [_] rfl rfl (cell_one_new wr _ 5) (by simp [Value.oneCell']) (by have := HL5.out; unfold maxLen; omega) (by have := HL5.out; omega) (by show B ≤ (wr.alloc _).heap.size; simp; omega) ?_
          intro v' w1 hown1 hgrow1 _ hat
          obtain ⟨A6, K6, rfl⟩ := own_slice hown1
          have hb6 : w1.heap[wb]? = _ := (hgrow1.block wb (by show wb < (wr.alloc _).heap.size; simp; omega) (own_ne HO5.out HB5.out (by decide))).trans ((Below.heap_alloc _ _ _ hlt5).trans HB5.out)
          have k0 : w1.cell? ⟨wb, 0, none⟩ = some (.slice A5 l5.length K5) := by simp [World.cell?, hb6]
          have kf : w1.frozen? ⟨wb, 0, none⟩ = false := by simp [World.frozen?, hb6]
          have hlt6 : wb < w1.heap.size := (Array.getElem?_eq_some_iff.1 hb6).1
          have HM := Lib.hid (WrAt.more HB5.out HO5.out HL5.out hB _ hown1 hgrow1 hb6)
          clear hown1 hgrow1 hat hb6
          first | (refine hK _ _ ?_; clear hK K) | skip
          iterate 2 (refine' wpT_pure rfl rfl (fun w' => ?_) ?_; rotate_left 1; (focus ((try go_simp); (try go_bits); (first | done | with_reducible rfl))); simp only [Act.put, List.setIfInBounds_toArray, List.set_cons_zero, List.set_cons_succ])
          refine wpT_writer rfl rfl (by decide) (fun K hK => ?_)
          go_wp2
          first | (refine hK _ _ ?_; clear hK K) | skip
          refine wpT_nil ?_
          go_wp2
          exact ⟨⟨1, m + 1, rfl, by omega, HM.out.1, HBW.out.trans HM.out.2⟩, by decide⟩
        · have e1 : (((2 + 1 : Nat) : Int) - 1) = 2 := by omega
          rw [e1]
          go_wp2
          refine wp_region_T [12, 15] (.pure 0 (.pure 1 (.pure 2 (.pure 3 (.pure 5 (.pure 6 (.pure 7 (.pure 8 (.pure 9 (.pure 10 (.take 4 (.one 11 (.one 12 (.pure 13 (.pure 14 (.one 15 .nil)))))))))))))))) (by kernel_rfl) (by kernel_rfl) ?_
          iterate 10 (refine' wpT_pure rfl rfl (fun w' => ?_) ?_; rotate_left 1; (focus ((try go_simp); (try go_bits); (first | done | with_reducible rfl))); simp only [Act.put, List.setIfInBounds_toArray, List.set_cons_zero, List.set_cons_succ])
          first | (refine' wpT_take_dddd rfl rfl (fun w' hc hl hsz => ?_) ?_; rotate_left 1; (focus ((try go_simp); (try go_bits); (first | done | with_reducible rfl))); simp only [Act.put, List.setIfInBounds_toArray, List.set_cons_zero, List.set_cons_succ]) | (refine' wpT_take_ddd rfl rfl (fun w' hc hl hsz => ?_) ?_; rotate_left 1; (focus ((try go_simp); (try go_bits); (first | done | with_reducible rfl))); simp only [Act.put, List.setIfInBounds_toArray, List.set_cons_zero, List.set_cons_succ]) | (refine' wpT_take_dd rfl rfl (fun w' hc hl hsz => ?_) ?_; rotate_left 1; (focus ((try go_simp); (try go_bits); (first | done | with_reducible rfl))); simp only [Act.put, List.setIfInBounds_toArray, List.set_cons_zero, List.set_cons_succ]) | (refine' wpT_take_d rfl rfl (fun w' hc hl hsz => ?_) ?_; rotate_left 1; (focus ((try go_simp); (try go_bits); (first | done | with_reducible rfl))); simp only [Act.put, List.setIfInBounds_toArray, List.set_cons_zero, List.set_cons_succ])
          refine wpT_one rfl rfl (fun K hK => ?_)
          go_wp2
          refine hK _ _ (Ext.al (Ext.refl _) _) ?_
          clear hK K
          refine wpT_writer rfl rfl (by decide) (fun K hK => ?_)
          refine wp_append _ _ 26 rfl B 5 i0 (.int .u8 0) 1 1 Try.underlying26 HI.out hz0 hz1 hz2 rfl (by decide) _ _ _ rfl (HO5.out.alloc _) ⟨wr.heap.size, 0, none⟩ 1 1 [_] rfl rfl (cell_one_new wr _ 5) (by simp [Value.oneCell']) (by have := HL5.out; unfold maxLen; omega) (by have := HL5.out; omega) (by show B ≤ (wr.alloc _).heap.size; simp; omega) ?_
          intro v' w1 hown1 hgrow1 _ hat
          obtain ⟨A6, K6, rfl⟩ := own_slice hown1
          have hb6 : w1.heap[wb]? = _ := (hgrow1.block wb (by show wb < (wr.alloc _).heap.size; simp; omega) (own_ne HO5.out HB5.out (by decide))).trans ((Below.heap_alloc _ _ _ hlt5).trans HB5.out)
          have k0 : w1.cell? ⟨wb, 0, none⟩ = some (.slice A5 l5.length K5) := by simp [World.cell?, hb6]
          have kf : w1.frozen? ⟨wb, 0, none⟩ = false := by simp [World.frozen?, hb6]
          have hlt6 : wb < w1.heap.size := (Array.getElem?_eq_some_iff.1 hb6).1
          have HM := Lib.hid (WrAt.more HB5.out HO5.out HL5.out hB _ hown1 hgrow1 hb6)
          clear hown1 hgrow1 hat hb6
          first | (refine hK _ _ ?_; clear hK K) | skip
          iterate 2 (refine' wpT_pure rfl rfl (fun w' => ?_) ?_; rotate_left 1; (focus ((try go_simp); (try go_bits); (first | done | with_reducible rfl))); simp only [Act.put, List.setIfInBounds_toArray, List.set_cons_zero, List.set_cons_succ])
          refine wpT_writer rfl rfl (by decide) (fun K hK => ?_)
          go_wp2
          first | (refine hK _ _ ?_; clear hK K) | skip
          refine wpT_nil ?_
          go_wp2
          exact ⟨⟨2, m + 1, rfl, by omega, HM.out.1, HBW.out.trans HM.out.2⟩, by decide⟩
        · have e1 : (((3 + 1 : Nat) : Int) - 1) = 3 := by omega
          rw [e1]
          go_wp2
          refine wp_region_T [12, 15] (.pure 0 (.pure 1 (.pure 2 (.pure 3 (.pure 5 (.pure 6 (.pure 7 (.pure 8 (.pure 9 (.pure 10 (.take 4 (.one 11 (.one 12 (.pure 13 (.pure 14 (.one 15 .nil)))))))))))))))) (by kernel_rfl) (by kernel_rfl) ?_
          iterate 10 (refine' wpT_pure rfl rfl (fun w' => ?_) ?_; rotate_left 1; (focus ((try go_simp); (try go_bits); (first | done | with_reducible rfl))); simp only [Act.put, List.setIfInBounds_toArray, List.set_cons_zero, List.set_cons_succ])
          first | (refine' wpT_take_dddd rfl rfl (fun w' hc hl hsz => ?_) ?_; rotate_left 1; (focus ((try go_simp); (try go_bits); (first | done | with_reducible rfl))); simp only [Act.put, List.setIfInBounds_toArray, List.set_cons_zero, List.set_cons_succ]) | (refine' wpT_take_ddd rfl rfl (fun w' hc hl hsz => ?_) ?_; rotate_left 1; (focus ((try go_simp); (try go_bits); (first | done | with_reducible rfl))); simp only [Act.put, List.setIfInBounds_toArray, List.set_cons_zero, List.set_cons_succ]) | (refine' wpT_take_dd rfl rfl (fun w' hc hl hsz => ?_) ?_; rotate_left 1; (focus ((try go_simp); (try go_bits); (first | done | with_reducible rfl))); simp only [Act.put, List.setIfInBounds_toArray, List.set_cons_zero, List.set_cons_succ]) | (refine' wpT_take_d rfl rfl (fun w' hc hl hsz => ?_) ?_; rotate_left 1; (focus ((try go_simp); (try go_bits); (first | done | with_reducible rfl))); simp only [Act.put, List.setIfInBounds_toArray, List.set_cons_zero, List.set_cons_succ])
          refine wpT_one rfl rfl (fun K hK => ?_)
          go_wp2
          refine hK _ _ (Ext.al (Ext.refl _) _) ?_
          clear hK K
          refine wpT_writer rfl rfl (by decide) (fun K hK => ?_)
          refine wp_append _ _ 26 rfl B 5 i0 (.int .u8 0) 1 1 Try.underlying26 HI.out hz0 hz1 hz2 rfl (by decide) _ _ _ rfl (HO5.out.alloc _) ⟨wr.heap.size, 0, none⟩ 1 1 [_] rfl rfl (cell_one_new wr _ 5) (by simp [Value.oneCell']) (by have := HL5.out; unfold maxLen; omega) (by have := HL5.out; omega) (by show B ≤ (wr.alloc _).heap.size; simp; omega) ?_
          intro v' w1 hown1 hgrow1 _ hat
          obtain ⟨A6, K6, rfl⟩ := own_slice hown1
          have hb6 : w1.heap[wb]? = _ := (hgrow1.block wb (by show wb < (wr.alloc _).heap.size; simp; omega) (own_ne HO5.out HB5.out (by decide))).trans ((Below.heap_alloc _ _ _ hlt5).trans HB5.out)
          have k0 : w1.cell? ⟨wb, 0, none⟩ = some (.slice A5 l5.length K5) := by simp [World.cell?, hb6]
          have kf : w1.frozen? ⟨wb, 0, none⟩ = false := by simp [World.frozen?, hb6]
          have hlt6 : wb < w1.heap.size := (Array.getElem?_eq_some_iff.1 hb6).1
          have HM := Lib.hid (WrAt.more HB5.out HO5.out HL5.out hB _ hown1 hgrow1 hb6)
          clear hown1 hgrow1 hat hb6
          first | (refine hK _ _ ?_; clear hK K) | skip
          iterate 2 (refine' wpT_pure rfl rfl (fun w' => ?_) ?_; rotate_left 1; (focus ((try go_simp); (try go_bits); (first | done | with_reducible rfl))); simp only [Act.put, List.setIfInBounds_toArray, List.set_cons_zero, List.set_cons_succ])
          refine wpT_writer rfl rfl (by decide) (fun K hK => ?_)
          go_wp2
          first | (refine hK _ _ ?_; clear hK K) | skip
          refine wpT_nil ?_
          go_wp2
          exact ⟨⟨3, m + 1, rfl, by omega, HM.out.1, HBW.out.trans HM.out.2⟩, by decide⟩
  · obtain ⟨bf, hbf⟩ : ∃ bf, bf = (bad || b1 || b2) := ⟨_, rfl⟩
    have HBF := Lib.hid hbf
    clear hbf
    go_loopw [10] (fun i wr => ∃ j m : Nat, i = .int .i64 ((j : Int) - 1) ∧ j + m = size ∧ WrAt B wb (n + m) bf wr ∧ Below B w wr) (fun i _ => (intOf i + 1).toNat)
    case atStart => exact ⟨size, 0, rfl, rfl, by
      rw [HBF.out]
      first
      | (have e : (bad || b1 || b2) = true := by simp [*]
         rw [e]; exact (HST.out true).1)
      | (have e : (bad || b1 || b2) = b2 := by simp [*]
         rw [e]; exact (HST.out b2).1), (HST.out _).2⟩
    case round =>
      obtain ⟨j, m, rfl, hjm, hW, hBW⟩ := hrel
      cases j with
      | zero =>
        go_wp2
        go_end0
        have hm : m = size := by omega
        subst hm
        exact ⟨⟨_, rfl⟩, by rw [← HBF.out]; exact hW, hBW⟩
      | succ i =>
        have hi : i = 0 ∨ i = 1 ∨ i = 2 ∨ i = 3 := by omega
        obtain ⟨v5, l5, hb5, ho5, hl5, hu5⟩ := id hW
        obtain ⟨A5, K5, rfl⟩ := own_slice ho5
        have hlt5 := hW.lt
        have d0 : wr.cell? ⟨wb, 0, none⟩ = some (.slice A5 l5.length K5) := by simp [World.cell?, hb5]
        have g0 : wr.frozen? ⟨wb, 0, none⟩ = false := by simp [World.frozen?, hb5]
        have HW5 := Lib.hid hW
        have HBW := Lib.hid hBW
        have HB5 := Lib.hid hb5
        have HO5 := Lib.hid ho5
        have HL5 := Lib.hid hl5
        clear hW hBW hb5 ho5 hl5 hu5
        rcases hi with rfl | rfl | rfl | rfl
        · have e1 : (((0 + 1 : Nat) : Int) - 1) = 0 := by omega
          rw [e1]
          go_wp2
          refine wp_region_T [12, 15] (.pure 0 (.pure 1 (.pure 2 (.pure 3 (.pure 5 (.pure 6 (.pure 7 (.pure 8 (.pure 9 (.pure 10 (.take 4 (.one 11 (.one 12 (.pure 13 (.pure 14 (.one 15 .nil)))))))))))))))) (by kernel_rfl) (by kernel_rfl) ?_
          iterate 10 (refine' wpT_pure rfl rfl (fun w' => ?_) ?_; rotate_left 1; (focus ((try go_simp); (try go_bits); (first | done | with_reducible rfl))); simp only [Act.put, List.setIfInBounds_toArray, List.set_cons_zero, List.set_cons_succ])
          first | (refine' wpT_take_dddd rfl rfl (fun w' hc hl hsz => ?_) ?_; rotate_left 1; (focus ((try go_simp); (try go_bits); (first | done | with_reducible rfl))); simp only [Act.put, List.setIfInBounds_toArray, List.set_cons_zero, List.set_cons_succ]) | (refine' wpT_take_ddd rfl rfl (fun w' hc hl hsz => ?_) ?_; rotate_left 1; (focus ((try go_simp); (try go_bits); (first | done | with_reducible rfl))); simp only [Act.put, List.setIfInBounds_toArray, List.set_cons_zero, List.set_cons_succ]) | (refine' wpT_take_dd rfl rfl (fun w' hc hl hsz => ?_) ?_; rotate_left 1; (focus ((try go_simp); (try go_bits); (first | done | with_reducible rfl))); simp only [Act.put, List.setIfInBounds_toArray, List.set_cons_zero, List.set_cons_succ]) | (refine' wpT_take_d rfl rfl (fun w' hc hl hsz => ?_) ?_; rotate_left 1; (focus ((try go_simp); (try go_bits); (first | done | with_reducible rfl))); simp only [Act.put, List.setIfInBounds_toArray, List.set_cons_zero, List.set_cons_succ])
          refine wpT_one rfl rfl (fun K hK => ?_)
          go_wp2
          refine hK _ _ (Ext.al (Ext.refl _) _) ?_
          clear hK K
          refine wpT_writer rfl rfl (by decide) (fun K hK => ?_)
          refine wp_append _ _ 26 rfl B 5 i0 (.int .u8 0) 1 1 Try.underlying26 HI.out hz0 hz1 hz2 rfl (by decide) _ _ _ rfl (HO5.out.alloc _) ⟨wr.heap.size, 0, none⟩ 1 1 [_] rfl rfl (cell_one_new wr _ 5) (by simp [Value.oneCell']) (by have := HL5.out; unfold maxLen; omega) (by have := HL5.out; omega) (by show B ≤ (wr.alloc _).heap.size; simp; omega) ?_
          intro v' w1 hown1 hgrow1 _ hat
          obtain ⟨A6, K6, rfl⟩ := own_slice hown1
          have hb6 : w1.heap[wb]? = _ := (hgrow1.block wb (by show wb < (wr.alloc _).heap.size; simp; omega) (own_ne HO5.out HB5.out (by decide))).trans ((Below.heap_alloc _ _ _ hlt5).trans HB5.out)
          have k0 : w1.cell? ⟨wb, 0, none⟩ = some (.slice A5 l5.length K5) := by simp [World.cell?, hb6]
          have kf : w1.frozen? ⟨wb, 0, none⟩ = false := by simp [World.frozen?, hb6]
          have hlt6 : wb < w1.heap.size := (Array.getElem?_eq_some_iff.1 hb6).1
          have HM := Lib.hid (WrAt.more HB5.out HO5.out HL5.out hB _ hown1 hgrow1 hb6)
          clear hown1 hgrow1 hat hb6
          first | (refine hK _ _ ?_; clear hK K) | skip
          iterate 2 (refine' wpT_pure rfl rfl (fun w' => ?_) ?_; rotate_left 1; (focus ((try go_simp); (try go_bits); (first | done | with_reducible rfl))); simp only [Act.put, List.setIfInBounds_toArray, List.set_cons_zero, List.set_cons_succ])
          refine wpT_writer rfl rfl (by decide) (fun K hK => ?_)
          go_wp2
          first | (refine hK _ _ ?_; clear hK K) | skip
          refine wpT_nil ?_
          go_wp2
          exact ⟨⟨0, m + 1, rfl, by omega, HM.out.1, HBW.out.trans HM.out.2⟩, by decide⟩
        · have e1 : (((1 + 1 : Nat) : Int) - 1) = 1 := by omega
          rw [e1]
          go_wp2
          refine wp_region_T [12, 15] (.pure 0 (.pure 1 (.pure 2 (.pure 3 (.pure 5 (.pure 6 (.pure 7 (.pure 8 (.pure 9 (.pure 10 (.take 4 (.one 11 (.one 12 (.pure 13 (.pure 14 (.one 15 .nil)))))))))))))))) (by kernel_rfl) (by kernel_rfl) ?_
          iterate 10 (refine' wpT_pure rfl rfl (fun w' => ?_) ?_; rotate_left 1; (focus ((try go_simp); (try go_bits); (first | done | with_reducible rfl))); simp only [Act.put, List.setIfInBounds_toArray, List.set_cons_zero, List.set_cons_succ])
          first | (refine' wpT_take_dddd rfl rfl (fun w' hc hl hsz => ?_) ?_; rotate_left 1; (focus ((try go_simp); (try go_bits); (first | done | with_reducible rfl))); simp only [Act.put, List.setIfInBounds_toArray, List.set_cons_zero, List.set_cons_succ]) | (refine' wpT_take_ddd rfl rfl (fun w' hc hl hsz => ?_) ?_; rotate_left 1; (focus ((try go_simp); (try go_bits); (first | done | with_reducible rfl))); simp only [Act.put, List.setIfInBounds_toArray, List.set_cons_zero, List.set_cons_succ]) | (refine' wpT_take_dd rfl rfl (fun w' hc hl hsz => ?_) ?_; rotate_left 1; (focus ((try go_simp); (try go_bits); (first | done | with_reducible rfl))); simp only [Act.put, List.setIfInBounds_toArray, List.set_cons_zero, List.set_cons_succ]) | (refine' wpT_take_d rfl rfl (fun w' hc hl hsz => ?_) ?_; rotate_left 1; (focus ((try go_simp); (try go_bits); (first | done | with_reducible rfl))); simp only [Act.put, List.setIfInBounds_toArray, List.set_cons_zero, List.set_cons_succ])
          refine wpT_one rfl rfl (fun K hK => ?_)
          go_wp2
          refine hK _ _ (Ext.al (Ext.refl _) _) ?_
          clear hK K
          refine wpT_writer rfl rfl (by decide) (fun K hK => ?_)
          refine wp_append _ _ 26 rfl B 5 i0 (.int .u8 0) 1 1 Try.underlying26 HI.out hz0 hz1 hz2 rfl (by decide) _ _ _ rfl (HO5.out.alloc _) ⟨wr.heap.size, 0, none⟩ 1 1 [_] rfl rfl (cell_one_new wr _ 5) (by simp [Value.oneCell']) (by have := HL5.out; unfold maxLen; omega) (by have := HL5.out; omega) (by show B ≤ (wr.alloc _).heap.size; simp; omega) ?_
          intro v' w1 hown1 hgrow1 _ hat
          obtain ⟨A6, K6, rfl⟩ := own_slice hown1
          have hb6 : w1.heap[wb]? = _ := (hgrow1.block wb (by show wb < (wr.alloc _).heap.size; simp; omega) (own_ne HO5.out HB5.out (by decide))).trans ((Below.heap_alloc _ _ _ hlt5).trans HB5.out)
          have k0 : w1.cell? ⟨wb, 0, none⟩ = some (.slice A5 l5.length K5) := by simp [World.cell?, hb6]
          have kf : w1.frozen? ⟨wb, 0, none⟩ = false := by simp [World.frozen?, hb6]
          have hlt6 : wb < w1.heap.size := (Array.getElem?_eq_some_iff.1 hb6).1
          have HM := Lib.hid (WrAt.more HB5.out HO5.out HL5.out hB _ hown1 hgrow1 hb6)
          clear hown1 hgrow1 hat hb6
          first | (refine hK _ _ ?_; clear hK K) | skip
          iterate 2 (refine' wpT_pure rfl rfl (fun w' => ?_) ?_; rotate_left 1; (focus ((try go_simp); (try go_bits); (first | done | with_reducible rfl))); simp only [Act.put, List.setIfInBounds_toArray, List.set_cons_zero, List.set_cons_succ])
          refine wpT_writer rfl rfl (by decide) (fun K hK => ?_)
          go_wp2
          first | (refine hK _ _ ?_; clear hK K) | skip
          refine wpT_nil ?_
          go_wp2
          exact ⟨⟨1, m + 1, rfl, by omega, HM.out.1, HBW.out.trans HM.out.2⟩, by decide⟩
        · have e1 : (((2 + 1 : Nat) : Int) - 1) = 2 := by omega
          rw [e1]
          go_wp2
          refine wp_region_T [12, 15] (.pure 0 (.pure 1 (.pure 2 (.pure 3 (.pure 5 (.pure 6 (.pure 7 (.pure 8 (.pure 9 (.pure 10 (.take 4 (.one 11 (.one 12 (.pure 13 (.pure 14 (.one 15 .nil)))))))))))))))) (by kernel_rfl) (by kernel_rfl) ?_
          iterate 10 (refine' wpT_pure rfl rfl (fun w' => ?_) ?_; rotate_left 1; (focus ((try go_simp); (try go_bits); (first | done | with_reducible rfl))); simp only [Act.put, List.setIfInBounds_toArray, List.set_cons_zero, List.set_cons_succ])
          first | (refine' wpT_take_dddd rfl rfl (fun w' hc hl hsz => ?_) ?_; rotate_left 1; (focus ((try go_simp); (try go_bits); (first | done | with_reducible rfl))); simp only [Act.put, List.setIfInBounds_toArray, List.set_cons_zero, List.set_cons_succ]) | (refine' wpT_take_ddd rfl rfl (fun w' hc hl hsz => ?_) ?_; rotate_left 1; (focus ((try go_simp); (try go_bits); (first | done | with_reducible rfl))); simp only [Act.put, List.setIfInBounds_toArray, List.set_cons_zero, List.set_cons_succ]) | (refine' wpT_take_dd rfl rfl (fun w' hc hl hsz => ?_) ?_; rotate_left 1; (focus ((try go_simp); (try go_bits); (first | done | with_reducible rfl))); simp only [Act.put, List.setIfInBounds_toArray, List.set_cons_zero, List.set_cons_succ]) | (refine' wpT_take_d rfl rfl (fun w' hc hl hsz => ?_) ?_; rotate_left 1; (focus ((try go_simp); (try go_bits); (first | done | with_reducible rfl))); simp only [Act.put, List.setIfInBounds_toArray, List.set_cons_zero, List.set_cons_succ])
          refine wpT_one rfl rfl (fun K hK => ?_)
          go_wp2
          refine hK _ _ (Ext.al (Ext.refl _) _) ?_
          clear hK K
          refine wpT_writer rfl rfl (by decide) (fun K hK => ?_)
          refine wp_append _ _ 26 rfl B 5 i0 (.int .u8 0) 1 1 Try.underlying26 HI.out hz0 hz1 hz2 rfl (by decide) _ _ _ rfl (HO5.out.alloc _) ⟨wr.heap.size, 0, none⟩ 1 1 [_] rfl rfl (cell_one_new wr _ 5) (by simp [Value.oneCell']) (by have := HL5.out; unfold maxLen; omega) (by have := HL5.out; omega) (by show B ≤ (wr.alloc _).heap.size; simp; omega) ?_
          intro v' w1 hown1 hgrow1 _ hat
          obtain ⟨A6, K6, rfl⟩ := own_slice hown1
          have hb6 : w1.heap[wb]? = _ := (hgrow1.block wb (by show wb < (wr.alloc _).heap.size; simp; omega) (own_ne HO5.out HB5.out (by decide))).trans ((Below.heap_alloc _ _ _ hlt5).trans HB5.out)
          have k0 : w1.cell? ⟨wb, 0, none⟩ = some (.slice A5 l5.length K5) := by simp [World.cell?, hb6]
          have kf : w1.frozen? ⟨wb, 0, none⟩ = false := by simp [World.frozen?, hb6]
          have hlt6 : wb < w1.heap.size := (Array.getElem?_eq_some_iff.1 hb6).1
          have HM := Lib.hid (WrAt.more HB5.out HO5.out HL5.out hB _ hown1 hgrow1 hb6)
          clear hown1 hgrow1 hat hb6
          first | (refine hK _ _ ?_; clear hK K) | skip
          iterate 2 (refine' wpT_pure rfl rfl (fun w' => ?_) ?_; rotate_left 1; (focus ((try go_simp); (try go_bits); (first | done | with_reducible rfl))); simp only [Act.put, List.setIfInBounds_toArray, List.set_cons_zero, List.set_cons_succ])
          refine wpT_writer rfl rfl (by decide) (fun K hK => ?_)
          go_wp2
          first | (refine hK _ _ ?_; clear hK K) | skip
          refine wpT_nil ?_
          go_wp2
          exact ⟨⟨2, m + 1, rfl, by omega, HM.out.1, HBW.out.trans HM.out.2⟩, by decide⟩
        · have e1 : (((3 + 1 : Nat) : Int) - 1) = 3 := by omega
          rw [e1]
          go_wp2
          refine wp_region_T [12, 15] (.pure 0 (.pure 1 (.pure 2 (.pure 3 (.pure 5 (.pure 6 (.pure 7 (.pure 8 (.pure 9 (.pure 10 (.take 4 (.one 11 (.one 12 (.pure 13 (.pure 14 (.one 15 .nil)))))))))))))))) (by kernel_rfl) (by kernel_rfl) ?_
          iterate 10 (refine' wpT_pure rfl rfl (fun w' => ?_) ?_; rotate_left 1; (focus ((try go_simp); (try go_bits); (first | done | with_reducible rfl))); simp only [Act.put, List.setIfInBounds_toArray, List.set_cons_zero, List.set_cons_succ])
          first | (refine' wpT_take_dddd rfl rfl (fun w' hc hl hsz => ?_) ?_; rotate_left 1; (focus ((try go_simp); (try go_bits); (first | done | with_reducible rfl))); simp only [Act.put, List.setIfInBounds_toArray, List.set_cons_zero, List.set_cons_succ]) | (refine' wpT_take_ddd rfl rfl (fun w' hc hl hsz => ?_) ?_; rotate_left 1; (focus ((try go_simp); (try go_bits); (first | done | with_reducible rfl))); simp only [Act.put, List.setIfInBounds_toArray, List.set_cons_zero, List.set_cons_succ]) | (refine' wpT_take_dd rfl rfl (fun w' hc hl hsz => ?_) ?_; rotate_left 1; (focus ((try go_simp); (try go_bits); (first | done | with_reducible rfl))); simp only [Act.put, List.setIfInBounds_toArray, List.set_cons_zero, List.set_cons_succ]) | (refine' wpT_take_d rfl rfl (fun w' hc hl hsz => ?_) ?_; rotate_left 1; (focus ((try go_simp); (try go_bits); (first | done | with_reducible rfl))); simp only [Act.put, List.setIfInBounds_toArray, List.set_cons_zero, List.set_cons_succ])
          refine wpT_one rfl rfl (fun K hK => ?_)
          go_wp2
          refine hK _ _ (Ext.al (Ext.refl _) _) ?_
          clear hK K
          refine wpT_writer rfl rfl (by decide) (fun K hK => ?_)
          refine wp_append _ _ 26 rfl B 5 i0 (.int .u8 0) 1 1 Try.underlying26 HI.out hz0 hz1 hz2 rfl (by decide) _ _ _ rfl (HO5.out.alloc _) ⟨wr.heap.size, 0, none⟩ 1 1 [_] rfl rfl (cell_one_new wr _ 5) (by simp [Value.oneCell']) (by have := HL5.out; unfold maxLen; omega) (by have := HL5.out; omega) (by show B ≤ (wr.alloc _).heap.size; simp; omega) ?_
          intro v' w1 hown1 hgrow1 _ hat
          obtain ⟨A6, K6, rfl⟩ := own_slice hown1
          have hb6 : w1.heap[wb]? = _ := (hgrow1.block wb (by show wb < (wr.alloc _).heap.size; simp; omega) (own_ne HO5.out HB5.out (by decide))).trans ((Below.heap_alloc _ _ _ hlt5).trans HB5.out)
          have k0 : w1.cell? ⟨wb, 0, none⟩ = some (.slice A5 l5.length K5) := by simp [World.cell?, hb6]
          have kf : w1.frozen? ⟨wb, 0, none⟩ = false := by simp [World.frozen?, hb6]
          have hlt6 : wb < w1.heap.size := (Array.getElem?_eq_some_iff.1 hb6).1
          have HM := Lib.hid (WrAt.more HB5.out HO5.out HL5.out hB _ hown1 hgrow1 hb6)
          clear hown1 hgrow1 hat hb6
          first | (refine hK _ _ ?_; clear hK K) | skip
          iterate 2 (refine' wpT_pure rfl rfl (fun w' => ?_) ?_; rotate_left 1; (focus ((try go_simp); (try go_bits); (first | done | with_reducible rfl))); simp only [Act.put, List.setIfInBounds_toArray, List.set_cons_zero, List.set_cons_succ])
          refine wpT_writer rfl rfl (by decide) (fun K hK => ?_)
          go_wp2
          first | (refine hK _ _ ?_; clear hK K) | skip
          refine wpT_nil ?_
          go_wp2
          exact ⟨⟨3, m + 1, rfl, by omega, HM.out.1, HBW.out.trans HM.out.2⟩, by decide⟩
end Go.Proofs.Ytkpllkjionegeaa

/- Walks: what a vote's encoding says of it (text, EncodeVote). -/
namespace Go.Proofs.Ytkpllkjionegeaa
open Go Go.RowKit

theorem run_append_zero {w : World} (base : Nat) (ty : TypeId) (i : TypeInfo) (size : Nat) (hi : Try.prog.info? 5 = some i)
    (v : Value) (n : Nat) (xs : List Value) (hown : w.ownsRow base 5 size v n xs) (c : Nat) :
    (Builtin.append_ #[26, 26] ty #[v, .slice none 0 c]).run Try.prog w = .ok v w := by
  rcases hown.2 with ⟨rfl, rfl⟩ | ⟨g, cap, cur, rfl, _, _, hnc, _⟩
  · simp [Builtin.append_, run_underlying Try.underlying26, sizeOf, typeInfo, hi, Builtin.lenOf, Builtin.firstCells]
  · simp [Builtin.append_, run_underlying Try.underlying26, sizeOf, typeInfo, hi, Builtin.lenOf, Builtin.firstCells, hnc, storeCells]

/-- bytes are appended to a row of one's own -/
theorem wp_append_bytes {o : Oper} {a : Act} {w : World} {K : Act → World → Prop} {Q : Exit → Act → World → Prop} (s x : Operand)
    (ho : o.op = .call { callee := .builtin .append, args := #[s, x], argTypes := #[26, 26] }) (base : Nat) (v : Value) (l : Bytes) (hs : a.eval s = v) (hown : w.ownsRow base 5 1 v l.length (byteCells l))
    (xv : Value) (l' : Bytes) (hx : a.eval x = xv) (hb : BytesAt w xv l') (hlen : l.length + l'.length ≤ 100000000) (hbase : base ≤ w.heap.size)
    (h : ∀ v' w', w'.ownsRow base 5 1 v' (l ++ l').length (byteCells (l ++ l')) → w.grownBy w' v.ownBlock → (v'.ownBlock = v.ownBlock ∨ v'.ownBlock = some w.heap.size) → K (a.put o.dst v') w') : o.wp Try.prog a w K Q := by
  obtain ⟨i0, hi, hz0, hz1, hz2⟩ := info_parts info5
  obtain ⟨A, cap, rfl, hc1, hc2⟩ := hb
  cases A with
  | none =>
    have hl : l' = [] := by
      cases l' with
      | nil => rfl
      | cons y r => obtain ⟨b, o, h, _⟩ := hc2 (by simp); cases h
    subst hl
    unfold Oper.wp execOp
    simp only [ho, resolve, invoke, builtin, Sem.run_bind, Sem.run_pure, Result.andThen_ok, List.map_toArray, List.map_cons, List.map_nil, hs, hx]
    rw [List.length_nil, run_append_zero base _ i0 1 hi v _ _ hown cap]
    exact h v w (by simpa using hown) ⟨rfl, rfl, rfl, Nat.le_refl _, fun _ _ _ => rfl⟩ (Or.inl rfl)
  | some p =>
    have hnews : ∀ j u, (byteCells l')[j]? = some u → w.cell? (p.add j) = some u := by
      by_cases hl : l' = []
      · subst hl; intro j u hu; simp [byteCells] at hu
      · obtain ⟨b, o, he, hc⟩ := hc2 hl
        cases he
        exact BytesAt.news (cap := cap) hc
    refine wp_append s x 26 ho base 5 i0 (.int .u8 0) 1 1 Try.underlying26 hi hz0 hz1 hz2 rfl (by decide) v l.length _ hs hown p l'.length cap (byteCells l') hx (by simp [byteCells_length]) hnews (byteCells_one _) (by unfold maxLen; omega) (by omega) hbase ?_
    intro v' w' h1 h2 _ h4
    exact h v' w' (by rw [byteCells_append, List.length_append]; exact h1) h2 h4

theorem wpList_append_bytes {ops : Array Oper} {rest : List Oper} {o : Oper} {a : Act} {w : World} {Q : Exit → Act → World → Prop} (hg : o.guard = none) (s x : Operand)
    (ho : o.op = .call { callee := .builtin .append, args := #[s, x], argTypes := #[26, 26] }) (base : Nat) (v : Value) (l : Bytes) (hs : a.eval s = v) (hown : w.ownsRow base 5 1 v l.length (byteCells l))
    (xv : Value) (l' : Bytes) (hx : a.eval x = xv) (hb : BytesAt w xv l') (hlen : l.length + l'.length ≤ 100000000) (hbase : base ≤ w.heap.size)
    (h : ∀ v' w', w'.ownsRow base 5 1 v' (l ++ l').length (byteCells (l ++ l')) → w.grownBy w' v.ownBlock → (v'.ownBlock = v.ownBlock ∨ v'.ownBlock = some w.heap.size) → wpList Try.prog ops Q rest (a.put o.dst v') w') : wpList Try.prog ops Q (o :: rest) a w :=
  wpList_plain hg fun _ hKK => wp_append_bytes s x ho base v l hs hown xv l' hx hb hlen hbase fun v' w' h1 h2 h3 => hKK _ _ (h v' w' h1 h2 h3)

set_option maxRecDepth 100000 in
set_option maxHeartbeats 2000000 in
theorem text_calls (B wb n : Nat) (bad : Bool) (A : Option Addr) (C : Nat) (t : Bytes) (most : Int) (w : World) (h : WrAt B wb n bad w) (hB : B ≤ wb) (hn : n ≤ 9000) (hm : most ≤ 4096) (hv : ∀ w', Below B w w' → BytesAt w' (.slice A t.length C) t) :
    Calls Try.prog 62 #[.pointer (some ⟨wb, 0, none⟩), .slice A t.length C, .int .i64 most] w
      (fun e w' => (∃ v, e = .returned v) ∧ (∃ n', WrAt B wb n' (bad || decide (most < (t.length : Int))) w') ∧ Below B w w') := by
  have hlt := h.lt
  have hf : ∃ v, w.cell? ⟨wb, 1, none⟩ = some (.bool bad) ∧ w.frozen? ⟨wb, 1, none⟩ = false ∧ w.heap[wb]? = some (.cells #[v, .bool bad] 99 (0, 0)) := by
    obtain ⟨v, l, hb, _⟩ := h
    exact ⟨v, by simp [World.cell?, hb], by simp [World.frozen?, hb], hb⟩
  obtain ⟨vv, c1, f1, hb⟩ := hf
  have HH := Lib.hid h
  have HV := Lib.hid hv
  have HB := Lib.hid hb
  clear h hv hb
  by_cases hlong : most < (t.length : Int)
  · go_enter Try.func62, Try.ntmps62
    go_wp2
    refine bodyPost_ret (results_none rfl _ _ _) rfl ?_
    refine ⟨⟨_, rfl⟩, ?_, (Below.refl B w).setCell (p := ⟨wb, 1, none⟩) hB _⟩
    obtain ⟨v, l, hb, ho, hl, hu⟩ := HH.out
    refine ⟨n, v, l, ?_, own_ext ho (fun k hk => Below.heap_setCell _ _ _ _ (fun e => own_ne ho hb (by decide) (by rw [hk, e]))), hl, hu⟩
    have := heap_setCell_same hb (i := 1) (.bool true)
    simpa [hlong] using this
  · have hflag : (bad || decide ((t.length : Int) < 0) || decide (most < (t.length : Int))) = (bad || decide (most < (t.length : Int))) := by
      rw [show decide ((t.length : Int) < 0) = false by simp]; simp
    have HFL := Lib.hid hflag
    clear hflag
    go_enter Try.func62, Try.ntmps62
    go_wp2_with (first
      | (go_at_call 61; (refine (num_calls B wb n bad (t.length : Int) 0 most 2 _ HH.out hB (by omega) (by omega) (by omega)).mono ?_; rw [HFL.out]; rintro e w1 ⟨⟨_, rfl⟩, hw1, hb1⟩; have hx1 := HV.out w1 hb1; obtain ⟨v1, l1, g1, g2, g3, g4⟩ := id hw1; have k0 : w1.cell? ⟨wb, 0, none⟩ = some v1 := (by simp [World.cell?, g1]); have HG1 := Lib.hid g1; have HG2 := Lib.hid g2; have HG3 := Lib.hid g3; have HX1 := Lib.hid hx1; have HB1 := Lib.hid hb1; clear hw1 g1 g2 g3 hx1 hb1))
      | (at_builtin; refine wpList_append_bytes rfl _ _ rfl B v1 l1 rfl HG2.out _ t rfl HX1.out (by have := HG3.out; omega) (by have := HB1.out.size; omega) ?_; intro v2 w2 hown2 hgrow2 hat; obtain ⟨A2, K2, rfl⟩ := own_slice hown2; have hb2 := (hgrow2.block wb (Array.getElem?_eq_some_iff.1 HG1.out).1 (own_ne HG2.out HG1.out (by decide))).trans HG1.out; have k2 : w2.cell? ⟨wb, 0, none⟩ = some v1 := (by simp [World.cell?, hb2]); have kf : w2.frozen? ⟨wb, 0, none⟩ = false := (by simp [World.frozen?, hb2]); have hlt2 : wb < w2.heap.size := (Array.getElem?_eq_some_iff.1 hb2).1; have HB2 := Lib.hid hb2; have HO2 := Lib.hid hown2; have HGR := Lib.hid hgrow2; clear hb2 hown2 hgrow2 hat))
    go_end0
    have ho2 : w2.ownsRow B 5 1 (.slice A2 (l1.length + t.length) K2) (l1 ++ t).length (byteCells (l1 ++ t)) := by have := HO2.out; rw [List.length_append] at this ⊢; exact this
    refine ⟨⟨_, rfl⟩, ⟨_, _, l1 ++ t, heap_setCell_same HB2.out _, own_ext ho2 (fun k hk => Below.heap_setCell _ _ _ _ (fun e => own_ne ho2 HB2.out (by decide) (by rw [hk, e]))), rfl, fun x hx => by cases hx⟩, ?_⟩
    exact (HB1.out.grown HGR.out (by have := HB1.out.size; omega) (fun k hk => own_beyond HG2.out k hk)).setCell (p := ⟨wb, 0, none⟩) hB _

theorem voteOk_eq (v : Vote) : voteOk v = !(decide (v.valid < -1) || decide (1048576 < v.valid) || (((((((((((false || decide (v.kind < 1)) || decide (5 < v.kind)) || decide (v.frm < 1)) || decide (64 < v.frm)) || decide (v.slot < 0)) || decide (256 < v.slot)) || decide (v.view < 0)) || decide (1048576 < v.view)) || decide (v.valid + 1 < 0)) || decide (1048577 < v.valid + 1)) || decide (4096 < (v.value.length : Int)))) := by
  unfold voteOk
  rw [Bool.eq_iff_iff]
  simp
  omega
end Go.Proofs.Ytkpllkjionegeaa
