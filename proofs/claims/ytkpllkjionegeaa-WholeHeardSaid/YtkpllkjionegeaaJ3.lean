/- Walks of the vote package, second part. -/
import Derived.Shelf.SlGeneric
import Derived.Shelf.SlIterI.Nil
import Derived.Shelf.SortM.Plain
import Derived.Shelf.SortM.SortNone
import Derived.Ground.GgzProg
import Derived.Ground.SlgmProg
import Derived.Test.YtkpllkjionegeaaProg
import Derived.Test.YtkpllkjionegeaaJ2
import Derived.Maps.Own
import Derived.Maps.RangeWalk
import Derived.Deep.LoopGhost
set_option linter.unusedVariables false
set_option linter.unusedSimpArgs false
/-
  DERIVED: THE SHELF's CONTRACTS AT THIS DUMP, IN PLAIN WORDS (tools/lay-plain.mjs out of 'TryLaysrc.lean', which tools/lay-shelf.mjs wrote): THE SAME DECLARATIONS UNDER THE SAME NAMES: 'import', 'namespace', 'open', 'def', 'theorem' AND NOTHING ELSE: no command of the shelf's: FOR A HAND-IN. Each laying: the table of numbers ('.._ren') and one theorem, a field a fact of the dump's own or the kernel's comparison; each contract: ONE APPLICATION.
-/
namespace Go.Proofs
open Go.Shelf
def Try.keysA_ren : Go.Shelf.Ren := ⟨fun | 7 => 46 | 10 => 72 | n => n, fun | 23 => 66 | 26 => 3 | 3 => 69 | 28 => 81 | 0 => 0 | 27 => 80 | 33 => 108 | 4 => 4 | n => n, fun | n => n⟩
theorem Try.keysA : Go.Proofs.SlLaysZI.n7 Try.prog Try.keysA_ren := {
  mixed := by kernel_rfl
  f7 := ⟨Try.f46.name, by decide, Try.func46.trans (congrArg some (by kernel_rfl))⟩
  f10 := ⟨Try.f72.name, by decide, Try.func72.trans (congrArg some (by kernel_rfl))⟩
  t0 := Try.underlying0
  a0 := Try.isAgg0
  z0 := Try.sizeOf0
  v0 := Try.zeroValue0
  t4 := Try.underlying4
  a4 := Try.isAgg4
  z4 := Try.sizeOf4
  v4 := Try.zeroValue4
  t23 := Try.underlying66
  a23 := Try.isAgg66
  z23 := Try.sizeOf66
  v23 := Try.zeroValue66
  t26 := Try.underlying3
  a26 := Try.isAgg3
  z26 := Try.sizeOf3
  v26 := Try.zeroValue3
  t27 := Try.underlying80
  a27 := Try.isAgg80
  z27 := Try.sizeOf80
  v27 := Try.zeroValue80
  t28 := Try.underlying81
  a28 := Try.isAgg81
  z28 := Try.sizeOf81
  v28 := Try.zeroValue81
  t33 := Try.underlying108
  a33 := Try.isAgg108
  z33 := Try.sizeOf108
  v33 := Try.zeroValue108 }
def Try.sortedA_ren : Go.Shelf.Ren := ⟨fun | 6 => 45 | 8 => 70 | 9 => 71 | 11 => 83 | 13 => 85 | 12 => 84 | 23 => 100 | 24 => 101 | 14 => 91 | 15 => 92 | 16 => 93 | 17 => 94 | 18 => 95 | 19 => 96 | 20 => 97 | 21 => 98 | 22 => 99 | 25 => 104 | 26 => 105 | 27 => 106 | 28 => 107 | 29 => 108 | 30 => 109 | 31 => 110 | n => n, fun | 26 => 3 | 28 => 81 | 24 => 78 | 0 => 0 | 3 => 3 | 37 => 106 | 48 => 134 | 50 => 111 | 4 => 4 | 40 => 126 | 39 => 125 | 45 => 131 | 5 => 5 | 9 => 9 | 51 => 136 | 55 => 140 | 57 => 142 | 58 => 143 | 33 => 108 | n => n, fun | n => n⟩
theorem Try.sortedA : Go.Proofs.SlLaysZI.n6 Try.prog Try.sortedA_ren := {
  mixed := by kernel_rfl
  f6 := ⟨Try.f45.name, by decide, Try.func45.trans (congrArg some (by kernel_rfl))⟩
  f8 := ⟨Try.f70.name, by decide, Try.func70.trans (congrArg some (by kernel_rfl))⟩
  f11 := ⟨Try.f83.name, by decide, Try.func83.trans (congrArg some (by kernel_rfl))⟩
  t0 := Try.underlying0
  a0 := Try.isAgg0
  z0 := Try.sizeOf0
  v0 := Try.zeroValue0
  t24 := Try.underlying78
  a24 := Try.isAgg78
  z24 := Try.sizeOf78
  v24 := Try.zeroValue78
  t26 := Try.underlying3
  a26 := Try.isAgg3
  z26 := Try.sizeOf3
  v26 := Try.zeroValue3
  t28 := Try.underlying81
  a28 := Try.isAgg81
  z28 := Try.sizeOf81
  v28 := Try.zeroValue81
  i26 := by kernel_rfl }
def Try.sortA_ren : Go.Shelf.Ren := ⟨fun | 5 => 71 | 8 => 85 | 7 => 84 | 19 => 100 | 20 => 101 | 10 => 91 | 11 => 92 | 12 => 93 | 13 => 94 | 14 => 95 | 15 => 96 | 16 => 97 | 17 => 98 | 18 => 99 | 30 => 104 | 31 => 105 | 32 => 106 | 33 => 107 | 34 => 108 | 35 => 109 | 40 => 110 | n => n, fun | 23 => 78 | 25 => 3 | 3 => 3 | 32 => 106 | 22 => 78 | 0 => 0 | 44 => 134 | 46 => 111 | 4 => 4 | 36 => 126 | 35 => 125 | 41 => 131 | 5 => 5 | 9 => 9 | 53 => 136 | 57 => 140 | 63 => 142 | 64 => 143 | n => n, fun | n => n⟩
theorem Try.sortA : Go.Proofs.SlLaysM.n5 Try.prog Try.sortA_ren := {
  mixed := by kernel_rfl
  f5 := ⟨Try.f71.name, by decide, Try.func71.trans (congrArg some (by kernel_rfl))⟩
  f7 := ⟨Try.f84.name, by decide, Try.func84.trans (congrArg some (by kernel_rfl))⟩
  f8 := Try.func85.trans (congrArg some (by kernel_rfl))
  f10 := ⟨Try.f91.name, by decide, Try.func91.trans (congrArg some (by kernel_rfl))⟩
  f11 := ⟨Try.f92.name, by decide, Try.func92.trans (congrArg some (by kernel_rfl))⟩
  f12 := ⟨Try.f93.name, by decide, Try.func93.trans (congrArg some (by kernel_rfl))⟩
  f13 := ⟨Try.f94.name, by decide, Try.func94.trans (congrArg some (by kernel_rfl))⟩
  f14 := ⟨Try.f95.name, by decide, Try.func95.trans (congrArg some (by kernel_rfl))⟩
  f15 := ⟨Try.f96.name, by decide, Try.func96.trans (congrArg some (by kernel_rfl))⟩
  f16 := ⟨Try.f97.name, by decide, Try.func97.trans (congrArg some (by kernel_rfl))⟩
  f17 := ⟨Try.f98.name, by decide, Try.func98.trans (congrArg some (by kernel_rfl))⟩
  f18 := ⟨Try.f99.name, by decide, Try.func99.trans (congrArg some (by kernel_rfl))⟩
  f19 := Try.func100.trans (congrArg some (by kernel_rfl))
  f20 := Try.func101.trans (congrArg some (by kernel_rfl))
  f30 := ⟨Try.f104.name, by decide, Try.func104.trans (congrArg some (by kernel_rfl))⟩
  f31 := Try.func105.trans (congrArg some (by kernel_rfl))
  f32 := Try.func106.trans (congrArg some (by kernel_rfl))
  f33 := ⟨Try.f107.name, by decide, Try.func107.trans (congrArg some (by kernel_rfl))⟩
  f34 := ⟨Try.f108.name, by decide, Try.func108.trans (congrArg some (by kernel_rfl))⟩
  f35 := ⟨Try.f109.name, by decide, Try.func109.trans (congrArg some (by kernel_rfl))⟩
  f40 := ⟨Try.f110.name, by decide, Try.func110.trans (congrArg some (by kernel_rfl))⟩
  t0 := Try.underlying0
  a0 := Try.isAgg0
  z0 := Try.sizeOf0
  v0 := Try.zeroValue0
  t3 := Try.underlying3
  a3 := Try.isAgg3
  z3 := Try.sizeOf3
  v3 := Try.zeroValue3
  t4 := Try.underlying4
  a4 := Try.isAgg4
  z4 := Try.sizeOf4
  v4 := Try.zeroValue4
  t5 := Try.underlying5
  a5 := Try.isAgg5
  z5 := Try.sizeOf5
  v5 := Try.zeroValue5
  t9 := Try.underlying9
  a9 := Try.isAgg9
  z9 := Try.sizeOf9
  v9 := Try.zeroValue9
  t22 := Try.underlying78
  a22 := Try.isAgg78
  z22 := Try.sizeOf78
  v22 := Try.zeroValue78
  t23 := Try.underlying78
  a23 := Try.isAgg78
  z23 := Try.sizeOf78
  v23 := Try.zeroValue78
  t25 := Try.underlying3
  a25 := Try.isAgg3
  z25 := Try.sizeOf3
  v25 := Try.zeroValue3
  t32 := Try.underlying106
  a32 := Try.isAgg106
  z32 := Try.sizeOf106
  v32 := Try.zeroValue106
  t35 := Try.underlying125
  a35 := Try.isAgg125
  z35 := Try.sizeOf125
  v35 := Try.zeroValue125
  t36 := Try.underlying126
  a36 := Try.isAgg126
  z36 := Try.sizeOf126
  v36 := Try.zeroValue126
  t41 := Try.underlying131
  a41 := Try.isAgg131
  z41 := Try.sizeOf131
  v41 := Try.zeroValue131
  t44 := Try.underlying134
  a44 := Try.isAgg134
  z44 := Try.sizeOf134
  v44 := Try.zeroValue134
  t46 := Try.underlying111
  a46 := Try.isAgg111
  z46 := Try.sizeOf111
  v46 := Try.zeroValue111
  t53 := Try.underlying136
  a53 := Try.isAgg136
  z53 := Try.sizeOf136
  v53 := Try.zeroValue136
  t57 := Try.underlying140
  a57 := Try.isAgg140
  z57 := Try.sizeOf140
  v57 := Try.zeroValue140
  t63 := Try.underlying142
  a63 := Try.isAgg142
  z63 := Try.sizeOf142
  v63 := Try.zeroValue142
  t64 := Try.underlying143
  a64 := Try.isAgg143
  z64 := Try.sizeOf143
  v64 := Try.zeroValue143 }
def Try.keysB_ren : Go.Shelf.Ren := ⟨fun | 7 => 90 | 10 => 103 | n => n, fun | 23 => 69 | 26 => 3 | 3 => 26 | 28 => 81 | 0 => 0 | 27 => 80 | 33 => 108 | 4 => 4 | n => n, fun | n => n⟩
theorem Try.keysB : Go.Proofs.SlLaysZI.n7 Try.prog Try.keysB_ren := {
  mixed := by kernel_rfl
  f7 := ⟨Try.f90.name, by decide, Try.func90.trans (congrArg some (by kernel_rfl))⟩
  f10 := ⟨Try.f103.name, by decide, Try.func103.trans (congrArg some (by kernel_rfl))⟩
  t0 := Try.underlying0
  a0 := Try.isAgg0
  z0 := Try.sizeOf0
  v0 := Try.zeroValue0
  t4 := Try.underlying4
  a4 := Try.isAgg4
  z4 := Try.sizeOf4
  v4 := Try.zeroValue4
  t23 := Try.underlying69
  a23 := Try.isAgg69
  z23 := Try.sizeOf69
  v23 := Try.zeroValue69
  t26 := Try.underlying3
  a26 := Try.isAgg3
  z26 := Try.sizeOf3
  v26 := Try.zeroValue3
  t27 := Try.underlying80
  a27 := Try.isAgg80
  z27 := Try.sizeOf80
  v27 := Try.zeroValue80
  t28 := Try.underlying81
  a28 := Try.isAgg81
  z28 := Try.sizeOf81
  v28 := Try.zeroValue81
  t33 := Try.underlying108
  a33 := Try.isAgg108
  z33 := Try.sizeOf108
  v33 := Try.zeroValue108 }
end Go.Proofs

/- Walks: the keys of a map, sorted. -/
namespace Go.Proofs.Ytkpllkjionegeaa
open Go Go.RowKit Go.Maps Go.Sort Go.Shelf
open Go.WideElems (Fit rd rg)

/-- the value v reads as these ints -/
def IntsAt (w : World) (v : Value) (l : List Int) : Prop :=
  ∃ a cap, v = .slice a l.length cap ∧ l.length ≤ cap ∧ (l ≠ [] → ∃ b o, a = some ⟨b, o, none⟩ ∧ ∀ i (h : i < l.length), w.cell? ⟨b, o + i, none⟩ = some (.int .i64 l[i]))

def GivesInts (l : List Int) (w : World) (e : Ending) (w' : World) : Prop := ∃ v, e = .returned v ∧ IntsAt w' v l ∧ Ext w w'

theorem IntsAt.ext {w w' : World} {v : Value} {l : List Int} (h : IntsAt w v l) (hx : Ext w w') : IntsAt w' v l := by
  obtain ⟨a, cap, h1, h2, h3⟩ := h
  exact ⟨a, cap, h1, h2, fun hl => let ⟨b, o, h4, h5⟩ := h3 hl; ⟨b, o, h4, fun i hi => hx.at (h5 i hi)⟩⟩

theorem IntsAt.at {w : World} {a : Option Addr} {n cap : Nat} {l : List Int} (h : IntsAt w (.slice a n cap) l) {i : Nat} (hi : i < l.length) : ∃ b o, a = some ⟨b, o, none⟩ ∧ w.cell? ⟨b, o + i, none⟩ = some (.int .i64 (l.getD i 0)) := by
  obtain ⟨a', cap', h1, _, h3⟩ := h
  cases h1
  obtain ⟨b, o, h4, h5⟩ := h3 (by intro e; rw [e] at hi; simp at hi)
  exact ⟨b, o, h4, by rw [h5 i hi]; simp [List.getD, List.getElem?_eq_getElem hi]⟩

theorem ints_of_own {w : World} {base : Nat} {v : Value} {n : Nat} {l : List Int} (h : w.ownsRow base 3 1 v n (l.map (Value.int .i64))) : IntsAt w v l := by
  obtain ⟨h1, h2⟩ := h
  have hn : n = l.length := by simp at h1; omega
  rcases h2 with ⟨rfl, h0⟩ | ⟨g, cap, cur, rfl, hb, hg, hcap, hm, hs, ht⟩
  · have : l = [] := List.eq_nil_of_length_eq_zero (by omega)
    subst this; exact ⟨none, 0, rfl, Nat.le_refl _, fun h => absurd rfl h⟩
  · subst hn
    refine ⟨some ⟨g, 0, none⟩, cap, rfl, hcap, fun _ => ⟨g, 0, rfl, fun i hi => ?_⟩⟩
    have : w.cell? ⟨g, 0 + i, none⟩ = cur[i]? := by simp [World.cell?, hg]
    rw [this]
    have h3 : (l.map (Value.int .i64))[i]? = cur.toList[i]? := by
      rw [← ht, List.getElem?_take]
      simp [hi]
    rw [← Array.getElem?_toList, ← h3]
    simp [hi]

/-- the element relation that says nothing -/
def anyElem (_ : Value) : Option (DataW Unit × List MemPlace) := some (.nil, [])

/-- the keys are ints of 64 bits, and they are not many -/
def KeysIn (m : AL Value) : Prop := (∀ k ∈ AL.keys m, -9223372036854775808 ≤ k ∧ k ≤ 9223372036854775807) ∧ m.length ≤ 2000000

theorem owns_of_mapAt {w : World} {r : Nat} {m : AL Value} (h : MapAt w r m) (hk : KeysIn m) :
    ∃ D : DataW Unit, w.ownsMap Try.prog 3 anyElem r m.length D ∧ (intKeys D).Perm (AL.keys m) ∧ Maps.size D = m.length := by
  obtain ⟨es, clk, hb, hs, hp, hr⟩ := h
  have hlen : es.size = m.length := by have := hp.length_eq; simpa using this
  have hrd : ∀ x ∈ es.toList, ∃ k : Int, x.key = .int .i64 k ∧ k ∈ AL.keys m ∧ WideElems.rd Try.prog 3 anyElem x = some (.int .i64 k, .nil) := fun x hx => by
    obtain ⟨k, hk1, hm⟩ := entries_keys hp x hx
    have hkm : k ∈ AL.keys m := AL.mem_keys.2 ⟨_, hm⟩
    have hw := hk.1 k hkm
    refine ⟨k, hk1, hkm, ?_⟩
    have : keyOf Try.prog 3 (.int .i64 k) = some (.int .i64 k) := keyOf_int_mk Try.underlying3 (by simp [Lit.wf, IntKind.min, IntKind.max, IntKind.signed, IntKind.bits]; omega)
    simp [WideElems.rd, hk1, this, anyElem]
  refine ⟨_, ⟨es, clk, hb, ⟨by rw [hlen]; have := hk.2; unfold maxLen; omega, hs, fun x hx => let ⟨k, _, _, h⟩ := hrd x hx; ⟨_, h⟩⟩, Nat.le_of_eq hlen, rfl⟩, ?_, ?_⟩
  · show (((es.toList.map (rg Try.prog 3 anyElem)).foldr DataW.insert []).map fun p => Go.intOf p.1).Perm _
    refine ((Go.WideShapes.sorted_perm _).map _).trans ?_
    rw [List.map_map]
    have h1 : es.toList.map ((fun p => Go.intOf p.1) ∘ rg Try.prog 3 anyElem) = (es.toList.map kv).map (fun p => match p.1 with | .int _ k => k | _ => 0) := by
      rw [List.map_map]
      refine List.map_congr_left fun x hx => ?_
      obtain ⟨k, hk1, _, h⟩ := hrd x hx
      simp [rg, h, kv, hk1, Go.intOf]
    rw [h1]
    refine (hp.map _).trans (List.Perm.of_eq ?_)
    rw [List.map_map]
    rfl
  · show ((es.toList.map (rg Try.prog 3 anyElem)).foldr DataW.insert []).length = _
    rw [length_sorted]
    simpa using hlen

theorem mergeSort_keys {l : List Int} {m : AL Value} (h : l.Perm (AL.keys m)) (hr : AL.Rising m) : l.mergeSort (fun x y => decide (x ≤ y)) = AL.keys m := by
  rw [mergeSort_of_perm_i h]
  exact List.mergeSort_of_pairwise ((AL.keys_rising hr).imp fun h => by simp; omega)


theorem sorts (m : Nat) : AnyZI.SortsIn Try.prog Try.sortedA_ren Fence.wide m :=
  ⟨fun blk off cap ss W hH hblk hsz => callsIn_wide.2 (AnyM.slices_Sort_int Try.sortA blk off cap ss W hH hblk hsz),
   fun p cap W => callsIn_wide.2 (AnyM.slices_Sort_int_none Try.sortA p cap W)⟩

/-- maps.Keys of a map of what was told -/
theorem keysA_calls (mb : Option Nat) (w : World) : Calls Try.prog 46 #[.map mb] w fun e w' => e = .returned (.func (.func 72) #[] #[.pointer (some ⟨w.heap.size, 0, none⟩)]) ∧ w' = w.alloc (.cells #[.map mb] 66) :=
  callsIn_wide.1 (AnyZI.keys_in Try.keysA Fence.wide 5 trivial rfl mb w)

theorem keysB_calls (mb : Option Nat) (w : World) : Calls Try.prog 90 #[.map mb] w fun e w' => e = .returned (.func (.func 103) #[] #[.pointer (some ⟨w.heap.size, 0, none⟩)]) ∧ w' = w.alloc (.cells #[.map mb] 69) :=
  callsIn_wide.1 (AnyZI.keys_in Try.keysB Fence.wide 5 trivial rfl mb w)

theorem sortedA_calls (Bm r : Nat) (m : AL Value) (w : World) (h : MapAt w r m) (hk : KeysIn m) (hc : w.cell? ⟨Bm, 0, none⟩ = some (.map (some r))) :
    Calls Try.prog 45 #[.func (.func 72) #[] #[.pointer (some ⟨Bm, 0, none⟩)]] w (GivesInts (AL.keys m) w) := by
  obtain ⟨D, hown, hperm, hsize⟩ := owns_of_mapAt h hk
  have hseq : SeqGives Fence.wide 2 Try.prog 72 #[.pointer (some ⟨Bm, 0, none⟩)] encZ (fun ss => ss.Perm (intKeys D)) (Maps.size D) w :=
    AnyZI.keys_gives (ρ := Try.keysA_ren) { Try.keysA with } Fence.wide _ trivial rfl (by omega) Bm r _ D w (World.block_lt_of_cell? w _ hc) hc hown
  have cS := AnyZI.sorted_in Try.sortedA Fence.wide 5 trivial trivial trivial trivial rfl (by omega) (sorts _) (enters_of Try.func71 (by kernel_rfl) rfl) 72 #[.pointer (some ⟨Bm, 0, none⟩)] trivial (enters_of Try.func72 (by kernel_rfl) rfl) _ _
    (by rw [hsize]; have := hk.2; unfold maxLen; omega) (by rw [hsize]; have := hk.2; omega) w hseq
  refine (callsIn_wide.1 cS).mono ?_
  rintro e w' ⟨v, ss, rfl, hS, hrow, _, hb⟩
  rw [mergeSort_keys (hS.trans hperm) h.rising] at hrow
  exact ⟨v, rfl, ints_of_own hrow, hb⟩

theorem sortedB_calls (Bm r : Nat) (m : AL Value) (w : World) (h : MapAt w r m) (hk : KeysIn m) (hc : w.cell? ⟨Bm, 0, none⟩ = some (.map (some r))) :
    Calls Try.prog 45 #[.func (.func 103) #[] #[.pointer (some ⟨Bm, 0, none⟩)]] w (GivesInts (AL.keys m) w) := by
  obtain ⟨D, hown, hperm, hsize⟩ := owns_of_mapAt h hk
  have hseq : SeqGives Fence.wide 2 Try.prog 103 #[.pointer (some ⟨Bm, 0, none⟩)] encZ (fun ss => ss.Perm (intKeys D)) (Maps.size D) w :=
    AnyZI.keys_gives (ρ := Try.keysB_ren) { Try.keysB with } Fence.wide _ trivial rfl (by omega) Bm r _ D w (World.block_lt_of_cell? w _ hc) hc hown
  have cS := AnyZI.sorted_in Try.sortedA Fence.wide 5 trivial trivial trivial trivial rfl (by omega) (sorts _) (enters_of Try.func71 (by kernel_rfl) rfl) 103 #[.pointer (some ⟨Bm, 0, none⟩)] trivial (enters_of Try.func103 (by kernel_rfl) rfl) _ _
    (by rw [hsize]; have := hk.2; unfold maxLen; omega) (by rw [hsize]; have := hk.2; omega) w hseq
  refine (callsIn_wide.1 cS).mono ?_
  rintro e w' ⟨v, ss, rfl, hS, hrow, _, hb⟩
  rw [mergeSort_keys (hS.trans hperm) h.rising] at hrow
  exact ⟨v, rfl, ints_of_own hrow, hb⟩

theorem sortedB_nil (Bm : Nat) (w : World) (hc : w.cell? ⟨Bm, 0, none⟩ = some (.map none)) :
    Calls Try.prog 45 #[.func (.func 103) #[] #[.pointer (some ⟨Bm, 0, none⟩)]] w (GivesInts [] w) := by
  have hseq : SeqGives Fence.wide 2 Try.prog 103 #[.pointer (some ⟨Bm, 0, none⟩)] encZ (fun ss : List Int => ss = []) 0 w :=
    AnyZI.keys_gives_nil (ρ := Try.keysB_ren) { Try.keysB with } Fence.wide _ trivial rfl Bm w (World.block_lt_of_cell? w _ hc) hc
  have cS := AnyZI.sorted_in Try.sortedA Fence.wide 5 trivial trivial trivial trivial rfl (by omega) (sorts _) (enters_of Try.func71 (by kernel_rfl) rfl) 103 #[.pointer (some ⟨Bm, 0, none⟩)] trivial (enters_of Try.func103 (by kernel_rfl) rfl) _ 0
    (Nat.zero_le _) (by omega) w hseq
  refine (callsIn_wide.1 cS).mono ?_
  rintro e w' ⟨v, ss, rfl, rfl, hrow, _, hb⟩
  have hrow' : w'.ownsRow w.heap.size 3 1 v ([] : List Int).length ((([] : List Int).mergeSort (fun x y => decide (x ≤ y))).map encZ) := hrow
  exact ⟨v, rfl, ints_of_own (l := []) (by simpa using hrow'), hb⟩
end Go.Proofs.Ytkpllkjionegeaa

/- Walks: the value that enough peers told (count). -/
namespace Go.Proofs.Ytkpllkjionegeaa
open Go Go.RowKit

section
variable {P : Program} (w : World) {ops : Array Oper} {rest : List Oper} {o : Oper} {a : Act} {Q : Exit → Act → World → Prop}

theorem wpList_range (hg : o.guard = none) (m : Operand) (t e : TypeId) (hop : o.op = Op.range t m) (ht : P.underlying t = some (.map 3 e)) (r : Nat) (mm : AL Value) (hm : a.eval m = .map (some r)) (h : MapAt w r mm)
    (hK : ∀ w', IterAt w' w.heap.size r mm → Ext w w' → w'.heap.size = w.heap.size + 1 → wpList P ops Q rest (a.put o.dst (.pointer (some ⟨w.heap.size, 0, none⟩))) w') : wpList P ops Q (o :: rest) a w := by
  refine wpList_plain hg fun K' hK' => ?_
  obtain ⟨w', hrun, h1, h2, h3⟩ := h.range ht
  unfold Oper.wp
  simp [execOp, hop, hm, hrun, Result.andThen]
  exact hK' _ _ (hK w' h1 h2 h3)

theorem wpList_next (hg : o.guard = none) (it : Operand) (hop : o.op = Op.next it false) (i r : Nat) (todo : List (Int × Value)) (hit : a.eval it = .pointer (some ⟨i, 0, none⟩)) (h : IterAt w i r todo)
    (hDone : todo = [] → wpList P ops Q rest (a.put o.dst (.tuple #[.bool false])) w)
    (hMore : ∀ (k : Int) (v : Value) (todo' : List (Int × Value)) (w' : World), todo.Perm ((k, v) :: todo') → IterAt w' i r todo' → But i w w' → (Instr.entry (.pointer (some ⟨i, 0, none⟩))).run P w' = .ok (.tuple #[.int .i64 k, v]) w' →
      wpList P ops Q rest (a.put o.dst (.tuple #[.bool true, .int .i64 k, v])) w') : wpList P ops Q (o :: rest) a w := by
  refine wpList_plain hg fun K' hK' => ?_
  unfold Oper.wp
  rcases h.next (P := P) o.type with ⟨h0, hrun⟩ | ⟨p, todo', w', hp, hrun, h1, h2, h3⟩
  · simp [execOp, hop, hit, hrun, Result.andThen]
    exact hK' _ _ (hDone h0)
  · simp [execOp, hop, hit, hrun, Result.andThen]
    exact hK' _ _ (hMore p.1 p.2 todo' w' hp h1 h2 h3)
end

/-- how many are left to an iterator -/
def iterLeft (i r : Nat) (w : World) : Nat :=
  match w.heap[i]?, w.heap[r]? with
  | some (.mapIter _ _ seen _), some (.map es _) => (leftOf es seen).size
  | _, _ => 0

theorem IterAt.left {w : World} {i r : Nat} {todo : List (Int × Value)} (h : IterAt w i r todo) : iterLeft i r w = todo.length := by
  obtain ⟨es, clk, since, seen, c0, h1, h2, _, _, _, _, h6⟩ := h
  have := h6.length_eq
  simp only [List.length_map, Array.length_toList] at this
  simp [iterLeft, h1, h2, this]

/-- an iterator has stepped: nothing older has turned -/
theorem But.ext {w w1 w2 : World} {i : Nat} (h : Ext w w1) (hb : But i w1 w2) (hi : w.heap.size ≤ i) : Ext w w2 :=
  ⟨hb.os.trans h.os, hb.tape.trans h.tape, hb.output.trans h.output, by rw [hb.size]; exact h.size, fun b hlt => (hb.block b (by omega)).trans (h.block b hlt)⟩

/-- how many told a value -/
def cnt (t : Told) (b : Bytes) : Nat := (t.filter fun q => q.2 == b).length

theorem cnt_keys {t : Told} (hr : AL.Rising t) (b : Bytes) : cnt t b = (AL.keys t).countP (fun k => AL.get? t k == some b) := by
  unfold cnt AL.keys
  rw [List.countP_map, List.countP_eq_length_filter]
  congr 1
  refine List.filter_congr fun q hq => ?_
  obtain ⟨k, v⟩ := q
  simp only [Function.comp, AL.get?_of_mem hr hq]
  cases h : (v == b) <;> simp_all

theorem cnt_entries {t : Told} {m : AL Value} {R : Value → Bytes → Prop} (h : ARel R m t) (hm : AL.Rising m) (hr : AL.Rising t) (b : Bytes) : cnt t b = m.countP (fun p => AL.get? t p.1 == some b) := by
  rw [cnt_keys hr, ← h.keys hm hr, AL.keys, List.countP_map]; rfl

theorem cnt_le (t : Told) (b : Bytes) : cnt t b ≤ t.length := List.length_filter_le _ _

/-- the call hands back a value, or none -/
def GivesMaybe (o : Option Bytes) (w : World) (e : Ending) (w' : World) : Prop := ∃ v, e = .returned (.tuple #[v, .bool o.isSome]) ∧ BytesAt w' v (o.getD []) ∧ Ext w w'

theorem count_find {t : Told} (hr : AL.Rising t) (least : Int) {k : Nat} (hk : k < (AL.keys t).length) (hno : ∀ j (h : j < k), (cnt t ((AL.get? t ((AL.keys t)[j]'(by omega))).getD []) : Int) < least)
    (hyes : least ≤ (cnt t ((AL.get? t ((AL.keys t)[k])).getD []) : Int)) : count t least = some ((AL.get? t ((AL.keys t)[k])).getD []) := by
  have hkt : k < t.length := by simpa [AL.keys] using hk
  have hget : ∀ j (h : j < t.length), AL.get? t t[j].1 = some t[j].2 := fun j h => AL.get?_of_mem hr (List.getElem_mem h)
  unfold count
  rw [show (fun p : Int × Bytes => decide (least ≤ ((t.filter fun q => q.2 == p.2).length : Int))) = (fun p => decide (least ≤ (cnt t p.2 : Int))) from rfl]
  have : t.find? (fun p => decide (least ≤ (cnt t p.2 : Int))) = some t[k] := by
    rw [List.find?_eq_some_iff_getElem]
    simp only [AL.keys, List.getElem_map, hget k hkt, Option.getD_some] at hyes
    refine ⟨by simpa using hyes, k, hkt, rfl, fun j hj => ?_⟩
    have := hno j hj
    simp only [AL.keys, List.getElem_map, hget j (by omega), Option.getD_some] at this
    simp; omega
  rw [this]
  simp [AL.keys, hget k hkt]

theorem count_none {t : Told} (hr : AL.Rising t) (least : Int) (hno : ∀ j (h : j < (AL.keys t).length), (cnt t ((AL.get? t ((AL.keys t)[j])).getD []) : Int) < least) : count t least = none := by
  unfold count
  rw [Option.map_eq_none_iff, List.find?_eq_none]
  intro p hp
  obtain ⟨j, hj, rfl⟩ := List.getElem_of_mem hp
  have hget : AL.get? t t[j].1 = some t[j].2 := AL.get?_of_mem hr (List.getElem_mem hj)
  have := hno j (by simpa [AL.keys] using hj)
  simp only [AL.keys, List.getElem_map, hget, Option.getD_some] at this
  unfold cnt at this
  simp; omega

set_option maxRecDepth 100000 in
set_option maxHeartbeats 400000 in
theorem count_nil (least : Int) (w : World) : Calls Try.prog 82 #[.map none, .int .i64 least] w (GivesMaybe (count [] least) w) := by
  go_enter Try.func82, Try.ntmps82
  go_wp2_with (first
    | (go_at_call 90; refine (keysB_calls _ _).mono ?_; rintro e w1 ⟨rfl, rfl⟩)
    | (go_at_call 45; refine (sortedB_nil w.heap.size _ (boxed w _ 69 |>.2.1 0)).mono ?_; rintro e w2 ⟨v2, rfl, hi2, hx2⟩; obtain ⟨A2, C2, rfl, _⟩ := id hi2))
  go_loopw [15] (fun v wr => v = .int .i64 0 ∧ wr = w2) (fun _ _ => 0)
  case atStart => exact ⟨rfl, rfl⟩
  case round =>
    obtain ⟨rfl, rfl⟩ := hrel
    go_wp2
    go_ret2
    exact ⟨_, rfl, BytesAt.nil _, Ext.trans (Ext.al (Ext.refl w) _) hx2⟩

set_option maxRecDepth 100000 in
set_option maxHeartbeats 1000000 in
theorem count_some (r : Nat) (t : Told) (least : Int) (w : World) (h : InnerAt w r t) (hk : ∀ k ∈ AL.keys t, 0 ≤ k ∧ k ≤ 1048576) (hl : t.length ≤ 1048577) :
    Calls Try.prog 82 #[.map (some r), .int .i64 least] w (GivesMaybe (count t least) w) := by
  obtain ⟨m, hm, hri, hrel⟩ := id h
  have hkeys : AL.keys m = AL.keys t := hrel.keys hm.rising hri
  have hlen : m.length = t.length := by have := congrArg List.length hkeys; simpa [AL.keys] using this
  have hki : KeysIn m := ⟨fun k hk' => by have := hk k (hkeys ▸ hk'); omega, by omega⟩
  obtain ⟨Z, hZ⟩ : ∃ Z, Z = AL.keys t := ⟨_, rfl⟩
  have hzl : Z.length ≤ 1048577 := by rw [hZ]; simpa [AL.keys] using hl
  have HH := Lib.hid h
  have HM := Lib.hid hm
  have HKI := Lib.hid hki
  have HKE := Lib.hid hkeys
  have HZ := Lib.hid hZ
  have HRI := Lib.hid hri
  have HREL := Lib.hid hrel
  have HZL := Lib.hid hzl
  clear h hm hki hkeys hZ hri hrel hk hl hlen hzl
  go_enter Try.func82, Try.ntmps82
  go_wp2_with (first
    | (go_at_call 90; refine (keysB_calls _ _).mono ?_; rintro e w1 ⟨rfl, rfl⟩)
    | (go_at_call 45; refine (sortedB_calls w.heap.size r m _ (HM.out.ext ((Ext.refl w).alloc (Nat.le_refl _) _)) HKI.out (boxed w _ 69 |>.2.1 0)).mono ?_; rw [HKE.out, ← HZ.out]; rintro e w2 ⟨v2, rfl, hi2, hx2⟩; obtain ⟨A2, C2, rfl, _⟩ := id hi2))
  have HX2 : Hid (Ext w w2) := Lib.hid (Ext.trans (Ext.al (Ext.refl w) _) hx2)
  have HI2 := Lib.hid hi2
  clear hi2 hx2
  go_loopw [15] (fun v wr => ∃ k : Nat, k ≤ Z.length ∧ v = .int .i64 k ∧ Ext w2 wr ∧ ∀ j (h : j < k), (cnt t ((AL.get? t (Z.getD j 0)).getD []) : Int) < least) (fun v _ => Z.length - (intOf v).toNat)
  case atStart => exact ⟨0, Nat.zero_le _, rfl, Ext.refl _, fun j h => by omega⟩
  case round =>
    obtain ⟨k, hk, rfl, hxr, hno⟩ := hrel
    have HXR := Lib.hid hxr
    have HNO := Lib.hid hno
    clear hxr hno
    by_cases hlt : k < Z.length
    · obtain ⟨cbk, co, hA, hcell⟩ := HI2.out.at hlt
      have hcell := HXR.out.at hcell
      have hmem : Z.getD k 0 ∈ AL.keys t := by
        rw [← HZ.out, List.getD, List.getElem?_eq_getElem hlt]; exact List.getElem_mem hlt
      obtain ⟨v0, hv0⟩ := Option.isSome_iff_exists.1 ((AL.mem_keys_get? HRI.out).1 hmem)
      obtain ⟨zk, hzk⟩ : ∃ z, z = Z.getD k 0 := ⟨_, rfl⟩
      rw [← hzk] at hcell hv0
      have HZK := Lib.hid hzk
      have HV0 := Lib.hid hv0
      have HE : Hid (Ext w wr) := Lib.hid (Ext.trans HX2.out HXR.out)
      have HIN : Hid (InnerAt wr r t) := Lib.hid (HH.out.turn (Turn.of_ext (S := fun _ => False) HE.out) (fun h => h))
      obtain ⟨xk, hl1, hl2, hxk⟩ := inner_look HIN.out zk
      clear hl1
      have HXK := Lib.hid hxk
      obtain ⟨wo, hwo⟩ : ∃ wo : World, wo = wr := ⟨_, rfl⟩
      subst hwo
      clear hzk hv0 hmem hxk
      subst hA
      go_wp2_with (first
        | (at_range; refine wpList_range _ rfl _ 69 26 rfl Try.underlying69 r m rfl (HM.out.ext HE.out) ?_; intro w5 hit5 hx5 hs5)
        | go_in)
      go_frame
      have HM5 : Hid (MapAt w r m) := HM
      have HIT := Lib.hid hit5
      have HS5 := Lib.hid hs5
      have HX5 := Lib.hid hx5
      have HL2 := Lib.hid hl2
      have HLL := Lib.hid hlt
      clear hit5 hs5 hx5 hl2 hcell hlt
      go_loopw [8] (fun v wi => ∃ (n : Int) (todo : List (Int × Value)), v = .int .i64 n ∧ 0 ≤ n ∧ IterAt wi wo.heap.size r todo ∧ Ext wo wi ∧ (∀ p ∈ todo, p ∈ m) ∧ n + (todo.countP (fun p => AL.get? t p.1 == some v0) : Int) = (cnt t v0 : Int)) (fun _ wi => iterLeft wo.heap.size r wi)
      case atStart => exact ⟨0, m, rfl, Int.le_refl _, HIT.out, HX5.out, fun p hp => hp, by rw [cnt_entries HREL.out HM.out.rising HRI.out]; simp⟩
      case round =>
        obtain ⟨n, todo, rfl, hn0, hit, hxi, hsub, hcnt⟩ := hrel
        have hn1 : n ≤ 1048577 := by
          have h1 := cnt_le t v0
          have h2 : t.length ≤ 1048577 := by have := HZL.out; rw [HZ.out] at this; simpa [AL.keys] using this
          omega
        have HITi := Lib.hid hit
        have HXI := Lib.hid hxi
        have HSUB := Lib.hid hsub
        have HCNT := Lib.hid hcnt
        clear hit hxi hsub hcnt
        go_wp2_with (first
          | (at_next; refine wpList_next _ rfl _ rfl wo.heap.size r todo rfl HITi.out ?_ ?_)
          | go_in)
        · intro htodo
          have hl3 := HL2.out _ ((Ext.trans HE.out HXI.out).block r HM.out.lt |>.trans (HE.out.block r HM.out.lt).symm)
          have hnc : n = (cnt t v0 : Int) := by have := HCNT.out; rw [htodo] at this; simpa using this
          have HNC := Lib.hid hnc
          clear hnc htodo
          by_cases hge : least ≤ n
          · go_wp2
            go_ret2
            have hfin : count t least = some v0 := by
              have h1 := count_find (t := t) HRI.out least (k := k) (by rw [← HZ.out]; exact HLL.out)
                (fun j hj => by have := HNO.out j hj; simp only [HZ.out, List.getD, List.getElem?_eq_getElem (show j < (AL.keys t).length by rw [← HZ.out]; have := HLL.out; omega)] at this; simpa using this)
              have h2 : (AL.keys t)[k]'(by rw [← HZ.out]; exact HLL.out) = zk := by
                rw [HZK.out]
                simp only [HZ.out, List.getD, List.getElem?_eq_getElem (show k < (AL.keys t).length by rw [← HZ.out]; exact HLL.out)]
                simp
              rw [h2, HV0.out] at h1
              have h3 := HNC.out
              exact h1 (by simpa using (by omega : least ≤ (cnt t v0 : Int)))
            refine ⟨xk, ?_, ?_, Ext.trans HE.out HXI.out⟩
            · rw [hfin]; rfl
            · have := HXK.out.ext HXI.out
              rw [HV0.out] at this
              rw [hfin]; exact this
          · have hlt2 : n < least := by omega
            clear hge
            have hkz := HLL.out
            have hkz2 := HZL.out
            go_wp2
            go_roundw
            case rel =>
              refine ⟨k + 1, by omega, by go_num, Ext.trans HXR.out HXI.out, fun j hj => ?_⟩
              by_cases hjk : j = k
              · subst hjk
                rw [← HZK.out, HV0.out]
                have := HNC.out
                simp; omega
              · exact HNO.out j (by omega)
            case measure => simp [intOf]; omega
        · intro kk vv todo' wj hperm hitj hbj hent
          have hmem : (kk, vv) ∈ m := HSUB.out _ (hperm.mem_iff.2 (by simp))
          obtain ⟨b, hb1, hb2⟩ := HREL.out.fwd (AL.get?_of_mem HM.out.rising hmem)
          have hxj : Ext wo wj := But.ext HXI.out hbj (Nat.le_refl _)
          have hl3 := HL2.out wj ((Ext.trans HE.out hxj).block r HM.out.lt |>.trans (HE.out.block r HM.out.lt).symm)
          have hbv : BytesAt wj vv b := hb2.ext (Ext.trans HE.out hxj)
          have hxk : BytesAt wj xk v0 := by have := HXK.out.ext hxj; rw [HV0.out] at this; exact this
          have hc2 : (todo.countP (fun p => AL.get? t p.1 == some v0)) = todo'.countP (fun p => AL.get? t p.1 == some v0) + (if b == v0 then 1 else 0) := by
            rw [hperm.countP_eq, List.countP_cons, hb1]
            cases hbe : (b == v0) <;> simp_all
          have hlenp : todo.length = todo'.length + 1 := by have := hperm.length_eq; simpa using this
          have HC2 := Lib.hid hc2
          have HITJ := Lib.hid hitj
          have HXJ := Lib.hid hxj
          have HB1 := Lib.hid hbv
          have HB2 := Lib.hid hxk
          have HLP := Lib.hid hlenp
          have HPE := Lib.hid hperm
          clear hc2 hitj hxj hbv hxk hlenp hperm hmem hb1 hb2 hbj
          cases hbe : (b == v0) with
          | true =>
            have HBE := Lib.hid hbe
            clear hbe
            go_wp2_with (go_at_call 47; refine (equal_calls _ _ b v0 _ HB1.out HB2.out).mono ?_; rw [HBE.out]; rintro e w7 ⟨rfl, rfl⟩)
            go_roundw
            case rel =>
              refine ⟨n + 1, todo', by go_num, by omega, HITJ.out, HXJ.out, fun p hp => HSUB.out p (HPE.out.mem_iff.2 (by simp [hp])), ?_⟩
              have h1 := HCNT.out
              have h2 := HC2.out
              rw [HBE.out] at h2
              rw [h2] at h1
              simp at h1 ⊢; omega
            case measure => rw [HITJ.out.left, HITi.out.left]; have := HLP.out; omega
          | false =>
            have HBE := Lib.hid hbe
            clear hbe
            go_wp2_with (go_at_call 47; refine (equal_calls _ _ b v0 _ HB1.out HB2.out).mono ?_; rw [HBE.out]; rintro e w7 ⟨rfl, rfl⟩)
            go_roundw
            case rel =>
              refine ⟨n, todo', rfl, hn0, HITJ.out, HXJ.out, fun p hp => HSUB.out p (HPE.out.mem_iff.2 (by simp [hp])), ?_⟩
              have h1 := HCNT.out
              have h2 := HC2.out
              rw [HBE.out] at h2
              rw [h2] at h1
              simp at h1 ⊢; omega
            case measure => rw [HITJ.out.left, HITi.out.left]; have := HLP.out; omega
    · go_wp2
      go_ret2
      have hfin : count t least = none := by
        refine count_none HRI.out least fun j hj => ?_
        have := HNO.out j (by have h1 : (AL.keys t).length = Z.length := by rw [HZ.out]
                              omega)
        simp only [HZ.out, List.getD, List.getElem?_eq_getElem hj] at this
        simpa using this
      refine ⟨.slice none 0 0, ?_, ?_, Ext.trans HX2.out HXR.out⟩
      · rw [hfin]; rfl
      · rw [hfin]; exact BytesAt.nil _

/-- 'count' of a map that may be nil -/
theorem count_calls (mv : Option Nat) (t : Told) (least : Int) (w : World) (h : (mv = none ∧ t = []) ∨ ∃ r, mv = some r ∧ InnerAt w r t) (hk : ∀ k ∈ AL.keys t, 0 ≤ k ∧ k ≤ 1048576) (hl : t.length ≤ 1048577) :
    Calls Try.prog 82 #[.map mv, .int .i64 least] w (GivesMaybe (count t least) w) := by
  rcases h with ⟨rfl, rfl⟩ | ⟨r, rfl, h⟩
  · exact count_nil least w
  · exact count_some r t least w h hk hl
end Go.Proofs.Ytkpllkjionegeaa

/- Walks: what is prepared in a view; may a proposal be prepared (prepared, fit). -/
namespace Go.Proofs.Ytkpllkjionegeaa
open Go Go.RowKit

theorem inner_arg {w : World} {r : Nat} {m : AL Told} {im : AL Nat} (h : TMapAt w r m im) (view : Int) :
    (AL.get? im view = none ∧ inner m view = []) ∨ ∃ id, AL.get? im view = some id ∧ InnerAt w id (inner m view) := by
  rcases inner_of h view with ⟨h1, _, h2⟩ | ⟨id, h1, _, h2⟩
  · exact Or.inl ⟨h1, h2⟩
  · exact Or.inr ⟨id, h1, h2⟩

set_option maxRecDepth 100000 in
set_option maxHeartbeats 400000 in
theorem prepared_calls (cb : Nat) (c : Core) (L : Lay) (view : Int) (w : World) (hc : CoreAt w cb c L) (hw : Wf c) :
    Calls Try.prog 80 #[.pointer (some ⟨cb, 0, none⟩), .int .i64 view] w (GivesMaybe (c.prepared view) w) := by
  have hlt := hc.lt
  have h0 := hc.c0
  have h8 := hc.c8
  have ho := outer_look hc.preps view
  have hrl := hc.preps.lt
  have HC := Lib.hid hc
  have HW := Lib.hid hw
  clear hc hw
  go_enter Try.func80, Try.ntmps80
  go_wp2
  refine wp_region_T [] (.pure 0 (.pure 1 (.pure 2 (.pure 4 (.pure 6 (.pure 7 (.pure 8 (.take 3 (.take 5 (.take 9 (.one 10 (.one 11 (.pure 12 (.pure 13 (.pure 14 (.pure 15 .nil)))))))))))))))) (by kernel_rfl) (by kernel_rfl) ?_
  iterate 7 (refine' wpT_pure rfl rfl (fun w' => ?_) ?_; rotate_left 1; (focus ((try go_simp); (try go_bits); (first | done | with_reducible rfl))); simp only [Act.put, List.setIfInBounds_toArray, List.set_cons_zero, List.set_cons_succ])
  iterate 3 (first | (refine' wpT_take_dddd rfl rfl (fun w' hc hl hsz => ?_) ?_; rotate_left 1; (focus ((try go_simp); (try go_bits); (first | done | with_reducible rfl))); simp only [Act.put, List.setIfInBounds_toArray, List.set_cons_zero, List.set_cons_succ]) | (refine' wpT_take_ddd rfl rfl (fun w' hc hl hsz => ?_) ?_; rotate_left 1; (focus ((try go_simp); (try go_bits); (first | done | with_reducible rfl))); simp only [Act.put, List.setIfInBounds_toArray, List.set_cons_zero, List.set_cons_succ]) | (refine' wpT_take_dd rfl rfl (fun w' hc hl hsz => ?_) ?_; rotate_left 1; (focus ((try go_simp); (try go_bits); (first | done | with_reducible rfl))); simp only [Act.put, List.setIfInBounds_toArray, List.set_cons_zero, List.set_cons_succ]) | (refine' wpT_take_d rfl rfl (fun w' hc hl hsz => ?_) ?_; rotate_left 1; (focus ((try go_simp); (try go_bits); (first | done | with_reducible rfl))); simp only [Act.put, List.setIfInBounds_toArray, List.set_cons_zero, List.set_cons_succ]))
  refine wpT_one rfl rfl (fun K hK => ?_)
  go_wp2_with (go_at_call 89; refine (quorum_calls c.n (by have := HW.out.n4; omega) HW.out.n64 _).mono ?_; rintro e w1 ⟨rfl, rfl⟩)
  refine hK _ _ (Ext.refl _) ?_
  clear hK K
  refine wpT_one rfl rfl (fun K hK => ?_)
  go_wp2_with (go_at_call 82; refine (count_calls _ (inner c.preps view) (quorum c.n) _ (inner_arg (HC.out.ext (Ext.refl w).dr).preps view) (fun k hk => by have := (HW.out.preps.inner view).keys.1 k hk; omega) (by have := (HW.out.preps.inner view).keys.2; omega)).mono ?_; rintro e w2 ⟨v, rfl, hb, hx⟩)
  refine hK _ _ hx ?_
  clear hK K
  iterate 4 (refine' wpT_pure rfl rfl (fun w' => ?_) ?_; rotate_left 1; (focus ((try go_simp); (try go_bits); (first | done | with_reducible rfl))); simp only [Act.put, List.setIfInBounds_toArray, List.set_cons_zero, List.set_cons_succ])
  refine wpT_nil ?_
  go_wp2
  go_ret2
  exact ⟨v, rfl, hb, Ext.undrew hx⟩

/-- the value accV is a function that tells of bytes whether they are accepted; C: the blocks that it looks at -/
structure AccAt (w : World) (accV : Value) (acc : Bytes → Bool) (C : List Nat) (k : FuncId) (caps : Array Value) : Prop where
  val : accV = .func (.func k) #[] caps
  lt : ∀ b ∈ C, b < w.heap.size
  ent : ∀ args w, (callFunc k args).run Try.prog w = .ok (.enter k args) w
  calls : ∀ w', w.heap.size ≤ w'.heap.size → (∀ b ∈ C, w'.heap[b]? = w.heap[b]?) → ∀ v l, BytesAt w' v l → l.length ≤ 4096 → Calls Try.prog k (#[v] ++ caps) w' (fun e w'' => e = .returned (.bool (acc l)) ∧ Ext w' w'')

theorem AccAt.turn {S : Nat → Prop} {w w' : World} {accV : Value} {acc : Bytes → Bool} {C : List Nat} {k : FuncId} {caps : Array Value} (h : AccAt w accV acc C k caps) (ht : Turn S w w') (hs : ∀ b ∈ C, ¬ S b) : AccAt w' accV acc C k caps :=
  ⟨h.val, fun b hb => Nat.lt_of_lt_of_le (h.lt b hb) ht.size, h.ent, fun w2 hsz hk => h.calls w2 (Nat.le_trans ht.size hsz) (fun b hb => (hk b hb).trans (ht.block b (h.lt b hb) (hs b hb)))⟩

theorem AccAt.ext {w w' : World} {accV : Value} {acc : Bytes → Bool} {C : List Nat} {k : FuncId} {caps : Array Value} (h : AccAt w accV acc C k caps) (hx : Ext w w') : AccAt w' accV acc C k caps :=
  h.turn (Turn.of_ext (S := fun _ => False) hx) (fun _ _ h => h)

theorem AccAt.call {w : World} {accV : Value} {acc : Bytes → Bool} {C : List Nat} {k : FuncId} {caps : Array Value} (h : AccAt w accV acc C k caps) {v : Value} {l : Bytes} (hv : BytesAt w v l) (hl : l.length ≤ 4096) :
    Calls Try.prog k (#[v] ++ caps) w (fun e w'' => e = .returned (.bool (acc l)) ∧ Ext w w'') := h.calls w (Nat.le_refl _) (fun _ _ => rfl) v l hv hl

def GivesBool (b : Bool) (w : World) (e : Ending) (w' : World) : Prop := e = .returned (.bool b) ∧ Ext w w'



set_option maxRecDepth 100000 in
set_option maxHeartbeats 400000 in
theorem fit_alien (cb : Nat) (c : Core) (L : Lay) (acc : Bytes → Bool) (C : List Nat) (k : FuncId) (caps : Array Value) (A : Option Addr) (N cap : Nat) (p : Bytes × Int) (w : World) (hc : CoreAt w cb c L) (hw : Wf c) (ha : AccAt w L.acc acc C k caps) (hp : BytesAt w (.slice A N cap) p.1) (hl : p.1.length ≤ 4096) (hacc : acc p.1 = false) :
    Calls Try.prog 79 #[.pointer (some ⟨cb, 0, none⟩), .agg #[.slice A N cap, .int .i64 p.2]] w (GivesBool (c.fit acc p) w) := by
  have HF := Lib.hid (show c.fit acc p = false by simp [Core.fit, hacc])
  have hbox := boxed w #[.slice A N cap, .int .i64 p.2] 103
  obtain ⟨W, hW⟩ : ∃ W, W = w.alloc (.cells #[.slice A N cap, .int .i64 p.2] 103) := ⟨_, rfl⟩
  rw [← hW] at hbox
  obtain ⟨hx, hcells, hsz⟩ := hbox
  have hcW := hc.ext hx
  have hpW := hp.ext hx
  have haW := ha.ext hx
  have hlt := hc.lt
  have hlt2 := hcW.lt
  have hvb : w.heap.size < W.heap.size := by omega
  have v0 : W.cell? ⟨w.heap.size, 0, none⟩ = some (.slice A N cap) := hcells 0
  have v1 : W.cell? ⟨w.heap.size, 1, none⟩ = some (.int .i64 p.2) := hcells 1
  have c3 := hcW.c3
  rw [ha.val] at c3
  have hent := ha.ent
  have HC := Lib.hid hcW
  have HP := Lib.hid hpW
  have HA := Lib.hid haW
  have HW := Lib.hid hw
  have HX := Lib.hid hx
  have HL := Lib.hid hl
  have HWE := Lib.hid hW
  clear hc hp ha hw hcW hpW haW hx hcells hsz hW hl
  go_enter Try.func79, Try.ntmps79
  go_wp2
  rw [← HWE.out]
  refine wp_region_T [] (.pure 0 (.pure 1 (.pure 2 (.pure 4 (.take 3 (.take 5 (.one 6 (.one 7 (.pure 8 .nil))))))))) (by kernel_rfl) (by kernel_rfl) ?_
  iterate 4 (refine' wpT_pure rfl rfl (fun w' => ?_) ?_; rotate_left 1; (focus ((try go_simp); (try go_bits); (first | done | with_reducible rfl))); simp only [Act.put, List.setIfInBounds_toArray, List.set_cons_zero, List.set_cons_succ])
  iterate 2 (first | (refine' wpT_take_dddd rfl rfl (fun w' hc hl hsz => ?_) ?_; rotate_left 1; (focus ((try go_simp); (try go_bits); (first | done | with_reducible rfl))); simp only [Act.put, List.setIfInBounds_toArray, List.set_cons_zero, List.set_cons_succ]) | (refine' wpT_take_ddd rfl rfl (fun w' hc hl hsz => ?_) ?_; rotate_left 1; (focus ((try go_simp); (try go_bits); (first | done | with_reducible rfl))); simp only [Act.put, List.setIfInBounds_toArray, List.set_cons_zero, List.set_cons_succ]) | (refine' wpT_take_dd rfl rfl (fun w' hc hl hsz => ?_) ?_; rotate_left 1; (focus ((try go_simp); (try go_bits); (first | done | with_reducible rfl))); simp only [Act.put, List.setIfInBounds_toArray, List.set_cons_zero, List.set_cons_succ]) | (refine' wpT_take_d rfl rfl (fun w' hc hl hsz => ?_) ?_; rotate_left 1; (focus ((try go_simp); (try go_bits); (first | done | with_reducible rfl))); simp only [Act.put, List.setIfInBounds_toArray, List.set_cons_zero, List.set_cons_succ]))
  refine wpT_one rfl rfl (fun K hK => ?_)
  go_wp2_with (go_at_call 41; refine (clone_calls _ _ _ (HP.out.ext (Ext.refl W).dr) (by have := HL.out; omega)).mono ?_; rintro e w1 ⟨v', rfl, hb1, he1⟩)
  refine hK _ _ he1 ?_
  clear hK K
  refine wpT_one rfl rfl (fun K hK => ?_)
  go_simp
  refine ((HA.out.ext (Ext.undrew he1)).call hb1 HL.out).mono ?_
  rintro e w2 ⟨rfl, he2⟩
  go_wp2
  refine hK _ _ he2 ?_
  clear hK K
  (refine' wpT_pure rfl rfl (fun w' => ?_) ?_; rotate_left 1; (focus ((try go_simp); (try go_bits); (first | done | with_reducible rfl))); simp only [Act.put, List.setIfInBounds_toArray, List.set_cons_zero, List.set_cons_succ])
  refine wpT_nil ?_
  go_wp2
  go_ret
  exact ⟨by rw [HF.out]; rfl, Ext.trans HX.out (Ext.trans (Ext.undrew he1) he2)⟩


set_option maxRecDepth 100000 in
set_option maxHeartbeats 400000 in
theorem fit_free (cb : Nat) (c : Core) (L : Lay) (acc : Bytes → Bool) (C : List Nat) (k : FuncId) (caps : Array Value) (A : Option Addr) (N cap : Nat) (p : Bytes × Int) (w : World) (hc : CoreAt w cb c L) (hw : Wf c) (ha : AccAt w L.acc acc C k caps) (hp : BytesAt w (.slice A N cap) p.1) (hl : p.1.length ≤ 4096) (hacc : acc p.1 = true) (hlock : c.lock < 0) :
    Calls Try.prog 79 #[.pointer (some ⟨cb, 0, none⟩), .agg #[.slice A N cap, .int .i64 p.2]] w (GivesBool (c.fit acc p) w) := by
  have HF := Lib.hid (show c.fit acc p = true by simp [Core.fit, hacc, hlock])
  have hbox := boxed w #[.slice A N cap, .int .i64 p.2] 103
  obtain ⟨W, hW⟩ : ∃ W, W = w.alloc (.cells #[.slice A N cap, .int .i64 p.2] 103) := ⟨_, rfl⟩
  rw [← hW] at hbox
  obtain ⟨hx, hcells, hsz⟩ := hbox
  have hcW := hc.ext hx
  have hpW := hp.ext hx
  have haW := ha.ext hx
  have hlt := hc.lt
  have hlt2 := hcW.lt
  have hvb : w.heap.size < W.heap.size := by omega
  have v0 : W.cell? ⟨w.heap.size, 0, none⟩ = some (.slice A N cap) := hcells 0
  have v1 : W.cell? ⟨w.heap.size, 1, none⟩ = some (.int .i64 p.2) := hcells 1
  have c3 := hcW.c3
  rw [ha.val] at c3
  have hent := ha.ent
  have HC := Lib.hid hcW
  have HP := Lib.hid hpW
  have HA := Lib.hid haW
  have HW := Lib.hid hw
  have HX := Lib.hid hx
  have HL := Lib.hid hl
  have HWE := Lib.hid hW
  clear hc hp ha hw hcW hpW haW hx hcells hsz hW hl
  go_enter Try.func79, Try.ntmps79
  go_wp2
  rw [← HWE.out]
  refine wp_region_T [] (.pure 0 (.pure 1 (.pure 2 (.pure 4 (.take 3 (.take 5 (.one 6 (.one 7 (.pure 8 .nil))))))))) (by kernel_rfl) (by kernel_rfl) ?_
  iterate 4 (refine' wpT_pure rfl rfl (fun w' => ?_) ?_; rotate_left 1; (focus ((try go_simp); (try go_bits); (first | done | with_reducible rfl))); simp only [Act.put, List.setIfInBounds_toArray, List.set_cons_zero, List.set_cons_succ])
  iterate 2 (first | (refine' wpT_take_dddd rfl rfl (fun w' hc hl hsz => ?_) ?_; rotate_left 1; (focus ((try go_simp); (try go_bits); (first | done | with_reducible rfl))); simp only [Act.put, List.setIfInBounds_toArray, List.set_cons_zero, List.set_cons_succ]) | (refine' wpT_take_ddd rfl rfl (fun w' hc hl hsz => ?_) ?_; rotate_left 1; (focus ((try go_simp); (try go_bits); (first | done | with_reducible rfl))); simp only [Act.put, List.setIfInBounds_toArray, List.set_cons_zero, List.set_cons_succ]) | (refine' wpT_take_dd rfl rfl (fun w' hc hl hsz => ?_) ?_; rotate_left 1; (focus ((try go_simp); (try go_bits); (first | done | with_reducible rfl))); simp only [Act.put, List.setIfInBounds_toArray, List.set_cons_zero, List.set_cons_succ]) | (refine' wpT_take_d rfl rfl (fun w' hc hl hsz => ?_) ?_; rotate_left 1; (focus ((try go_simp); (try go_bits); (first | done | with_reducible rfl))); simp only [Act.put, List.setIfInBounds_toArray, List.set_cons_zero, List.set_cons_succ]))
  refine wpT_one rfl rfl (fun K hK => ?_)
  go_wp2_with (go_at_call 41; refine (clone_calls _ _ _ (HP.out.ext (Ext.refl W).dr) (by have := HL.out; omega)).mono ?_; rintro e w1 ⟨v', rfl, hb1, he1⟩)
  refine hK _ _ he1 ?_
  clear hK K
  refine wpT_one rfl rfl (fun K hK => ?_)
  go_simp
  refine ((HA.out.ext (Ext.undrew he1)).call hb1 HL.out).mono ?_
  rintro e w2 ⟨rfl, he2⟩
  go_wp2
  refine hK _ _ he2 ?_
  clear hK K
  (refine' wpT_pure rfl rfl (fun w' => ?_) ?_; rotate_left 1; (focus ((try go_simp); (try go_bits); (first | done | with_reducible rfl))); simp only [Act.put, List.setIfInBounds_toArray, List.set_cons_zero, List.set_cons_succ])
  refine wpT_nil ?_
  go_wp2
  refine wp_fresh W (Ext.trans (Ext.undrew he1) he2) (fun W2 hx2 => ?_)
  have c13 := (HC.out.ext hx2).c13
  have c14 := (HC.out.ext hx2).c14
  have u0 := hx2.at v0
  have hlt3 := Nat.lt_of_lt_of_le hlt2 hx2.size
  have hvb3 := Nat.lt_of_lt_of_le hvb hx2.size
  have HX2 := Lib.hid hx2
  clear hx2 he1 he2
  refine wp_region_T [] (.pure 0 (.pure 1 (.pure 2 (.take 3 (.pure 4 (.pure 5 (.pure 6 (.pure 8 (.pure 9 (.pure 10 (.take 7 (.take 11 (.one 12 (.pure 13 .nil)))))))))))))) (by kernel_rfl) (by kernel_rfl) ?_
  iterate 3 (refine' wpT_pure rfl rfl (fun w' => ?_) ?_; rotate_left 1; (focus ((try go_simp); (try go_bits); (first | done | with_reducible rfl))); simp only [Act.put, List.setIfInBounds_toArray, List.set_cons_zero, List.set_cons_succ])
  first | (refine' wpT_take_dddd rfl rfl (fun w' hc hl hsz => ?_) ?_; rotate_left 1; (focus ((try go_simp); (try go_bits); (first | done | with_reducible rfl))); simp only [Act.put, List.setIfInBounds_toArray, List.set_cons_zero, List.set_cons_succ]) | (refine' wpT_take_ddd rfl rfl (fun w' hc hl hsz => ?_) ?_; rotate_left 1; (focus ((try go_simp); (try go_bits); (first | done | with_reducible rfl))); simp only [Act.put, List.setIfInBounds_toArray, List.set_cons_zero, List.set_cons_succ]) | (refine' wpT_take_dd rfl rfl (fun w' hc hl hsz => ?_) ?_; rotate_left 1; (focus ((try go_simp); (try go_bits); (first | done | with_reducible rfl))); simp only [Act.put, List.setIfInBounds_toArray, List.set_cons_zero, List.set_cons_succ]) | (refine' wpT_take_d rfl rfl (fun w' hc hl hsz => ?_) ?_; rotate_left 1; (focus ((try go_simp); (try go_bits); (first | done | with_reducible rfl))); simp only [Act.put, List.setIfInBounds_toArray, List.set_cons_zero, List.set_cons_succ])
  iterate 2 (refine' wpT_pure rfl rfl (fun w' => ?_) ?_; rotate_left 1; (focus ((try go_simp); (try go_bits); (first | done | with_reducible rfl))); simp only [Act.put, List.setIfInBounds_toArray, List.set_cons_zero, List.set_cons_succ])
  iterate 4 (first | (refine' wpT_pure_on rfl rfl (fun w' => ?_) ?_; rotate_left 1; (focus ((try go_simp); (try go_bits); (first | done | with_reducible rfl))); simp only [Act.put, List.setIfInBounds_toArray, List.set_cons_zero, List.set_cons_succ]) | (refine wpT_pure_off rfl rfl ?_; simp only [Act.put, List.setIfInBounds_toArray, List.set_cons_zero, List.set_cons_succ]))
  iterate 2 (first | (refine' wpT_take_on_dddd rfl rfl (fun w' hc hl hsz => ?_) ?_; rotate_left 1; (focus ((try go_simp); (try go_bits); (first | done | with_reducible rfl))); simp only [Act.put, List.setIfInBounds_toArray, List.set_cons_zero, List.set_cons_succ]) | (refine' wpT_take_on_ddd rfl rfl (fun w' hc hl hsz => ?_) ?_; rotate_left 1; (focus ((try go_simp); (try go_bits); (first | done | with_reducible rfl))); simp only [Act.put, List.setIfInBounds_toArray, List.set_cons_zero, List.set_cons_succ]) | (refine' wpT_take_on_dd rfl rfl (fun w' hc hl hsz => ?_) ?_; rotate_left 1; (focus ((try go_simp); (try go_bits); (first | done | with_reducible rfl))); simp only [Act.put, List.setIfInBounds_toArray, List.set_cons_zero, List.set_cons_succ]) | (refine' wpT_take_on_d rfl rfl (fun w' hc hl hsz => ?_) ?_; rotate_left 1; (focus ((try go_simp); (try go_bits); (first | done | with_reducible rfl))); simp only [Act.put, List.setIfInBounds_toArray, List.set_cons_zero, List.set_cons_succ]) | (refine wpT_take_off rfl rfl ?_; simp only [Act.put, List.setIfInBounds_toArray, List.set_cons_zero, List.set_cons_succ]))
  refine wpT_one_off rfl rfl ?_
  simp only [Act.put, List.setIfInBounds_toArray, List.set_cons_zero, List.set_cons_succ]
  (refine' wpT_pure rfl rfl (fun w' => ?_) ?_; rotate_left 1; (focus ((try go_simp); (try go_bits); (first | done | with_reducible rfl))); simp only [Act.put, List.setIfInBounds_toArray, List.set_cons_zero, List.set_cons_succ])
  refine wpT_nil ?_
  go_wp2
  go_ret
  exact ⟨by rw [HF.out]; rfl, Ext.trans HX.out (Ext.trans HX2.out (Ext.refl W2).dr)⟩

set_option maxRecDepth 100000 in
set_option maxHeartbeats 400000 in
theorem fit_same (cb : Nat) (c : Core) (L : Lay) (acc : Bytes → Bool) (C : List Nat) (k : FuncId) (caps : Array Value) (A : Option Addr) (N cap : Nat) (p : Bytes × Int) (w : World) (hc : CoreAt w cb c L) (hw : Wf c) (ha : AccAt w L.acc acc C k caps) (hp : BytesAt w (.slice A N cap) p.1) (hl : p.1.length ≤ 4096) (hacc : acc p.1 = true) (hlock : 0 ≤ c.lock) (hs : (p.1 == c.locked) = true) :
    Calls Try.prog 79 #[.pointer (some ⟨cb, 0, none⟩), .agg #[.slice A N cap, .int .i64 p.2]] w (GivesBool (c.fit acc p) w) := by
  have HF := Lib.hid (show c.fit acc p = true by simp [Core.fit, hacc, hs])
  have HS := Lib.hid hs
  have hl0 : decide (c.lock < 0) = false := by simp; omega
  clear hs
  have hbox := boxed w #[.slice A N cap, .int .i64 p.2] 103
  obtain ⟨W, hW⟩ : ∃ W, W = w.alloc (.cells #[.slice A N cap, .int .i64 p.2] 103) := ⟨_, rfl⟩
  rw [← hW] at hbox
  obtain ⟨hx, hcells, hsz⟩ := hbox
  have hcW := hc.ext hx
  have hpW := hp.ext hx
  have haW := ha.ext hx
  have hlt := hc.lt
  have hlt2 := hcW.lt
  have hvb : w.heap.size < W.heap.size := by omega
  have v0 : W.cell? ⟨w.heap.size, 0, none⟩ = some (.slice A N cap) := hcells 0
  have v1 : W.cell? ⟨w.heap.size, 1, none⟩ = some (.int .i64 p.2) := hcells 1
  have c3 := hcW.c3
  rw [ha.val] at c3
  have hent := ha.ent
  have HC := Lib.hid hcW
  have HP := Lib.hid hpW
  have HA := Lib.hid haW
  have HW := Lib.hid hw
  have HX := Lib.hid hx
  have HL := Lib.hid hl
  have HWE := Lib.hid hW
  clear hc hp ha hw hcW hpW haW hx hcells hsz hW hl
  go_enter Try.func79, Try.ntmps79
  go_wp2
  rw [← HWE.out]
  refine wp_region_T [] (.pure 0 (.pure 1 (.pure 2 (.pure 4 (.take 3 (.take 5 (.one 6 (.one 7 (.pure 8 .nil))))))))) (by kernel_rfl) (by kernel_rfl) ?_
  iterate 4 (refine' wpT_pure rfl rfl (fun w' => ?_) ?_; rotate_left 1; (focus ((try go_simp); (try go_bits); (first | done | with_reducible rfl))); simp only [Act.put, List.setIfInBounds_toArray, List.set_cons_zero, List.set_cons_succ])
  iterate 2 (first | (refine' wpT_take_dddd rfl rfl (fun w' hc hl hsz => ?_) ?_; rotate_left 1; (focus ((try go_simp); (try go_bits); (first | done | with_reducible rfl))); simp only [Act.put, List.setIfInBounds_toArray, List.set_cons_zero, List.set_cons_succ]) | (refine' wpT_take_ddd rfl rfl (fun w' hc hl hsz => ?_) ?_; rotate_left 1; (focus ((try go_simp); (try go_bits); (first | done | with_reducible rfl))); simp only [Act.put, List.setIfInBounds_toArray, List.set_cons_zero, List.set_cons_succ]) | (refine' wpT_take_dd rfl rfl (fun w' hc hl hsz => ?_) ?_; rotate_left 1; (focus ((try go_simp); (try go_bits); (first | done | with_reducible rfl))); simp only [Act.put, List.setIfInBounds_toArray, List.set_cons_zero, List.set_cons_succ]) | (refine' wpT_take_d rfl rfl (fun w' hc hl hsz => ?_) ?_; rotate_left 1; (focus ((try go_simp); (try go_bits); (first | done | with_reducible rfl))); simp only [Act.put, List.setIfInBounds_toArray, List.set_cons_zero, List.set_cons_succ]))
  refine wpT_one rfl rfl (fun K hK => ?_)
  go_wp2_with (go_at_call 41; refine (clone_calls _ _ _ (HP.out.ext (Ext.refl W).dr) (by have := HL.out; omega)).mono ?_; rintro e w1 ⟨v', rfl, hb1, he1⟩)
  refine hK _ _ he1 ?_
  clear hK K
  refine wpT_one rfl rfl (fun K hK => ?_)
  go_simp
  refine ((HA.out.ext (Ext.undrew he1)).call hb1 HL.out).mono ?_
  rintro e w2 ⟨rfl, he2⟩
  go_wp2
  refine hK _ _ he2 ?_
  clear hK K
  (refine' wpT_pure rfl rfl (fun w' => ?_) ?_; rotate_left 1; (focus ((try go_simp); (try go_bits); (first | done | with_reducible rfl))); simp only [Act.put, List.setIfInBounds_toArray, List.set_cons_zero, List.set_cons_succ])
  refine wpT_nil ?_
  go_wp2
  refine wp_fresh W (Ext.trans (Ext.undrew he1) he2) (fun W2 hx2 => ?_)
  have c13 := (HC.out.ext hx2).c13
  have c14 := (HC.out.ext hx2).c14
  have u0 := hx2.at v0
  have hlt3 := Nat.lt_of_lt_of_le hlt2 hx2.size
  have hvb3 := Nat.lt_of_lt_of_le hvb hx2.size
  have HX2 := Lib.hid hx2
  clear hx2 he1 he2
  refine wp_region_T [] (.pure 0 (.pure 1 (.pure 2 (.take 3 (.pure 4 (.pure 5 (.pure 6 (.pure 8 (.pure 9 (.pure 10 (.take 7 (.take 11 (.one 12 (.pure 13 .nil)))))))))))))) (by kernel_rfl) (by kernel_rfl) ?_
  iterate 3 (refine' wpT_pure rfl rfl (fun w' => ?_) ?_; rotate_left 1; (focus ((try go_simp); (try go_bits); (first | done | with_reducible rfl))); simp only [Act.put, List.setIfInBounds_toArray, List.set_cons_zero, List.set_cons_succ])
  first | (refine' wpT_take_dddd rfl rfl (fun w' hc hl hsz => ?_) ?_; rotate_left 1; (focus ((try go_simp); (try go_bits); (first | done | with_reducible rfl))); simp only [Act.put, List.setIfInBounds_toArray, List.set_cons_zero, List.set_cons_succ]) | (refine' wpT_take_ddd rfl rfl (fun w' hc hl hsz => ?_) ?_; rotate_left 1; (focus ((try go_simp); (try go_bits); (first | done | with_reducible rfl))); simp only [Act.put, List.setIfInBounds_toArray, List.set_cons_zero, List.set_cons_succ]) | (refine' wpT_take_dd rfl rfl (fun w' hc hl hsz => ?_) ?_; rotate_left 1; (focus ((try go_simp); (try go_bits); (first | done | with_reducible rfl))); simp only [Act.put, List.setIfInBounds_toArray, List.set_cons_zero, List.set_cons_succ]) | (refine' wpT_take_d rfl rfl (fun w' hc hl hsz => ?_) ?_; rotate_left 1; (focus ((try go_simp); (try go_bits); (first | done | with_reducible rfl))); simp only [Act.put, List.setIfInBounds_toArray, List.set_cons_zero, List.set_cons_succ])
  iterate 2 (refine' wpT_pure rfl rfl (fun w' => ?_) ?_; rotate_left 1; (focus ((try go_simp); (try go_bits); (first | done | with_reducible rfl))); simp only [Act.put, List.setIfInBounds_toArray, List.set_cons_zero, List.set_cons_succ])
  iterate 4 (first | (refine' wpT_pure_on rfl rfl (fun w' => ?_) ?_; rotate_left 1; (focus ((try go_simp); (try go_bits); (first | done | with_reducible rfl))); simp only [Act.put, List.setIfInBounds_toArray, List.set_cons_zero, List.set_cons_succ]) | (refine wpT_pure_off rfl rfl ?_; simp only [Act.put, List.setIfInBounds_toArray, List.set_cons_zero, List.set_cons_succ]))
  iterate 2 (first | (refine' wpT_take_on_dddd rfl rfl (fun w' hc hl hsz => ?_) ?_; rotate_left 1; (focus ((try go_simp); (try go_bits); (first | done | with_reducible rfl))); simp only [Act.put, List.setIfInBounds_toArray, List.set_cons_zero, List.set_cons_succ]) | (refine' wpT_take_on_ddd rfl rfl (fun w' hc hl hsz => ?_) ?_; rotate_left 1; (focus ((try go_simp); (try go_bits); (first | done | with_reducible rfl))); simp only [Act.put, List.setIfInBounds_toArray, List.set_cons_zero, List.set_cons_succ]) | (refine' wpT_take_on_dd rfl rfl (fun w' hc hl hsz => ?_) ?_; rotate_left 1; (focus ((try go_simp); (try go_bits); (first | done | with_reducible rfl))); simp only [Act.put, List.setIfInBounds_toArray, List.set_cons_zero, List.set_cons_succ]) | (refine' wpT_take_on_d rfl rfl (fun w' hc hl hsz => ?_) ?_; rotate_left 1; (focus ((try go_simp); (try go_bits); (first | done | with_reducible rfl))); simp only [Act.put, List.setIfInBounds_toArray, List.set_cons_zero, List.set_cons_succ]) | (refine wpT_take_off rfl rfl ?_; simp only [Act.put, List.setIfInBounds_toArray, List.set_cons_zero, List.set_cons_succ]))
  refine wpT_one_on rfl rfl (fun K hK => ?_)
  go_wp2_with (go_at_call 47; refine (equal_calls _ _ _ _ _ (HP.out.ext (Ext.trans HX2.out (Ext.refl W2).dr)) (HC.out.ext (Ext.trans HX2.out (Ext.refl W2).dr)).locked).mono ?_; rw [HS.out]; rintro e w7 ⟨rfl, rfl⟩)
  refine hK _ _ (Ext.refl _) ?_
  clear hK K
  (refine' wpT_pure rfl rfl (fun w' => ?_) ?_; rotate_left 1; (focus ((try go_simp); (try go_bits); (first | done | with_reducible rfl))); simp only [Act.put, List.setIfInBounds_toArray, List.set_cons_zero, List.set_cons_succ])
  refine wpT_nil ?_
  go_wp2
  go_ret
  exact ⟨by rw [HF.out]; rfl, Ext.trans HX.out (Ext.trans HX2.out (Ext.refl W2).dr)⟩


set_option maxRecDepth 100000 in
set_option maxHeartbeats 400000 in
/-- the last test fails before the values are held together -/
theorem fit_not (cb : Nat) (c : Core) (L : Lay) (acc : Bytes → Bool) (C : List Nat) (k : FuncId) (caps : Array Value) (A : Option Addr) (N cap : Nat) (p : Bytes × Int) (w : World) (hc : CoreAt w cb c L) (hw : Wf c) (ha : AccAt w L.acc acc C k caps) (hp : BytesAt w (.slice A N cap) p.1) (hl : p.1.length ≤ 4096) (hacc : acc p.1 = true) (hlock : 0 ≤ c.lock) (hs : (p.1 == c.locked) = false)
    (hno : p.2 < c.lock ∨ (c.lock ≤ p.2 ∧ c.view ≤ p.2) ∨ (c.lock ≤ p.2 ∧ p.2 < c.view ∧ (c.prepared p.2).isSome = false)) :
    Calls Try.prog 79 #[.pointer (some ⟨cb, 0, none⟩), .agg #[.slice A N cap, .int .i64 p.2]] w (GivesBool (c.fit acc p) w) := by
  have HF := Lib.hid (show c.fit acc p = false by
    simp only [Core.fit, hacc, hs, Bool.true_and, Bool.or_false]
    rw [show decide (c.lock < 0) = false by simp; omega, Bool.false_or]
    rcases hno with h | h | ⟨_, _, h⟩
    · rw [show decide (c.lock ≤ p.2) = false by simp; omega]; rfl
    · rw [show decide (p.2 < c.view) = false by simp; omega]; simp
    · rw [show (c.prepared p.2 == some p.1) = false by cases hp : c.prepared p.2 <;> simp_all]; simp)
  have HS := Lib.hid hs
  have hl0 : decide (c.lock < 0) = false := by simp; omega
  clear hs
  rcases hno with hno | hno | ⟨hno, hno2, hno3⟩
  · have hl1 : decide (c.lock ≤ p.2) = false := by simp; omega
    have hbox := boxed w #[.slice A N cap, .int .i64 p.2] 103
    obtain ⟨W, hW⟩ : ∃ W, W = w.alloc (.cells #[.slice A N cap, .int .i64 p.2] 103) := ⟨_, rfl⟩
    rw [← hW] at hbox
    obtain ⟨hx, hcells, hsz⟩ := hbox
    have hcW := hc.ext hx
    have hpW := hp.ext hx
    have haW := ha.ext hx
    have hlt := hc.lt
    have hlt2 := hcW.lt
    have hvb : w.heap.size < W.heap.size := by omega
    have v0 : W.cell? ⟨w.heap.size, 0, none⟩ = some (.slice A N cap) := hcells 0
    have v1 : W.cell? ⟨w.heap.size, 1, none⟩ = some (.int .i64 p.2) := hcells 1
    have c3 := hcW.c3
    rw [ha.val] at c3
    have hent := ha.ent
    have HC := Lib.hid hcW
    have HP := Lib.hid hpW
    have HA := Lib.hid haW
    have HW := Lib.hid hw
    have HX := Lib.hid hx
    have HL := Lib.hid hl
    have HWE := Lib.hid hW
    clear hc hp ha hw hcW hpW haW hx hcells hsz hW hl
    go_enter Try.func79, Try.ntmps79
    go_wp2
    rw [← HWE.out]
    refine wp_region_T [] (.pure 0 (.pure 1 (.pure 2 (.pure 4 (.take 3 (.take 5 (.one 6 (.one 7 (.pure 8 .nil))))))))) (by kernel_rfl) (by kernel_rfl) ?_
    iterate 4 (refine' wpT_pure rfl rfl (fun w' => ?_) ?_; rotate_left 1; (focus ((try go_simp); (try go_bits); (first | done | with_reducible rfl))); simp only [Act.put, List.setIfInBounds_toArray, List.set_cons_zero, List.set_cons_succ])
    iterate 2 (first | (refine' wpT_take_dddd rfl rfl (fun w' hc hl hsz => ?_) ?_; rotate_left 1; (focus ((try go_simp); (try go_bits); (first | done | with_reducible rfl))); simp only [Act.put, List.setIfInBounds_toArray, List.set_cons_zero, List.set_cons_succ]) | (refine' wpT_take_ddd rfl rfl (fun w' hc hl hsz => ?_) ?_; rotate_left 1; (focus ((try go_simp); (try go_bits); (first | done | with_reducible rfl))); simp only [Act.put, List.setIfInBounds_toArray, List.set_cons_zero, List.set_cons_succ]) | (refine' wpT_take_dd rfl rfl (fun w' hc hl hsz => ?_) ?_; rotate_left 1; (focus ((try go_simp); (try go_bits); (first | done | with_reducible rfl))); simp only [Act.put, List.setIfInBounds_toArray, List.set_cons_zero, List.set_cons_succ]) | (refine' wpT_take_d rfl rfl (fun w' hc hl hsz => ?_) ?_; rotate_left 1; (focus ((try go_simp); (try go_bits); (first | done | with_reducible rfl))); simp only [Act.put, List.setIfInBounds_toArray, List.set_cons_zero, List.set_cons_succ]))
    refine wpT_one rfl rfl (fun K hK => ?_)
    go_wp2_with (go_at_call 41; refine (clone_calls _ _ _ (HP.out.ext (Ext.refl W).dr) (by have := HL.out; omega)).mono ?_; rintro e w1 ⟨v', rfl, hb1, he1⟩)
    refine hK _ _ he1 ?_
    clear hK K
    refine wpT_one rfl rfl (fun K hK => ?_)
    go_simp
    refine ((HA.out.ext (Ext.undrew he1)).call hb1 HL.out).mono ?_
    rintro e w2 ⟨rfl, he2⟩
    go_wp2
    refine hK _ _ he2 ?_
    clear hK K
    (refine' wpT_pure rfl rfl (fun w' => ?_) ?_; rotate_left 1; (focus ((try go_simp); (try go_bits); (first | done | with_reducible rfl))); simp only [Act.put, List.setIfInBounds_toArray, List.set_cons_zero, List.set_cons_succ])
    refine wpT_nil ?_
    go_wp2
    refine wp_fresh W (Ext.trans (Ext.undrew he1) he2) (fun W2 hx2 => ?_)
    have c13 := (HC.out.ext hx2).c13
    have c14 := (HC.out.ext hx2).c14
    have u0 := hx2.at v0
    have hlt3 := Nat.lt_of_lt_of_le hlt2 hx2.size
    have hvb3 := Nat.lt_of_lt_of_le hvb hx2.size
    have HX2 := Lib.hid hx2
    clear hx2 he1 he2
    refine wp_region_T [] (.pure 0 (.pure 1 (.pure 2 (.take 3 (.pure 4 (.pure 5 (.pure 6 (.pure 8 (.pure 9 (.pure 10 (.take 7 (.take 11 (.one 12 (.pure 13 .nil)))))))))))))) (by kernel_rfl) (by kernel_rfl) ?_
    iterate 3 (refine' wpT_pure rfl rfl (fun w' => ?_) ?_; rotate_left 1; (focus ((try go_simp); (try go_bits); (first | done | with_reducible rfl))); simp only [Act.put, List.setIfInBounds_toArray, List.set_cons_zero, List.set_cons_succ])
    first | (refine' wpT_take_dddd rfl rfl (fun w' hc hl hsz => ?_) ?_; rotate_left 1; (focus ((try go_simp); (try go_bits); (first | done | with_reducible rfl))); simp only [Act.put, List.setIfInBounds_toArray, List.set_cons_zero, List.set_cons_succ]) | (refine' wpT_take_ddd rfl rfl (fun w' hc hl hsz => ?_) ?_; rotate_left 1; (focus ((try go_simp); (try go_bits); (first | done | with_reducible rfl))); simp only [Act.put, List.setIfInBounds_toArray, List.set_cons_zero, List.set_cons_succ]) | (refine' wpT_take_dd rfl rfl (fun w' hc hl hsz => ?_) ?_; rotate_left 1; (focus ((try go_simp); (try go_bits); (first | done | with_reducible rfl))); simp only [Act.put, List.setIfInBounds_toArray, List.set_cons_zero, List.set_cons_succ]) | (refine' wpT_take_d rfl rfl (fun w' hc hl hsz => ?_) ?_; rotate_left 1; (focus ((try go_simp); (try go_bits); (first | done | with_reducible rfl))); simp only [Act.put, List.setIfInBounds_toArray, List.set_cons_zero, List.set_cons_succ])
    iterate 2 (refine' wpT_pure rfl rfl (fun w' => ?_) ?_; rotate_left 1; (focus ((try go_simp); (try go_bits); (first | done | with_reducible rfl))); simp only [Act.put, List.setIfInBounds_toArray, List.set_cons_zero, List.set_cons_succ])
    iterate 4 (first | (refine' wpT_pure_on rfl rfl (fun w' => ?_) ?_; rotate_left 1; (focus ((try go_simp); (try go_bits); (first | done | with_reducible rfl))); simp only [Act.put, List.setIfInBounds_toArray, List.set_cons_zero, List.set_cons_succ]) | (refine wpT_pure_off rfl rfl ?_; simp only [Act.put, List.setIfInBounds_toArray, List.set_cons_zero, List.set_cons_succ]))
    iterate 2 (first | (refine' wpT_take_on_dddd rfl rfl (fun w' hc hl hsz => ?_) ?_; rotate_left 1; (focus ((try go_simp); (try go_bits); (first | done | with_reducible rfl))); simp only [Act.put, List.setIfInBounds_toArray, List.set_cons_zero, List.set_cons_succ]) | (refine' wpT_take_on_ddd rfl rfl (fun w' hc hl hsz => ?_) ?_; rotate_left 1; (focus ((try go_simp); (try go_bits); (first | done | with_reducible rfl))); simp only [Act.put, List.setIfInBounds_toArray, List.set_cons_zero, List.set_cons_succ]) | (refine' wpT_take_on_dd rfl rfl (fun w' hc hl hsz => ?_) ?_; rotate_left 1; (focus ((try go_simp); (try go_bits); (first | done | with_reducible rfl))); simp only [Act.put, List.setIfInBounds_toArray, List.set_cons_zero, List.set_cons_succ]) | (refine' wpT_take_on_d rfl rfl (fun w' hc hl hsz => ?_) ?_; rotate_left 1; (focus ((try go_simp); (try go_bits); (first | done | with_reducible rfl))); simp only [Act.put, List.setIfInBounds_toArray, List.set_cons_zero, List.set_cons_succ]) | (refine wpT_take_off rfl rfl ?_; simp only [Act.put, List.setIfInBounds_toArray, List.set_cons_zero, List.set_cons_succ]))
    refine wpT_one_on rfl rfl (fun K hK => ?_)
    go_wp2_with (go_at_call 47; refine (equal_calls _ _ _ _ _ (HP.out.ext (Ext.trans HX2.out (Ext.refl W2).dr)) (HC.out.ext (Ext.trans HX2.out (Ext.refl W2).dr)).locked).mono ?_; rw [HS.out]; rintro e w7 ⟨rfl, rfl⟩)
    refine hK _ _ (Ext.refl _) ?_
    clear hK K
    (refine' wpT_pure rfl rfl (fun w' => ?_) ?_; rotate_left 1; (focus ((try go_simp); (try go_bits); (first | done | with_reducible rfl))); simp only [Act.put, List.setIfInBounds_toArray, List.set_cons_zero, List.set_cons_succ])
    refine wpT_nil ?_
    have u1 := HX2.out.at v1
    go_wp2_with (go_at_call 80; refine (prepared_calls cb c L _ _ (HC.out.ext (Ext.trans HX2.out (Ext.refl W2).dr)) HW.out).mono ?_; rintro e w5 ⟨v5, rfl, hb5, hx5⟩)
    refine wp_fresh w5 (Ext.refl w5) (fun W6 hx65 => ?_)
    have hx6 : Ext W W6 := Ext.trans (Ext.trans HX2.out (Ext.undrew hx5)) hx65
    have d13 := (HC.out.ext hx6).c13
    have d4 := (HC.out.ext hx6).c4
    have y0 := hx6.at v0
    have y1 := hx6.at v1
    have hlt6 := Nat.lt_of_lt_of_le hlt2 hx6.size
    have hvb6 := Nat.lt_of_lt_of_le hvb hx6.size
    have HX6 := Lib.hid hx6
    have HX5 := Lib.hid hx5
    have HX65 := Lib.hid hx65
    have HB5 := Lib.hid hb5
    clear hx6 hx5 hb5 hx65
    refine wp_region_T [] (.pure 0 (.pure 2 (.pure 3 (.pure 4 (.take 1 (.take 5 (.pure 6 (.pure 7 (.pure 8 (.pure 10 (.pure 11 (.pure 12 (.take 9 (.take 13 (.pure 14 (.pure 15 (.pure 16 (.pure 17 (.pure 18 (.pure 19 (.pure 20 (.pure 21 (.take 22 (.one 23 (.pure 24 (.pure 25 .nil)))))))))))))))))))))))))) (by kernel_rfl) (by kernel_rfl) ?_
    iterate 4 (refine' wpT_pure rfl rfl (fun w' => ?_) ?_; rotate_left 1; (focus ((try go_simp); (try go_bits); (first | done | with_reducible rfl))); simp only [Act.put, List.setIfInBounds_toArray, List.set_cons_zero, List.set_cons_succ])
    iterate 2 (first | (refine' wpT_take_dddd rfl rfl (fun w' hc hl hsz => ?_) ?_; rotate_left 1; (focus ((try go_simp); (try go_bits); (first | done | with_reducible rfl))); simp only [Act.put, List.setIfInBounds_toArray, List.set_cons_zero, List.set_cons_succ]) | (refine' wpT_take_ddd rfl rfl (fun w' hc hl hsz => ?_) ?_; rotate_left 1; (focus ((try go_simp); (try go_bits); (first | done | with_reducible rfl))); simp only [Act.put, List.setIfInBounds_toArray, List.set_cons_zero, List.set_cons_succ]) | (refine' wpT_take_dd rfl rfl (fun w' hc hl hsz => ?_) ?_; rotate_left 1; (focus ((try go_simp); (try go_bits); (first | done | with_reducible rfl))); simp only [Act.put, List.setIfInBounds_toArray, List.set_cons_zero, List.set_cons_succ]) | (refine' wpT_take_d rfl rfl (fun w' hc hl hsz => ?_) ?_; rotate_left 1; (focus ((try go_simp); (try go_bits); (first | done | with_reducible rfl))); simp only [Act.put, List.setIfInBounds_toArray, List.set_cons_zero, List.set_cons_succ]))
    iterate 2 (refine' wpT_pure rfl rfl (fun w' => ?_) ?_; rotate_left 1; (focus ((try go_simp); (try go_bits); (first | done | with_reducible rfl))); simp only [Act.put, List.setIfInBounds_toArray, List.set_cons_zero, List.set_cons_succ])
    iterate 4 (first | (refine' wpT_pure_on rfl rfl (fun w' => ?_) ?_; rotate_left 1; (focus ((try go_simp); (try go_bits); (first | done | with_reducible rfl))); simp only [Act.put, List.setIfInBounds_toArray, List.set_cons_zero, List.set_cons_succ]) | (refine wpT_pure_off rfl rfl ?_; simp only [Act.put, List.setIfInBounds_toArray, List.set_cons_zero, List.set_cons_succ]))
    iterate 2 (first | (refine' wpT_take_on_dddd rfl rfl (fun w' hc hl hsz => ?_) ?_; rotate_left 1; (focus ((try go_simp); (try go_bits); (first | done | with_reducible rfl))); simp only [Act.put, List.setIfInBounds_toArray, List.set_cons_zero, List.set_cons_succ]) | (refine' wpT_take_on_ddd rfl rfl (fun w' hc hl hsz => ?_) ?_; rotate_left 1; (focus ((try go_simp); (try go_bits); (first | done | with_reducible rfl))); simp only [Act.put, List.setIfInBounds_toArray, List.set_cons_zero, List.set_cons_succ]) | (refine' wpT_take_on_dd rfl rfl (fun w' hc hl hsz => ?_) ?_; rotate_left 1; (focus ((try go_simp); (try go_bits); (first | done | with_reducible rfl))); simp only [Act.put, List.setIfInBounds_toArray, List.set_cons_zero, List.set_cons_succ]) | (refine' wpT_take_on_d rfl rfl (fun w' hc hl hsz => ?_) ?_; rotate_left 1; (focus ((try go_simp); (try go_bits); (first | done | with_reducible rfl))); simp only [Act.put, List.setIfInBounds_toArray, List.set_cons_zero, List.set_cons_succ]) | (refine wpT_take_off rfl rfl ?_; simp only [Act.put, List.setIfInBounds_toArray, List.set_cons_zero, List.set_cons_succ]))
    first | (refine' wpT_pure_on rfl rfl (fun w' => ?_) ?_; rotate_left 1; (focus ((try go_simp); (try go_bits); (first | done | with_reducible rfl))); simp only [Act.put, List.setIfInBounds_toArray, List.set_cons_zero, List.set_cons_succ]) | (refine wpT_pure_off rfl rfl ?_; simp only [Act.put, List.setIfInBounds_toArray, List.set_cons_zero, List.set_cons_succ])
    iterate 2 (refine' wpT_pure rfl rfl (fun w' => ?_) ?_; rotate_left 1; (focus ((try go_simp); (try go_bits); (first | done | with_reducible rfl))); simp only [Act.put, List.setIfInBounds_toArray, List.set_cons_zero, List.set_cons_succ])
    first | (refine' wpT_pure_on rfl rfl (fun w' => ?_) ?_; rotate_left 1; (focus ((try go_simp); (try go_bits); (first | done | with_reducible rfl))); simp only [Act.put, List.setIfInBounds_toArray, List.set_cons_zero, List.set_cons_succ]) | (refine wpT_pure_off rfl rfl ?_; simp only [Act.put, List.setIfInBounds_toArray, List.set_cons_zero, List.set_cons_succ])
    iterate 2 (refine' wpT_pure rfl rfl (fun w' => ?_) ?_; rotate_left 1; (focus ((try go_simp); (try go_bits); (first | done | with_reducible rfl))); simp only [Act.put, List.setIfInBounds_toArray, List.set_cons_zero, List.set_cons_succ])
    iterate 2 (first | (refine' wpT_pure_on rfl rfl (fun w' => ?_) ?_; rotate_left 1; (focus ((try go_simp); (try go_bits); (first | done | with_reducible rfl))); simp only [Act.put, List.setIfInBounds_toArray, List.set_cons_zero, List.set_cons_succ]) | (refine wpT_pure_off rfl rfl ?_; simp only [Act.put, List.setIfInBounds_toArray, List.set_cons_zero, List.set_cons_succ]))
    first | (refine' wpT_take_on_dddd rfl rfl (fun w' hc hl hsz => ?_) ?_; rotate_left 1; (focus ((try go_simp); (try go_bits); (first | done | with_reducible rfl))); simp only [Act.put, List.setIfInBounds_toArray, List.set_cons_zero, List.set_cons_succ]) | (refine' wpT_take_on_ddd rfl rfl (fun w' hc hl hsz => ?_) ?_; rotate_left 1; (focus ((try go_simp); (try go_bits); (first | done | with_reducible rfl))); simp only [Act.put, List.setIfInBounds_toArray, List.set_cons_zero, List.set_cons_succ]) | (refine' wpT_take_on_dd rfl rfl (fun w' hc hl hsz => ?_) ?_; rotate_left 1; (focus ((try go_simp); (try go_bits); (first | done | with_reducible rfl))); simp only [Act.put, List.setIfInBounds_toArray, List.set_cons_zero, List.set_cons_succ]) | (refine' wpT_take_on_d rfl rfl (fun w' hc hl hsz => ?_) ?_; rotate_left 1; (focus ((try go_simp); (try go_bits); (first | done | with_reducible rfl))); simp only [Act.put, List.setIfInBounds_toArray, List.set_cons_zero, List.set_cons_succ]) | (refine wpT_take_off rfl rfl ?_; simp only [Act.put, List.setIfInBounds_toArray, List.set_cons_zero, List.set_cons_succ])
    refine wpT_one_off rfl rfl ?_
    simp only [Act.put, List.setIfInBounds_toArray, List.set_cons_zero, List.set_cons_succ]
    iterate 2 (refine' wpT_pure rfl rfl (fun w' => ?_) ?_; rotate_left 1; (focus ((try go_simp); (try go_bits); (first | done | with_reducible rfl))); simp only [Act.put, List.setIfInBounds_toArray, List.set_cons_zero, List.set_cons_succ])
    refine wpT_nil ?_
    go_wp2
    go_ret
    exact ⟨by rw [HF.out]; rfl, Ext.trans HX.out (Ext.trans HX6.out (Ext.refl W6).dr)⟩
  · obtain ⟨hn1, hn2⟩ := hno
    have hl1 : decide (c.lock ≤ p.2) = true := by simpa using hn1
    have hl2 : decide (p.2 < c.view) = false := by simp; omega
    have hbox := boxed w #[.slice A N cap, .int .i64 p.2] 103
    obtain ⟨W, hW⟩ : ∃ W, W = w.alloc (.cells #[.slice A N cap, .int .i64 p.2] 103) := ⟨_, rfl⟩
    rw [← hW] at hbox
    obtain ⟨hx, hcells, hsz⟩ := hbox
    have hcW := hc.ext hx
    have hpW := hp.ext hx
    have haW := ha.ext hx
    have hlt := hc.lt
    have hlt2 := hcW.lt
    have hvb : w.heap.size < W.heap.size := by omega
    have v0 : W.cell? ⟨w.heap.size, 0, none⟩ = some (.slice A N cap) := hcells 0
    have v1 : W.cell? ⟨w.heap.size, 1, none⟩ = some (.int .i64 p.2) := hcells 1
    have c3 := hcW.c3
    rw [ha.val] at c3
    have hent := ha.ent
    have HC := Lib.hid hcW
    have HP := Lib.hid hpW
    have HA := Lib.hid haW
    have HW := Lib.hid hw
    have HX := Lib.hid hx
    have HL := Lib.hid hl
    have HWE := Lib.hid hW
    clear hc hp ha hw hcW hpW haW hx hcells hsz hW hl
    go_enter Try.func79, Try.ntmps79
    go_wp2
    rw [← HWE.out]
    refine wp_region_T [] (.pure 0 (.pure 1 (.pure 2 (.pure 4 (.take 3 (.take 5 (.one 6 (.one 7 (.pure 8 .nil))))))))) (by kernel_rfl) (by kernel_rfl) ?_
    iterate 4 (refine' wpT_pure rfl rfl (fun w' => ?_) ?_; rotate_left 1; (focus ((try go_simp); (try go_bits); (first | done | with_reducible rfl))); simp only [Act.put, List.setIfInBounds_toArray, List.set_cons_zero, List.set_cons_succ])
    iterate 2 (first | (refine' wpT_take_dddd rfl rfl (fun w' hc hl hsz => ?_) ?_; rotate_left 1; (focus ((try go_simp); (try go_bits); (first | done | with_reducible rfl))); simp only [Act.put, List.setIfInBounds_toArray, List.set_cons_zero, List.set_cons_succ]) | (refine' wpT_take_ddd rfl rfl (fun w' hc hl hsz => ?_) ?_; rotate_left 1; (focus ((try go_simp); (try go_bits); (first | done | with_reducible rfl))); simp only [Act.put, List.setIfInBounds_toArray, List.set_cons_zero, List.set_cons_succ]) | (refine' wpT_take_dd rfl rfl (fun w' hc hl hsz => ?_) ?_; rotate_left 1; (focus ((try go_simp); (try go_bits); (first | done | with_reducible rfl))); simp only [Act.put, List.setIfInBounds_toArray, List.set_cons_zero, List.set_cons_succ]) | (refine' wpT_take_d rfl rfl (fun w' hc hl hsz => ?_) ?_; rotate_left 1; (focus ((try go_simp); (try go_bits); (first | done | with_reducible rfl))); simp only [Act.put, List.setIfInBounds_toArray, List.set_cons_zero, List.set_cons_succ]))
    refine wpT_one rfl rfl (fun K hK => ?_)
    go_wp2_with (go_at_call 41; refine (clone_calls _ _ _ (HP.out.ext (Ext.refl W).dr) (by have := HL.out; omega)).mono ?_; rintro e w1 ⟨v', rfl, hb1, he1⟩)
    refine hK _ _ he1 ?_
    clear hK K
    refine wpT_one rfl rfl (fun K hK => ?_)
    go_simp
    refine ((HA.out.ext (Ext.undrew he1)).call hb1 HL.out).mono ?_
    rintro e w2 ⟨rfl, he2⟩
    go_wp2
    refine hK _ _ he2 ?_
    clear hK K
    (refine' wpT_pure rfl rfl (fun w' => ?_) ?_; rotate_left 1; (focus ((try go_simp); (try go_bits); (first | done | with_reducible rfl))); simp only [Act.put, List.setIfInBounds_toArray, List.set_cons_zero, List.set_cons_succ])
    refine wpT_nil ?_
    go_wp2
    refine wp_fresh W (Ext.trans (Ext.undrew he1) he2) (fun W2 hx2 => ?_)
    have c13 := (HC.out.ext hx2).c13
    have c14 := (HC.out.ext hx2).c14
    have u0 := hx2.at v0
    have hlt3 := Nat.lt_of_lt_of_le hlt2 hx2.size
    have hvb3 := Nat.lt_of_lt_of_le hvb hx2.size
    have HX2 := Lib.hid hx2
    clear hx2 he1 he2
    refine wp_region_T [] (.pure 0 (.pure 1 (.pure 2 (.take 3 (.pure 4 (.pure 5 (.pure 6 (.pure 8 (.pure 9 (.pure 10 (.take 7 (.take 11 (.one 12 (.pure 13 .nil)))))))))))))) (by kernel_rfl) (by kernel_rfl) ?_
    iterate 3 (refine' wpT_pure rfl rfl (fun w' => ?_) ?_; rotate_left 1; (focus ((try go_simp); (try go_bits); (first | done | with_reducible rfl))); simp only [Act.put, List.setIfInBounds_toArray, List.set_cons_zero, List.set_cons_succ])
    first | (refine' wpT_take_dddd rfl rfl (fun w' hc hl hsz => ?_) ?_; rotate_left 1; (focus ((try go_simp); (try go_bits); (first | done | with_reducible rfl))); simp only [Act.put, List.setIfInBounds_toArray, List.set_cons_zero, List.set_cons_succ]) | (refine' wpT_take_ddd rfl rfl (fun w' hc hl hsz => ?_) ?_; rotate_left 1; (focus ((try go_simp); (try go_bits); (first | done | with_reducible rfl))); simp only [Act.put, List.setIfInBounds_toArray, List.set_cons_zero, List.set_cons_succ]) | (refine' wpT_take_dd rfl rfl (fun w' hc hl hsz => ?_) ?_; rotate_left 1; (focus ((try go_simp); (try go_bits); (first | done | with_reducible rfl))); simp only [Act.put, List.setIfInBounds_toArray, List.set_cons_zero, List.set_cons_succ]) | (refine' wpT_take_d rfl rfl (fun w' hc hl hsz => ?_) ?_; rotate_left 1; (focus ((try go_simp); (try go_bits); (first | done | with_reducible rfl))); simp only [Act.put, List.setIfInBounds_toArray, List.set_cons_zero, List.set_cons_succ])
    iterate 2 (refine' wpT_pure rfl rfl (fun w' => ?_) ?_; rotate_left 1; (focus ((try go_simp); (try go_bits); (first | done | with_reducible rfl))); simp only [Act.put, List.setIfInBounds_toArray, List.set_cons_zero, List.set_cons_succ])
    iterate 4 (first | (refine' wpT_pure_on rfl rfl (fun w' => ?_) ?_; rotate_left 1; (focus ((try go_simp); (try go_bits); (first | done | with_reducible rfl))); simp only [Act.put, List.setIfInBounds_toArray, List.set_cons_zero, List.set_cons_succ]) | (refine wpT_pure_off rfl rfl ?_; simp only [Act.put, List.setIfInBounds_toArray, List.set_cons_zero, List.set_cons_succ]))
    iterate 2 (first | (refine' wpT_take_on_dddd rfl rfl (fun w' hc hl hsz => ?_) ?_; rotate_left 1; (focus ((try go_simp); (try go_bits); (first | done | with_reducible rfl))); simp only [Act.put, List.setIfInBounds_toArray, List.set_cons_zero, List.set_cons_succ]) | (refine' wpT_take_on_ddd rfl rfl (fun w' hc hl hsz => ?_) ?_; rotate_left 1; (focus ((try go_simp); (try go_bits); (first | done | with_reducible rfl))); simp only [Act.put, List.setIfInBounds_toArray, List.set_cons_zero, List.set_cons_succ]) | (refine' wpT_take_on_dd rfl rfl (fun w' hc hl hsz => ?_) ?_; rotate_left 1; (focus ((try go_simp); (try go_bits); (first | done | with_reducible rfl))); simp only [Act.put, List.setIfInBounds_toArray, List.set_cons_zero, List.set_cons_succ]) | (refine' wpT_take_on_d rfl rfl (fun w' hc hl hsz => ?_) ?_; rotate_left 1; (focus ((try go_simp); (try go_bits); (first | done | with_reducible rfl))); simp only [Act.put, List.setIfInBounds_toArray, List.set_cons_zero, List.set_cons_succ]) | (refine wpT_take_off rfl rfl ?_; simp only [Act.put, List.setIfInBounds_toArray, List.set_cons_zero, List.set_cons_succ]))
    refine wpT_one_on rfl rfl (fun K hK => ?_)
    go_wp2_with (go_at_call 47; refine (equal_calls _ _ _ _ _ (HP.out.ext (Ext.trans HX2.out (Ext.refl W2).dr)) (HC.out.ext (Ext.trans HX2.out (Ext.refl W2).dr)).locked).mono ?_; rw [HS.out]; rintro e w7 ⟨rfl, rfl⟩)
    refine hK _ _ (Ext.refl _) ?_
    clear hK K
    (refine' wpT_pure rfl rfl (fun w' => ?_) ?_; rotate_left 1; (focus ((try go_simp); (try go_bits); (first | done | with_reducible rfl))); simp only [Act.put, List.setIfInBounds_toArray, List.set_cons_zero, List.set_cons_succ])
    refine wpT_nil ?_
    have u1 := HX2.out.at v1
    go_wp2_with (go_at_call 80; refine (prepared_calls cb c L _ _ (HC.out.ext (Ext.trans HX2.out (Ext.refl W2).dr)) HW.out).mono ?_; rintro e w5 ⟨v5, rfl, hb5, hx5⟩)
    refine wp_fresh w5 (Ext.refl w5) (fun W6 hx65 => ?_)
    have hx6 : Ext W W6 := Ext.trans (Ext.trans HX2.out (Ext.undrew hx5)) hx65
    have d13 := (HC.out.ext hx6).c13
    have d4 := (HC.out.ext hx6).c4
    have y0 := hx6.at v0
    have y1 := hx6.at v1
    have hlt6 := Nat.lt_of_lt_of_le hlt2 hx6.size
    have hvb6 := Nat.lt_of_lt_of_le hvb hx6.size
    have HX6 := Lib.hid hx6
    have HX5 := Lib.hid hx5
    have HX65 := Lib.hid hx65
    have HB5 := Lib.hid hb5
    clear hx6 hx5 hb5 hx65
    refine wp_region_T [] (.pure 0 (.pure 2 (.pure 3 (.pure 4 (.take 1 (.take 5 (.pure 6 (.pure 7 (.pure 8 (.pure 10 (.pure 11 (.pure 12 (.take 9 (.take 13 (.pure 14 (.pure 15 (.pure 16 (.pure 17 (.pure 18 (.pure 19 (.pure 20 (.pure 21 (.take 22 (.one 23 (.pure 24 (.pure 25 .nil)))))))))))))))))))))))))) (by kernel_rfl) (by kernel_rfl) ?_
    iterate 4 (refine' wpT_pure rfl rfl (fun w' => ?_) ?_; rotate_left 1; (focus ((try go_simp); (try go_bits); (first | done | with_reducible rfl))); simp only [Act.put, List.setIfInBounds_toArray, List.set_cons_zero, List.set_cons_succ])
    iterate 2 (first | (refine' wpT_take_dddd rfl rfl (fun w' hc hl hsz => ?_) ?_; rotate_left 1; (focus ((try go_simp); (try go_bits); (first | done | with_reducible rfl))); simp only [Act.put, List.setIfInBounds_toArray, List.set_cons_zero, List.set_cons_succ]) | (refine' wpT_take_ddd rfl rfl (fun w' hc hl hsz => ?_) ?_; rotate_left 1; (focus ((try go_simp); (try go_bits); (first | done | with_reducible rfl))); simp only [Act.put, List.setIfInBounds_toArray, List.set_cons_zero, List.set_cons_succ]) | (refine' wpT_take_dd rfl rfl (fun w' hc hl hsz => ?_) ?_; rotate_left 1; (focus ((try go_simp); (try go_bits); (first | done | with_reducible rfl))); simp only [Act.put, List.setIfInBounds_toArray, List.set_cons_zero, List.set_cons_succ]) | (refine' wpT_take_d rfl rfl (fun w' hc hl hsz => ?_) ?_; rotate_left 1; (focus ((try go_simp); (try go_bits); (first | done | with_reducible rfl))); simp only [Act.put, List.setIfInBounds_toArray, List.set_cons_zero, List.set_cons_succ]))
    iterate 2 (refine' wpT_pure rfl rfl (fun w' => ?_) ?_; rotate_left 1; (focus ((try go_simp); (try go_bits); (first | done | with_reducible rfl))); simp only [Act.put, List.setIfInBounds_toArray, List.set_cons_zero, List.set_cons_succ])
    iterate 4 (first | (refine' wpT_pure_on rfl rfl (fun w' => ?_) ?_; rotate_left 1; (focus ((try go_simp); (try go_bits); (first | done | with_reducible rfl))); simp only [Act.put, List.setIfInBounds_toArray, List.set_cons_zero, List.set_cons_succ]) | (refine wpT_pure_off rfl rfl ?_; simp only [Act.put, List.setIfInBounds_toArray, List.set_cons_zero, List.set_cons_succ]))
    iterate 2 (first | (refine' wpT_take_on_dddd rfl rfl (fun w' hc hl hsz => ?_) ?_; rotate_left 1; (focus ((try go_simp); (try go_bits); (first | done | with_reducible rfl))); simp only [Act.put, List.setIfInBounds_toArray, List.set_cons_zero, List.set_cons_succ]) | (refine' wpT_take_on_ddd rfl rfl (fun w' hc hl hsz => ?_) ?_; rotate_left 1; (focus ((try go_simp); (try go_bits); (first | done | with_reducible rfl))); simp only [Act.put, List.setIfInBounds_toArray, List.set_cons_zero, List.set_cons_succ]) | (refine' wpT_take_on_dd rfl rfl (fun w' hc hl hsz => ?_) ?_; rotate_left 1; (focus ((try go_simp); (try go_bits); (first | done | with_reducible rfl))); simp only [Act.put, List.setIfInBounds_toArray, List.set_cons_zero, List.set_cons_succ]) | (refine' wpT_take_on_d rfl rfl (fun w' hc hl hsz => ?_) ?_; rotate_left 1; (focus ((try go_simp); (try go_bits); (first | done | with_reducible rfl))); simp only [Act.put, List.setIfInBounds_toArray, List.set_cons_zero, List.set_cons_succ]) | (refine wpT_take_off rfl rfl ?_; simp only [Act.put, List.setIfInBounds_toArray, List.set_cons_zero, List.set_cons_succ]))
    first | (refine' wpT_pure_on rfl rfl (fun w' => ?_) ?_; rotate_left 1; (focus ((try go_simp); (try go_bits); (first | done | with_reducible rfl))); simp only [Act.put, List.setIfInBounds_toArray, List.set_cons_zero, List.set_cons_succ]) | (refine wpT_pure_off rfl rfl ?_; simp only [Act.put, List.setIfInBounds_toArray, List.set_cons_zero, List.set_cons_succ])
    iterate 2 (refine' wpT_pure rfl rfl (fun w' => ?_) ?_; rotate_left 1; (focus ((try go_simp); (try go_bits); (first | done | with_reducible rfl))); simp only [Act.put, List.setIfInBounds_toArray, List.set_cons_zero, List.set_cons_succ])
    first | (refine' wpT_pure_on rfl rfl (fun w' => ?_) ?_; rotate_left 1; (focus ((try go_simp); (try go_bits); (first | done | with_reducible rfl))); simp only [Act.put, List.setIfInBounds_toArray, List.set_cons_zero, List.set_cons_succ]) | (refine wpT_pure_off rfl rfl ?_; simp only [Act.put, List.setIfInBounds_toArray, List.set_cons_zero, List.set_cons_succ])
    iterate 2 (refine' wpT_pure rfl rfl (fun w' => ?_) ?_; rotate_left 1; (focus ((try go_simp); (try go_bits); (first | done | with_reducible rfl))); simp only [Act.put, List.setIfInBounds_toArray, List.set_cons_zero, List.set_cons_succ])
    iterate 2 (first | (refine' wpT_pure_on rfl rfl (fun w' => ?_) ?_; rotate_left 1; (focus ((try go_simp); (try go_bits); (first | done | with_reducible rfl))); simp only [Act.put, List.setIfInBounds_toArray, List.set_cons_zero, List.set_cons_succ]) | (refine wpT_pure_off rfl rfl ?_; simp only [Act.put, List.setIfInBounds_toArray, List.set_cons_zero, List.set_cons_succ]))
    first | (refine' wpT_take_on_dddd rfl rfl (fun w' hc hl hsz => ?_) ?_; rotate_left 1; (focus ((try go_simp); (try go_bits); (first | done | with_reducible rfl))); simp only [Act.put, List.setIfInBounds_toArray, List.set_cons_zero, List.set_cons_succ]) | (refine' wpT_take_on_ddd rfl rfl (fun w' hc hl hsz => ?_) ?_; rotate_left 1; (focus ((try go_simp); (try go_bits); (first | done | with_reducible rfl))); simp only [Act.put, List.setIfInBounds_toArray, List.set_cons_zero, List.set_cons_succ]) | (refine' wpT_take_on_dd rfl rfl (fun w' hc hl hsz => ?_) ?_; rotate_left 1; (focus ((try go_simp); (try go_bits); (first | done | with_reducible rfl))); simp only [Act.put, List.setIfInBounds_toArray, List.set_cons_zero, List.set_cons_succ]) | (refine' wpT_take_on_d rfl rfl (fun w' hc hl hsz => ?_) ?_; rotate_left 1; (focus ((try go_simp); (try go_bits); (first | done | with_reducible rfl))); simp only [Act.put, List.setIfInBounds_toArray, List.set_cons_zero, List.set_cons_succ]) | (refine wpT_take_off rfl rfl ?_; simp only [Act.put, List.setIfInBounds_toArray, List.set_cons_zero, List.set_cons_succ])
    refine wpT_one_off rfl rfl ?_
    simp only [Act.put, List.setIfInBounds_toArray, List.set_cons_zero, List.set_cons_succ]
    iterate 2 (refine' wpT_pure rfl rfl (fun w' => ?_) ?_; rotate_left 1; (focus ((try go_simp); (try go_bits); (first | done | with_reducible rfl))); simp only [Act.put, List.setIfInBounds_toArray, List.set_cons_zero, List.set_cons_succ])
    refine wpT_nil ?_
    go_wp2
    go_ret
    exact ⟨by rw [HF.out]; rfl, Ext.trans HX.out (Ext.trans HX6.out (Ext.refl W6).dr)⟩
  · have hl1 : decide (c.lock ≤ p.2) = true := by simpa using hno
    have hl2 : decide (p.2 < c.view) = true := by simpa using hno2
    have hbox := boxed w #[.slice A N cap, .int .i64 p.2] 103
    obtain ⟨W, hW⟩ : ∃ W, W = w.alloc (.cells #[.slice A N cap, .int .i64 p.2] 103) := ⟨_, rfl⟩
    rw [← hW] at hbox
    obtain ⟨hx, hcells, hsz⟩ := hbox
    have hcW := hc.ext hx
    have hpW := hp.ext hx
    have haW := ha.ext hx
    have hlt := hc.lt
    have hlt2 := hcW.lt
    have hvb : w.heap.size < W.heap.size := by omega
    have v0 : W.cell? ⟨w.heap.size, 0, none⟩ = some (.slice A N cap) := hcells 0
    have v1 : W.cell? ⟨w.heap.size, 1, none⟩ = some (.int .i64 p.2) := hcells 1
    have c3 := hcW.c3
    rw [ha.val] at c3
    have hent := ha.ent
    have HC := Lib.hid hcW
    have HP := Lib.hid hpW
    have HA := Lib.hid haW
    have HW := Lib.hid hw
    have HX := Lib.hid hx
    have HL := Lib.hid hl
    have HWE := Lib.hid hW
    clear hc hp ha hw hcW hpW haW hx hcells hsz hW hl
    go_enter Try.func79, Try.ntmps79
    go_wp2
    rw [← HWE.out]
    refine wp_region_T [] (.pure 0 (.pure 1 (.pure 2 (.pure 4 (.take 3 (.take 5 (.one 6 (.one 7 (.pure 8 .nil))))))))) (by kernel_rfl) (by kernel_rfl) ?_
    iterate 4 (refine' wpT_pure rfl rfl (fun w' => ?_) ?_; rotate_left 1; (focus ((try go_simp); (try go_bits); (first | done | with_reducible rfl))); simp only [Act.put, List.setIfInBounds_toArray, List.set_cons_zero, List.set_cons_succ])
    iterate 2 (first | (refine' wpT_take_dddd rfl rfl (fun w' hc hl hsz => ?_) ?_; rotate_left 1; (focus ((try go_simp); (try go_bits); (first | done | with_reducible rfl))); simp only [Act.put, List.setIfInBounds_toArray, List.set_cons_zero, List.set_cons_succ]) | (refine' wpT_take_ddd rfl rfl (fun w' hc hl hsz => ?_) ?_; rotate_left 1; (focus ((try go_simp); (try go_bits); (first | done | with_reducible rfl))); simp only [Act.put, List.setIfInBounds_toArray, List.set_cons_zero, List.set_cons_succ]) | (refine' wpT_take_dd rfl rfl (fun w' hc hl hsz => ?_) ?_; rotate_left 1; (focus ((try go_simp); (try go_bits); (first | done | with_reducible rfl))); simp only [Act.put, List.setIfInBounds_toArray, List.set_cons_zero, List.set_cons_succ]) | (refine' wpT_take_d rfl rfl (fun w' hc hl hsz => ?_) ?_; rotate_left 1; (focus ((try go_simp); (try go_bits); (first | done | with_reducible rfl))); simp only [Act.put, List.setIfInBounds_toArray, List.set_cons_zero, List.set_cons_succ]))
    refine wpT_one rfl rfl (fun K hK => ?_)
    go_wp2_with (go_at_call 41; refine (clone_calls _ _ _ (HP.out.ext (Ext.refl W).dr) (by have := HL.out; omega)).mono ?_; rintro e w1 ⟨v', rfl, hb1, he1⟩)
    refine hK _ _ he1 ?_
    clear hK K
    refine wpT_one rfl rfl (fun K hK => ?_)
    go_simp
    refine ((HA.out.ext (Ext.undrew he1)).call hb1 HL.out).mono ?_
    rintro e w2 ⟨rfl, he2⟩
    go_wp2
    refine hK _ _ he2 ?_
    clear hK K
    (refine' wpT_pure rfl rfl (fun w' => ?_) ?_; rotate_left 1; (focus ((try go_simp); (try go_bits); (first | done | with_reducible rfl))); simp only [Act.put, List.setIfInBounds_toArray, List.set_cons_zero, List.set_cons_succ])
    refine wpT_nil ?_
    go_wp2
    refine wp_fresh W (Ext.trans (Ext.undrew he1) he2) (fun W2 hx2 => ?_)
    have c13 := (HC.out.ext hx2).c13
    have c14 := (HC.out.ext hx2).c14
    have u0 := hx2.at v0
    have hlt3 := Nat.lt_of_lt_of_le hlt2 hx2.size
    have hvb3 := Nat.lt_of_lt_of_le hvb hx2.size
    have HX2 := Lib.hid hx2
    clear hx2 he1 he2
    refine wp_region_T [] (.pure 0 (.pure 1 (.pure 2 (.take 3 (.pure 4 (.pure 5 (.pure 6 (.pure 8 (.pure 9 (.pure 10 (.take 7 (.take 11 (.one 12 (.pure 13 .nil)))))))))))))) (by kernel_rfl) (by kernel_rfl) ?_
    iterate 3 (refine' wpT_pure rfl rfl (fun w' => ?_) ?_; rotate_left 1; (focus ((try go_simp); (try go_bits); (first | done | with_reducible rfl))); simp only [Act.put, List.setIfInBounds_toArray, List.set_cons_zero, List.set_cons_succ])
    first | (refine' wpT_take_dddd rfl rfl (fun w' hc hl hsz => ?_) ?_; rotate_left 1; (focus ((try go_simp); (try go_bits); (first | done | with_reducible rfl))); simp only [Act.put, List.setIfInBounds_toArray, List.set_cons_zero, List.set_cons_succ]) | (refine' wpT_take_ddd rfl rfl (fun w' hc hl hsz => ?_) ?_; rotate_left 1; (focus ((try go_simp); (try go_bits); (first | done | with_reducible rfl))); simp only [Act.put, List.setIfInBounds_toArray, List.set_cons_zero, List.set_cons_succ]) | (refine' wpT_take_dd rfl rfl (fun w' hc hl hsz => ?_) ?_; rotate_left 1; (focus ((try go_simp); (try go_bits); (first | done | with_reducible rfl))); simp only [Act.put, List.setIfInBounds_toArray, List.set_cons_zero, List.set_cons_succ]) | (refine' wpT_take_d rfl rfl (fun w' hc hl hsz => ?_) ?_; rotate_left 1; (focus ((try go_simp); (try go_bits); (first | done | with_reducible rfl))); simp only [Act.put, List.setIfInBounds_toArray, List.set_cons_zero, List.set_cons_succ])
    iterate 2 (refine' wpT_pure rfl rfl (fun w' => ?_) ?_; rotate_left 1; (focus ((try go_simp); (try go_bits); (first | done | with_reducible rfl))); simp only [Act.put, List.setIfInBounds_toArray, List.set_cons_zero, List.set_cons_succ])
    iterate 4 (first | (refine' wpT_pure_on rfl rfl (fun w' => ?_) ?_; rotate_left 1; (focus ((try go_simp); (try go_bits); (first | done | with_reducible rfl))); simp only [Act.put, List.setIfInBounds_toArray, List.set_cons_zero, List.set_cons_succ]) | (refine wpT_pure_off rfl rfl ?_; simp only [Act.put, List.setIfInBounds_toArray, List.set_cons_zero, List.set_cons_succ]))
    iterate 2 (first | (refine' wpT_take_on_dddd rfl rfl (fun w' hc hl hsz => ?_) ?_; rotate_left 1; (focus ((try go_simp); (try go_bits); (first | done | with_reducible rfl))); simp only [Act.put, List.setIfInBounds_toArray, List.set_cons_zero, List.set_cons_succ]) | (refine' wpT_take_on_ddd rfl rfl (fun w' hc hl hsz => ?_) ?_; rotate_left 1; (focus ((try go_simp); (try go_bits); (first | done | with_reducible rfl))); simp only [Act.put, List.setIfInBounds_toArray, List.set_cons_zero, List.set_cons_succ]) | (refine' wpT_take_on_dd rfl rfl (fun w' hc hl hsz => ?_) ?_; rotate_left 1; (focus ((try go_simp); (try go_bits); (first | done | with_reducible rfl))); simp only [Act.put, List.setIfInBounds_toArray, List.set_cons_zero, List.set_cons_succ]) | (refine' wpT_take_on_d rfl rfl (fun w' hc hl hsz => ?_) ?_; rotate_left 1; (focus ((try go_simp); (try go_bits); (first | done | with_reducible rfl))); simp only [Act.put, List.setIfInBounds_toArray, List.set_cons_zero, List.set_cons_succ]) | (refine wpT_take_off rfl rfl ?_; simp only [Act.put, List.setIfInBounds_toArray, List.set_cons_zero, List.set_cons_succ]))
    refine wpT_one_on rfl rfl (fun K hK => ?_)
    go_wp2_with (go_at_call 47; refine (equal_calls _ _ _ _ _ (HP.out.ext (Ext.trans HX2.out (Ext.refl W2).dr)) (HC.out.ext (Ext.trans HX2.out (Ext.refl W2).dr)).locked).mono ?_; rw [HS.out]; rintro e w7 ⟨rfl, rfl⟩)
    refine hK _ _ (Ext.refl _) ?_
    clear hK K
    (refine' wpT_pure rfl rfl (fun w' => ?_) ?_; rotate_left 1; (focus ((try go_simp); (try go_bits); (first | done | with_reducible rfl))); simp only [Act.put, List.setIfInBounds_toArray, List.set_cons_zero, List.set_cons_succ])
    refine wpT_nil ?_
    have u1 := HX2.out.at v1
    go_wp2_with (go_at_call 80; refine (prepared_calls cb c L _ _ (HC.out.ext (Ext.trans HX2.out (Ext.refl W2).dr)) HW.out).mono ?_; rintro e w5 ⟨v5, rfl, hb5, hx5⟩)
    refine wp_fresh w5 (Ext.refl w5) (fun W6 hx65 => ?_)
    have hx6 : Ext W W6 := Ext.trans (Ext.trans HX2.out (Ext.undrew hx5)) hx65
    have d13 := (HC.out.ext hx6).c13
    have d4 := (HC.out.ext hx6).c4
    have y0 := hx6.at v0
    have y1 := hx6.at v1
    have hlt6 := Nat.lt_of_lt_of_le hlt2 hx6.size
    have hvb6 := Nat.lt_of_lt_of_le hvb hx6.size
    have HX6 := Lib.hid hx6
    have HX5 := Lib.hid hx5
    have HX65 := Lib.hid hx65
    have HB5 := Lib.hid hb5
    clear hx6 hx5 hb5 hx65
    refine wp_region_T [] (.pure 0 (.pure 2 (.pure 3 (.pure 4 (.take 1 (.take 5 (.pure 6 (.pure 7 (.pure 8 (.pure 10 (.pure 11 (.pure 12 (.take 9 (.take 13 (.pure 14 (.pure 15 (.pure 16 (.pure 17 (.pure 18 (.pure 19 (.pure 20 (.pure 21 (.take 22 (.one 23 (.pure 24 (.pure 25 .nil)))))))))))))))))))))))))) (by kernel_rfl) (by kernel_rfl) ?_
    iterate 4 (refine' wpT_pure rfl rfl (fun w' => ?_) ?_; rotate_left 1; (focus ((try go_simp); (try go_bits); (first | done | with_reducible rfl))); simp only [Act.put, List.setIfInBounds_toArray, List.set_cons_zero, List.set_cons_succ])
    iterate 2 (first | (refine' wpT_take_dddd rfl rfl (fun w' hc hl hsz => ?_) ?_; rotate_left 1; (focus ((try go_simp); (try go_bits); (first | done | with_reducible rfl))); simp only [Act.put, List.setIfInBounds_toArray, List.set_cons_zero, List.set_cons_succ]) | (refine' wpT_take_ddd rfl rfl (fun w' hc hl hsz => ?_) ?_; rotate_left 1; (focus ((try go_simp); (try go_bits); (first | done | with_reducible rfl))); simp only [Act.put, List.setIfInBounds_toArray, List.set_cons_zero, List.set_cons_succ]) | (refine' wpT_take_dd rfl rfl (fun w' hc hl hsz => ?_) ?_; rotate_left 1; (focus ((try go_simp); (try go_bits); (first | done | with_reducible rfl))); simp only [Act.put, List.setIfInBounds_toArray, List.set_cons_zero, List.set_cons_succ]) | (refine' wpT_take_d rfl rfl (fun w' hc hl hsz => ?_) ?_; rotate_left 1; (focus ((try go_simp); (try go_bits); (first | done | with_reducible rfl))); simp only [Act.put, List.setIfInBounds_toArray, List.set_cons_zero, List.set_cons_succ]))
    iterate 2 (refine' wpT_pure rfl rfl (fun w' => ?_) ?_; rotate_left 1; (focus ((try go_simp); (try go_bits); (first | done | with_reducible rfl))); simp only [Act.put, List.setIfInBounds_toArray, List.set_cons_zero, List.set_cons_succ])
    iterate 4 (first | (refine' wpT_pure_on rfl rfl (fun w' => ?_) ?_; rotate_left 1; (focus ((try go_simp); (try go_bits); (first | done | with_reducible rfl))); simp only [Act.put, List.setIfInBounds_toArray, List.set_cons_zero, List.set_cons_succ]) | (refine wpT_pure_off rfl rfl ?_; simp only [Act.put, List.setIfInBounds_toArray, List.set_cons_zero, List.set_cons_succ]))
    iterate 2 (first | (refine' wpT_take_on_dddd rfl rfl (fun w' hc hl hsz => ?_) ?_; rotate_left 1; (focus ((try go_simp); (try go_bits); (first | done | with_reducible rfl))); simp only [Act.put, List.setIfInBounds_toArray, List.set_cons_zero, List.set_cons_succ]) | (refine' wpT_take_on_ddd rfl rfl (fun w' hc hl hsz => ?_) ?_; rotate_left 1; (focus ((try go_simp); (try go_bits); (first | done | with_reducible rfl))); simp only [Act.put, List.setIfInBounds_toArray, List.set_cons_zero, List.set_cons_succ]) | (refine' wpT_take_on_dd rfl rfl (fun w' hc hl hsz => ?_) ?_; rotate_left 1; (focus ((try go_simp); (try go_bits); (first | done | with_reducible rfl))); simp only [Act.put, List.setIfInBounds_toArray, List.set_cons_zero, List.set_cons_succ]) | (refine' wpT_take_on_d rfl rfl (fun w' hc hl hsz => ?_) ?_; rotate_left 1; (focus ((try go_simp); (try go_bits); (first | done | with_reducible rfl))); simp only [Act.put, List.setIfInBounds_toArray, List.set_cons_zero, List.set_cons_succ]) | (refine wpT_take_off rfl rfl ?_; simp only [Act.put, List.setIfInBounds_toArray, List.set_cons_zero, List.set_cons_succ]))
    first | (refine' wpT_pure_on rfl rfl (fun w' => ?_) ?_; rotate_left 1; (focus ((try go_simp); (try go_bits); (first | done | with_reducible rfl))); simp only [Act.put, List.setIfInBounds_toArray, List.set_cons_zero, List.set_cons_succ]) | (refine wpT_pure_off rfl rfl ?_; simp only [Act.put, List.setIfInBounds_toArray, List.set_cons_zero, List.set_cons_succ])
    iterate 2 (refine' wpT_pure rfl rfl (fun w' => ?_) ?_; rotate_left 1; (focus ((try go_simp); (try go_bits); (first | done | with_reducible rfl))); simp only [Act.put, List.setIfInBounds_toArray, List.set_cons_zero, List.set_cons_succ])
    first | (refine' wpT_pure_on rfl rfl (fun w' => ?_) ?_; rotate_left 1; (focus ((try go_simp); (try go_bits); (first | done | with_reducible rfl))); simp only [Act.put, List.setIfInBounds_toArray, List.set_cons_zero, List.set_cons_succ]) | (refine wpT_pure_off rfl rfl ?_; simp only [Act.put, List.setIfInBounds_toArray, List.set_cons_zero, List.set_cons_succ])
    iterate 2 (refine' wpT_pure rfl rfl (fun w' => ?_) ?_; rotate_left 1; (focus ((try go_simp); (try go_bits); (first | done | with_reducible rfl))); simp only [Act.put, List.setIfInBounds_toArray, List.set_cons_zero, List.set_cons_succ])
    iterate 2 (first | (refine' wpT_pure_on rfl rfl (fun w' => ?_) ?_; rotate_left 1; (focus ((try go_simp); (try go_bits); (first | done | with_reducible rfl))); simp only [Act.put, List.setIfInBounds_toArray, List.set_cons_zero, List.set_cons_succ]) | (refine wpT_pure_off rfl rfl ?_; simp only [Act.put, List.setIfInBounds_toArray, List.set_cons_zero, List.set_cons_succ]))
    first | (refine' wpT_take_on_dddd rfl rfl (fun w' hc hl hsz => ?_) ?_; rotate_left 1; (focus ((try go_simp); (try go_bits); (first | done | with_reducible rfl))); simp only [Act.put, List.setIfInBounds_toArray, List.set_cons_zero, List.set_cons_succ]) | (refine' wpT_take_on_ddd rfl rfl (fun w' hc hl hsz => ?_) ?_; rotate_left 1; (focus ((try go_simp); (try go_bits); (first | done | with_reducible rfl))); simp only [Act.put, List.setIfInBounds_toArray, List.set_cons_zero, List.set_cons_succ]) | (refine' wpT_take_on_dd rfl rfl (fun w' hc hl hsz => ?_) ?_; rotate_left 1; (focus ((try go_simp); (try go_bits); (first | done | with_reducible rfl))); simp only [Act.put, List.setIfInBounds_toArray, List.set_cons_zero, List.set_cons_succ]) | (refine' wpT_take_on_d rfl rfl (fun w' hc hl hsz => ?_) ?_; rotate_left 1; (focus ((try go_simp); (try go_bits); (first | done | with_reducible rfl))); simp only [Act.put, List.setIfInBounds_toArray, List.set_cons_zero, List.set_cons_succ]) | (refine wpT_take_off rfl rfl ?_; simp only [Act.put, List.setIfInBounds_toArray, List.set_cons_zero, List.set_cons_succ])
    refine wpT_one_off rfl rfl ?_
    simp only [Act.put, List.setIfInBounds_toArray, List.set_cons_zero, List.set_cons_succ]
    iterate 2 (refine' wpT_pure rfl rfl (fun w' => ?_) ?_; rotate_left 1; (focus ((try go_simp); (try go_bits); (first | done | with_reducible rfl))); simp only [Act.put, List.setIfInBounds_toArray, List.set_cons_zero, List.set_cons_succ])
    refine wpT_nil ?_
    go_wp2
    go_ret
    exact ⟨by rw [HF.out]; rfl, Ext.trans HX.out (Ext.trans HX6.out (Ext.refl W6).dr)⟩

set_option maxRecDepth 100000 in
set_option maxHeartbeats 400000 in
theorem fit_last (cb : Nat) (c : Core) (L : Lay) (acc : Bytes → Bool) (C : List Nat) (k : FuncId) (caps : Array Value) (A : Option Addr) (N cap : Nat) (p : Bytes × Int) (w : World) (hc : CoreAt w cb c L) (hw : Wf c) (ha : AccAt w L.acc acc C k caps) (hp : BytesAt w (.slice A N cap) p.1) (hl : p.1.length ≤ 4096) (hacc : acc p.1 = true) (hlock : 0 ≤ c.lock) (hs : (p.1 == c.locked) = false)
    (h1 : c.lock ≤ p.2) (h2 : p.2 < c.view) (u : Bytes) (h3 : c.prepared p.2 = some u) :
    Calls Try.prog 79 #[.pointer (some ⟨cb, 0, none⟩), .agg #[.slice A N cap, .int .i64 p.2]] w (GivesBool (c.fit acc p) w) := by
  have HF := Lib.hid (show c.fit acc p = (u == p.1) by
    simp only [Core.fit, hacc, hs, Bool.true_and, Bool.or_false, h3]
    rw [show decide (c.lock < 0) = false by simp; omega, show decide (c.lock ≤ p.2) = true by simpa using h1, show decide (p.2 < c.view) = true by simpa using h2]
    simp)
  have HS := Lib.hid hs
  have h4 : (c.prepared p.2).isSome = true := by rw [h3]; rfl
  have H3 := Lib.hid h3
  have hl0 : decide (c.lock < 0) = false := by simp; omega
  have hl1 : decide (c.lock ≤ p.2) = true := by simpa using h1
  have hl2 : decide (p.2 < c.view) = true := by simpa using h2
  clear hs h3
  have hbox := boxed w #[.slice A N cap, .int .i64 p.2] 103
  obtain ⟨W, hW⟩ : ∃ W, W = w.alloc (.cells #[.slice A N cap, .int .i64 p.2] 103) := ⟨_, rfl⟩
  rw [← hW] at hbox
  obtain ⟨hx, hcells, hsz⟩ := hbox
  have hcW := hc.ext hx
  have hpW := hp.ext hx
  have haW := ha.ext hx
  have hlt := hc.lt
  have hlt2 := hcW.lt
  have hvb : w.heap.size < W.heap.size := by omega
  have v0 : W.cell? ⟨w.heap.size, 0, none⟩ = some (.slice A N cap) := hcells 0
  have v1 : W.cell? ⟨w.heap.size, 1, none⟩ = some (.int .i64 p.2) := hcells 1
  have c3 := hcW.c3
  rw [ha.val] at c3
  have hent := ha.ent
  have HC := Lib.hid hcW
  have HP := Lib.hid hpW
  have HA := Lib.hid haW
  have HW := Lib.hid hw
  have HX := Lib.hid hx
  have HL := Lib.hid hl
  have HWE := Lib.hid hW
  clear hc hp ha hw hcW hpW haW hx hcells hsz hW hl
  go_enter Try.func79, Try.ntmps79
  go_wp2
  rw [← HWE.out]
  refine wp_region_T [] (.pure 0 (.pure 1 (.pure 2 (.pure 4 (.take 3 (.take 5 (.one 6 (.one 7 (.pure 8 .nil))))))))) (by kernel_rfl) (by kernel_rfl) ?_
  iterate 4 (refine' wpT_pure rfl rfl (fun w' => ?_) ?_; rotate_left 1; (focus ((try go_simp); (try go_bits); (first | done | with_reducible rfl))); simp only [Act.put, List.setIfInBounds_toArray, List.set_cons_zero, List.set_cons_succ])
  iterate 2 (first | (refine' wpT_take_dddd rfl rfl (fun w' hc hl hsz => ?_) ?_; rotate_left 1; (focus ((try go_simp); (try go_bits); (first | done | with_reducible rfl))); simp only [Act.put, List.setIfInBounds_toArray, List.set_cons_zero, List.set_cons_succ]) | (refine' wpT_take_ddd rfl rfl (fun w' hc hl hsz => ?_) ?_; rotate_left 1; (focus ((try go_simp); (try go_bits); (first | done | with_reducible rfl))); simp only [Act.put, List.setIfInBounds_toArray, List.set_cons_zero, List.set_cons_succ]) | (refine' wpT_take_dd rfl rfl (fun w' hc hl hsz => ?_) ?_; rotate_left 1; (focus ((try go_simp); (try go_bits); (first | done | with_reducible rfl))); simp only [Act.put, List.setIfInBounds_toArray, List.set_cons_zero, List.set_cons_succ]) | (refine' wpT_take_d rfl rfl (fun w' hc hl hsz => ?_) ?_; rotate_left 1; (focus ((try go_simp); (try go_bits); (first | done | with_reducible rfl))); simp only [Act.put, List.setIfInBounds_toArray, List.set_cons_zero, List.set_cons_succ]))
  refine wpT_one rfl rfl (fun K hK => ?_)
  go_wp2_with (go_at_call 41; refine (clone_calls _ _ _ (HP.out.ext (Ext.refl W).dr) (by have := HL.out; omega)).mono ?_; rintro e w1 ⟨v', rfl, hb1, he1⟩)
  refine hK _ _ he1 ?_
  clear hK K
  refine wpT_one rfl rfl (fun K hK => ?_)
  go_simp
  refine ((HA.out.ext (Ext.undrew he1)).call hb1 HL.out).mono ?_
  rintro e w2 ⟨rfl, he2⟩
  go_wp2
  refine hK _ _ he2 ?_
  clear hK K
  (refine' wpT_pure rfl rfl (fun w' => ?_) ?_; rotate_left 1; (focus ((try go_simp); (try go_bits); (first | done | with_reducible rfl))); simp only [Act.put, List.setIfInBounds_toArray, List.set_cons_zero, List.set_cons_succ])
  refine wpT_nil ?_
  go_wp2
  refine wp_fresh W (Ext.trans (Ext.undrew he1) he2) (fun W2 hx2 => ?_)
  have c13 := (HC.out.ext hx2).c13
  have c14 := (HC.out.ext hx2).c14
  have u0 := hx2.at v0
  have hlt3 := Nat.lt_of_lt_of_le hlt2 hx2.size
  have hvb3 := Nat.lt_of_lt_of_le hvb hx2.size
  have HX2 := Lib.hid hx2
  clear hx2 he1 he2
  refine wp_region_T [] (.pure 0 (.pure 1 (.pure 2 (.take 3 (.pure 4 (.pure 5 (.pure 6 (.pure 8 (.pure 9 (.pure 10 (.take 7 (.take 11 (.one 12 (.pure 13 .nil)))))))))))))) (by kernel_rfl) (by kernel_rfl) ?_
  iterate 3 (refine' wpT_pure rfl rfl (fun w' => ?_) ?_; rotate_left 1; (focus ((try go_simp); (try go_bits); (first | done | with_reducible rfl))); simp only [Act.put, List.setIfInBounds_toArray, List.set_cons_zero, List.set_cons_succ])
  first | (refine' wpT_take_dddd rfl rfl (fun w' hc hl hsz => ?_) ?_; rotate_left 1; (focus ((try go_simp); (try go_bits); (first | done | with_reducible rfl))); simp only [Act.put, List.setIfInBounds_toArray, List.set_cons_zero, List.set_cons_succ]) | (refine' wpT_take_ddd rfl rfl (fun w' hc hl hsz => ?_) ?_; rotate_left 1; (focus ((try go_simp); (try go_bits); (first | done | with_reducible rfl))); simp only [Act.put, List.setIfInBounds_toArray, List.set_cons_zero, List.set_cons_succ]) | (refine' wpT_take_dd rfl rfl (fun w' hc hl hsz => ?_) ?_; rotate_left 1; (focus ((try go_simp); (try go_bits); (first | done | with_reducible rfl))); simp only [Act.put, List.setIfInBounds_toArray, List.set_cons_zero, List.set_cons_succ]) | (refine' wpT_take_d rfl rfl (fun w' hc hl hsz => ?_) ?_; rotate_left 1; (focus ((try go_simp); (try go_bits); (first | done | with_reducible rfl))); simp only [Act.put, List.setIfInBounds_toArray, List.set_cons_zero, List.set_cons_succ])
  iterate 2 (refine' wpT_pure rfl rfl (fun w' => ?_) ?_; rotate_left 1; (focus ((try go_simp); (try go_bits); (first | done | with_reducible rfl))); simp only [Act.put, List.setIfInBounds_toArray, List.set_cons_zero, List.set_cons_succ])
  iterate 4 (first | (refine' wpT_pure_on rfl rfl (fun w' => ?_) ?_; rotate_left 1; (focus ((try go_simp); (try go_bits); (first | done | with_reducible rfl))); simp only [Act.put, List.setIfInBounds_toArray, List.set_cons_zero, List.set_cons_succ]) | (refine wpT_pure_off rfl rfl ?_; simp only [Act.put, List.setIfInBounds_toArray, List.set_cons_zero, List.set_cons_succ]))
  iterate 2 (first | (refine' wpT_take_on_dddd rfl rfl (fun w' hc hl hsz => ?_) ?_; rotate_left 1; (focus ((try go_simp); (try go_bits); (first | done | with_reducible rfl))); simp only [Act.put, List.setIfInBounds_toArray, List.set_cons_zero, List.set_cons_succ]) | (refine' wpT_take_on_ddd rfl rfl (fun w' hc hl hsz => ?_) ?_; rotate_left 1; (focus ((try go_simp); (try go_bits); (first | done | with_reducible rfl))); simp only [Act.put, List.setIfInBounds_toArray, List.set_cons_zero, List.set_cons_succ]) | (refine' wpT_take_on_dd rfl rfl (fun w' hc hl hsz => ?_) ?_; rotate_left 1; (focus ((try go_simp); (try go_bits); (first | done | with_reducible rfl))); simp only [Act.put, List.setIfInBounds_toArray, List.set_cons_zero, List.set_cons_succ]) | (refine' wpT_take_on_d rfl rfl (fun w' hc hl hsz => ?_) ?_; rotate_left 1; (focus ((try go_simp); (try go_bits); (first | done | with_reducible rfl))); simp only [Act.put, List.setIfInBounds_toArray, List.set_cons_zero, List.set_cons_succ]) | (refine wpT_take_off rfl rfl ?_; simp only [Act.put, List.setIfInBounds_toArray, List.set_cons_zero, List.set_cons_succ]))
  refine wpT_one_on rfl rfl (fun K hK => ?_)
  go_wp2_with (go_at_call 47; refine (equal_calls _ _ _ _ _ (HP.out.ext (Ext.trans HX2.out (Ext.refl W2).dr)) (HC.out.ext (Ext.trans HX2.out (Ext.refl W2).dr)).locked).mono ?_; rw [HS.out]; rintro e w7 ⟨rfl, rfl⟩)
  refine hK _ _ (Ext.refl _) ?_
  clear hK K
  (refine' wpT_pure rfl rfl (fun w' => ?_) ?_; rotate_left 1; (focus ((try go_simp); (try go_bits); (first | done | with_reducible rfl))); simp only [Act.put, List.setIfInBounds_toArray, List.set_cons_zero, List.set_cons_succ])
  refine wpT_nil ?_
  have u1 := HX2.out.at v1
  go_wp2_with (go_at_call 80; refine (prepared_calls cb c L _ _ (HC.out.ext (Ext.trans HX2.out (Ext.refl W2).dr)) HW.out).mono ?_; rintro e w5 ⟨v5, rfl, hb5, hx5⟩)
  refine wp_fresh w5 (Ext.refl w5) (fun W6 hx65 => ?_)
  have hx6 : Ext W W6 := Ext.trans (Ext.trans HX2.out (Ext.undrew hx5)) hx65
  have d13 := (HC.out.ext hx6).c13
  have d4 := (HC.out.ext hx6).c4
  have y0 := hx6.at v0
  have y1 := hx6.at v1
  have hlt6 := Nat.lt_of_lt_of_le hlt2 hx6.size
  have hvb6 := Nat.lt_of_lt_of_le hvb hx6.size
  have HX6 := Lib.hid hx6
  have HX5 := Lib.hid hx5
  have HX65 := Lib.hid hx65
  have HB5 := Lib.hid hb5
  clear hx6 hx5 hb5 hx65
  refine wp_region_T [] (.pure 0 (.pure 2 (.pure 3 (.pure 4 (.take 1 (.take 5 (.pure 6 (.pure 7 (.pure 8 (.pure 10 (.pure 11 (.pure 12 (.take 9 (.take 13 (.pure 14 (.pure 15 (.pure 16 (.pure 17 (.pure 18 (.pure 19 (.pure 20 (.pure 21 (.take 22 (.one 23 (.pure 24 (.pure 25 .nil)))))))))))))))))))))))))) (by kernel_rfl) (by kernel_rfl) ?_
  iterate 4 (refine' wpT_pure rfl rfl (fun w' => ?_) ?_; rotate_left 1; (focus ((try go_simp); (try go_bits); (first | done | with_reducible rfl))); simp only [Act.put, List.setIfInBounds_toArray, List.set_cons_zero, List.set_cons_succ])
  iterate 2 (first | (refine' wpT_take_dddd rfl rfl (fun w' hc hl hsz => ?_) ?_; rotate_left 1; (focus ((try go_simp); (try go_bits); (first | done | with_reducible rfl))); simp only [Act.put, List.setIfInBounds_toArray, List.set_cons_zero, List.set_cons_succ]) | (refine' wpT_take_ddd rfl rfl (fun w' hc hl hsz => ?_) ?_; rotate_left 1; (focus ((try go_simp); (try go_bits); (first | done | with_reducible rfl))); simp only [Act.put, List.setIfInBounds_toArray, List.set_cons_zero, List.set_cons_succ]) | (refine' wpT_take_dd rfl rfl (fun w' hc hl hsz => ?_) ?_; rotate_left 1; (focus ((try go_simp); (try go_bits); (first | done | with_reducible rfl))); simp only [Act.put, List.setIfInBounds_toArray, List.set_cons_zero, List.set_cons_succ]) | (refine' wpT_take_d rfl rfl (fun w' hc hl hsz => ?_) ?_; rotate_left 1; (focus ((try go_simp); (try go_bits); (first | done | with_reducible rfl))); simp only [Act.put, List.setIfInBounds_toArray, List.set_cons_zero, List.set_cons_succ]))
  iterate 2 (refine' wpT_pure rfl rfl (fun w' => ?_) ?_; rotate_left 1; (focus ((try go_simp); (try go_bits); (first | done | with_reducible rfl))); simp only [Act.put, List.setIfInBounds_toArray, List.set_cons_zero, List.set_cons_succ])
  iterate 4 (first | (refine' wpT_pure_on rfl rfl (fun w' => ?_) ?_; rotate_left 1; (focus ((try go_simp); (try go_bits); (first | done | with_reducible rfl))); simp only [Act.put, List.setIfInBounds_toArray, List.set_cons_zero, List.set_cons_succ]) | (refine wpT_pure_off rfl rfl ?_; simp only [Act.put, List.setIfInBounds_toArray, List.set_cons_zero, List.set_cons_succ]))
  iterate 2 (first | (refine' wpT_take_on_dddd rfl rfl (fun w' hc hl hsz => ?_) ?_; rotate_left 1; (focus ((try go_simp); (try go_bits); (first | done | with_reducible rfl))); simp only [Act.put, List.setIfInBounds_toArray, List.set_cons_zero, List.set_cons_succ]) | (refine' wpT_take_on_ddd rfl rfl (fun w' hc hl hsz => ?_) ?_; rotate_left 1; (focus ((try go_simp); (try go_bits); (first | done | with_reducible rfl))); simp only [Act.put, List.setIfInBounds_toArray, List.set_cons_zero, List.set_cons_succ]) | (refine' wpT_take_on_dd rfl rfl (fun w' hc hl hsz => ?_) ?_; rotate_left 1; (focus ((try go_simp); (try go_bits); (first | done | with_reducible rfl))); simp only [Act.put, List.setIfInBounds_toArray, List.set_cons_zero, List.set_cons_succ]) | (refine' wpT_take_on_d rfl rfl (fun w' hc hl hsz => ?_) ?_; rotate_left 1; (focus ((try go_simp); (try go_bits); (first | done | with_reducible rfl))); simp only [Act.put, List.setIfInBounds_toArray, List.set_cons_zero, List.set_cons_succ]) | (refine wpT_take_off rfl rfl ?_; simp only [Act.put, List.setIfInBounds_toArray, List.set_cons_zero, List.set_cons_succ]))
  first | (refine' wpT_pure_on rfl rfl (fun w' => ?_) ?_; rotate_left 1; (focus ((try go_simp); (try go_bits); (first | done | with_reducible rfl))); simp only [Act.put, List.setIfInBounds_toArray, List.set_cons_zero, List.set_cons_succ]) | (refine wpT_pure_off rfl rfl ?_; simp only [Act.put, List.setIfInBounds_toArray, List.set_cons_zero, List.set_cons_succ])
  iterate 2 (refine' wpT_pure rfl rfl (fun w' => ?_) ?_; rotate_left 1; (focus ((try go_simp); (try go_bits); (first | done | with_reducible rfl))); simp only [Act.put, List.setIfInBounds_toArray, List.set_cons_zero, List.set_cons_succ])
  first | (refine' wpT_pure_on rfl rfl (fun w' => ?_) ?_; rotate_left 1; (focus ((try go_simp); (try go_bits); (first | done | with_reducible rfl))); simp only [Act.put, List.setIfInBounds_toArray, List.set_cons_zero, List.set_cons_succ]) | (refine wpT_pure_off rfl rfl ?_; simp only [Act.put, List.setIfInBounds_toArray, List.set_cons_zero, List.set_cons_succ])
  iterate 2 (refine' wpT_pure rfl rfl (fun w' => ?_) ?_; rotate_left 1; (focus ((try go_simp); (try go_bits); (first | done | with_reducible rfl))); simp only [Act.put, List.setIfInBounds_toArray, List.set_cons_zero, List.set_cons_succ])
  iterate 2 (first | (refine' wpT_pure_on rfl rfl (fun w' => ?_) ?_; rotate_left 1; (focus ((try go_simp); (try go_bits); (first | done | with_reducible rfl))); simp only [Act.put, List.setIfInBounds_toArray, List.set_cons_zero, List.set_cons_succ]) | (refine wpT_pure_off rfl rfl ?_; simp only [Act.put, List.setIfInBounds_toArray, List.set_cons_zero, List.set_cons_succ]))
  first | (refine' wpT_take_on_dddd rfl rfl (fun w' hc hl hsz => ?_) ?_; rotate_left 1; (focus ((try go_simp); (try go_bits); (first | done | with_reducible rfl))); simp only [Act.put, List.setIfInBounds_toArray, List.set_cons_zero, List.set_cons_succ]) | (refine' wpT_take_on_ddd rfl rfl (fun w' hc hl hsz => ?_) ?_; rotate_left 1; (focus ((try go_simp); (try go_bits); (first | done | with_reducible rfl))); simp only [Act.put, List.setIfInBounds_toArray, List.set_cons_zero, List.set_cons_succ]) | (refine' wpT_take_on_dd rfl rfl (fun w' hc hl hsz => ?_) ?_; rotate_left 1; (focus ((try go_simp); (try go_bits); (first | done | with_reducible rfl))); simp only [Act.put, List.setIfInBounds_toArray, List.set_cons_zero, List.set_cons_succ]) | (refine' wpT_take_on_d rfl rfl (fun w' hc hl hsz => ?_) ?_; rotate_left 1; (focus ((try go_simp); (try go_bits); (first | done | with_reducible rfl))); simp only [Act.put, List.setIfInBounds_toArray, List.set_cons_zero, List.set_cons_succ]) | (refine wpT_take_off rfl rfl ?_; simp only [Act.put, List.setIfInBounds_toArray, List.set_cons_zero, List.set_cons_succ])
  refine wpT_one_on rfl rfl (fun K hK => ?_)
  go_wp2_with (go_at_call 47; refine (equal_calls _ _ u p.1 _ (by have := HB5.out; rw [H3.out] at this; exact this.ext (Ext.trans HX65.out (Ext.refl W6).dr)) (HP.out.ext (Ext.trans HX6.out (Ext.refl W6).dr))).mono ?_; rintro e w7 ⟨rfl, rfl⟩)
  refine hK _ _ (Ext.refl _) ?_
  clear hK K
  iterate 2 (refine' wpT_pure rfl rfl (fun w' => ?_) ?_; rotate_left 1; (focus ((try go_simp); (try go_bits); (first | done | with_reducible rfl))); simp only [Act.put, List.setIfInBounds_toArray, List.set_cons_zero, List.set_cons_succ])
  refine wpT_nil ?_
  go_wp2
  go_ret
  exact ⟨by rw [HF.out]; rfl, Ext.trans HX.out (Ext.trans HX6.out (Ext.refl W6).dr)⟩

theorem fit_calls (cb : Nat) (c : Core) (L : Lay) (acc : Bytes → Bool) (C : List Nat) (k : FuncId) (caps : Array Value) (A : Option Addr) (N cap : Nat) (p : Bytes × Int) (w : World) (hc : CoreAt w cb c L) (hw : Wf c) (ha : AccAt w L.acc acc C k caps) (hp : BytesAt w (.slice A N cap) p.1) (hl : p.1.length ≤ 4096) :
    Calls Try.prog 79 #[.pointer (some ⟨cb, 0, none⟩), .agg #[.slice A N cap, .int .i64 p.2]] w (GivesBool (c.fit acc p) w) := by
  cases hacc : acc p.1 with
  | false => exact fit_alien cb c L acc C k caps A N cap p w hc hw ha hp hl hacc
  | true =>
    by_cases hlock : c.lock < 0
    · exact fit_free cb c L acc C k caps A N cap p w hc hw ha hp hl hacc hlock
    · have hlock : 0 ≤ c.lock := by omega
      cases hs : (p.1 == c.locked) with
      | true => exact fit_same cb c L acc C k caps A N cap p w hc hw ha hp hl hacc hlock hs
      | false =>
        by_cases h1 : c.lock ≤ p.2
        · by_cases h2 : p.2 < c.view
          · cases h3 : c.prepared p.2 with
            | none => exact fit_not cb c L acc C k caps A N cap p w hc hw ha hp hl hacc hlock hs (Or.inr (Or.inr ⟨h1, h2, by rw [h3]; rfl⟩))
            | some u => exact fit_last cb c L acc C k caps A N cap p w hc hw ha hp hl hacc hlock hs h1 h2 u h3
          · exact fit_not cb c L acc C k caps A N cap p w hc hw ha hp hl hacc hlock hs (Or.inr (Or.inl ⟨h1, by omega⟩))
        · exact fit_not cb c L acc C k caps A N cap p w hc hw ha hp hl hacc hlock hs (Or.inl (by omega))
end Go.Proofs.Ytkpllkjionegeaa

/- Walks: a Prepare of one's own (prepare). -/
namespace Go.Proofs.Ytkpllkjionegeaa
open Go Go.RowKit

/-- what a thing leaves that a core may do -/
def StepPost (cb : Nat) (L : Lay) (c : Core) (o : Option Core) (w : World) (e : Ending) (w' : World) : Prop :=
  ∃ L', e = .returned (.bool o.isSome) ∧ CoreAt w' cb (o.getD c) L' ∧ Moves cb L L' w w'

theorem StepPost.no {cb : Nat} {L : Lay} {c : Core} {w w' : World} (hc : CoreAt w cb c L) (hx : Ext w w') : StepPost cb L c none w (.returned (.bool false)) w' :=
  ⟨L, rfl, hc.ext hx, Moves.of_ext hx⟩

theorem told_look {w : World} {r : Nat} {m : AL Told} {im : AL Nat} (h : TMapAt w r m im) (view who : Int) :
    ∃ x i, i < w.heap.size ∧ (∀ w', w'.heap[i]? = w.heap[i]? → (Instr.lookup 69 (.map (AL.get? im view)) (.int .i64 who) true).run Try.prog w' = .ok (.tuple #[x, .bool (AL.get? (inner m view) who).isSome]) w') ∧
      BytesAt w x ((AL.get? (inner m view) who).getD []) := by
  rcases inner_of h view with ⟨h1, _, h2⟩ | ⟨id, h1, _, h2⟩
  · refine ⟨.slice none 0 0, r, h.lt, fun w' _ => ?_, ?_⟩
    · rw [h1, h2]; exact nil_look who true w'
    · rw [h2]; exact BytesAt.nil w
  · obtain ⟨x, hx, _, hb⟩ := inner_look h2 who
    exact ⟨x, id, h2.lt, fun w' hw => by rw [h1]; exact hx w' hw, hb⟩



set_option maxRecDepth 100000 in
set_option maxHeartbeats 800000 in
/-- nothing proposed, or told before -/
theorem prepare_not (cb : Nat) (c : Core) (L : Lay) (acc : Bytes → Bool) (C : List Nat) (k : FuncId) (caps : Array Value) (w : World) (hc : CoreAt w cb c L) (hw : Wf c) (ha : AccAt w L.acc acc C k caps) (hno : AL.get? c.props c.view = none ∨ (AL.get? (inner c.preps c.view) c.me).isSome = true) :
    Calls Try.prog 67 #[.pointer (some ⟨cb, 0, none⟩)] w (StepPost cb L c (c.prepare acc) w) := by
  have HF := Lib.hid (show c.prepare acc = none by
    unfold Core.prepare
    rcases hno with h | h
    · rw [h]
    · cases AL.get? c.props c.view with
      | none => rfl
      | some p => simp [h])
  cases hdone : (AL.get? (inner c.preps c.view) c.me).isSome with
  | true =>
    clear hno
    obtain ⟨A, N, K0, q, hp1, hp2⟩ := props_look hc.props c.view
    have hlt := hc.lt
    have hpl := hc.props.lt
    have c7 := hc.c7
    have c4 := hc.c4
    have HC := Lib.hid hc
    have HW := Lib.hid hw
    have HA := Lib.hid ha
    have HP := Lib.hid hp2
    clear hc hw ha hp2
    go_enter Try.func67, Try.ntmps67
    go_wp2
    refine wp_region_T [13] (.pure 0 (.pure 1 (.pure 2 (.pure 4 (.pure 5 (.pure 6 (.take 3 (.take 7 (.take 8 (.pure 9 (.pure 10 (.pure 11 (.one 12 (.one 13 (.pure 14 .nil))))))))))))))) (by kernel_rfl) (by kernel_rfl) ?_
    iterate 6 (refine' wpT_pure rfl rfl (fun w' => ?_) ?_; rotate_left 1; (focus ((try go_simp); (try go_bits); (first | done | with_reducible rfl))); simp only [Act.put, List.setIfInBounds_toArray, List.set_cons_zero, List.set_cons_succ])
    iterate 3 (first | (refine' wpT_take_dddd rfl rfl (fun w' hc hl hsz => ?_) ?_; rotate_left 1; (focus ((try go_simp); (try go_bits); (first | done | with_reducible rfl))); simp only [Act.put, List.setIfInBounds_toArray, List.set_cons_zero, List.set_cons_succ]) | (refine' wpT_take_ddd rfl rfl (fun w' hc hl hsz => ?_) ?_; rotate_left 1; (focus ((try go_simp); (try go_bits); (first | done | with_reducible rfl))); simp only [Act.put, List.setIfInBounds_toArray, List.set_cons_zero, List.set_cons_succ]) | (refine' wpT_take_dd rfl rfl (fun w' hc hl hsz => ?_) ?_; rotate_left 1; (focus ((try go_simp); (try go_bits); (first | done | with_reducible rfl))); simp only [Act.put, List.setIfInBounds_toArray, List.set_cons_zero, List.set_cons_succ]) | (refine' wpT_take_d rfl rfl (fun w' hc hl hsz => ?_) ?_; rotate_left 1; (focus ((try go_simp); (try go_bits); (first | done | with_reducible rfl))); simp only [Act.put, List.setIfInBounds_toArray, List.set_cons_zero, List.set_cons_succ]))
    iterate 3 (refine' wpT_pure rfl rfl (fun w' => ?_) ?_; rotate_left 1; (focus ((try go_simp); (try go_bits); (first | done | with_reducible rfl))); simp only [Act.put, List.setIfInBounds_toArray, List.set_cons_zero, List.set_cons_succ])
    refine wpT_one rfl rfl (fun K hK => ?_)
    go_wp2
    refine hK _ _ (Ext.al (Ext.refl _) _) ?_
    clear hK K
    refine wpT_writer rfl rfl (by decide) (fun K hK => ?_)
    go_wp2
    first | (refine hK _ _ ?_; clear hK K) | skip
    (refine' wpT_pure rfl rfl (fun w' => ?_) ?_; rotate_left 1; (focus ((try go_simp); (try go_bits); (first | done | with_reducible rfl))); simp only [Act.put, List.setIfInBounds_toArray, List.set_cons_zero, List.set_cons_succ])
    refine wpT_nil ?_
    go_wp2
    refine wp_fresh (w.alloc (.cells #[.slice A N K0, (.int .i64 q)] 103)) (Ext.refl _).dr (fun W2 hx2 => ?_)
    have hbx := boxed w #[.slice A N K0, (.int .i64 q)] 103
    have b0 : W2.cell? ⟨w.heap.size, 0, none⟩ = some (.slice A N K0) := hx2.at (hbx.2.1 0)
    have b1 : W2.cell? ⟨w.heap.size, 1, none⟩ = some ((.int .i64 q)) := hx2.at (hbx.2.1 1)
    have hx := Ext.trans hbx.1 hx2
    have hsz := hx2.size
    rw [hbx.2.2] at hsz
    have hvb : w.heap.size < W2.heap.size := by omega
    have hc2 := HC.out.ext hx
    have hlt2 := hc2.lt
    have d8 := hc2.c8
    have d4 := hc2.c4
    have d1 := hc2.c1
    have ho := outer_look hc2.preps c.view
    obtain ⟨x, ti, hti, htl, _⟩ := told_look hc2.preps c.view c.me
    rw [hdone] at htl
    have hol := hc2.preps.lt
    have HX := Lib.hid hx
    clear hx hx2 hbx hc2 hp1 hsz
    refine wp_region_T [] (.pure 0 (.pure 1 (.pure 2 (.pure 4 (.pure 5 (.pure 6 (.pure 9 (.pure 10 (.pure 11 (.take 3 (.take 7 (.take 8 (.take 12 (.take 13 (.pure 14 (.pure 15 (.pure 16 (.pure 17 (.pure 18 .nil))))))))))))))))))) (by kernel_rfl) (by kernel_rfl) ?_
    iterate 9 (refine' wpT_pure rfl rfl (fun w' => ?_) ?_; rotate_left 1; (focus ((try go_simp); (try go_bits); (first | done | with_reducible rfl))); simp only [Act.put, List.setIfInBounds_toArray, List.set_cons_zero, List.set_cons_succ])
    iterate 5 (first | (refine' wpT_take_dddd rfl rfl (fun w' hc hl hsz => ?_) ?_; rotate_left 1; (focus ((try go_simp); (try go_bits); (first | done | with_reducible rfl))); simp only [Act.put, List.setIfInBounds_toArray, List.set_cons_zero, List.set_cons_succ]) | (refine' wpT_take_ddd rfl rfl (fun w' hc hl hsz => ?_) ?_; rotate_left 1; (focus ((try go_simp); (try go_bits); (first | done | with_reducible rfl))); simp only [Act.put, List.setIfInBounds_toArray, List.set_cons_zero, List.set_cons_succ]) | (refine' wpT_take_dd rfl rfl (fun w' hc hl hsz => ?_) ?_; rotate_left 1; (focus ((try go_simp); (try go_bits); (first | done | with_reducible rfl))); simp only [Act.put, List.setIfInBounds_toArray, List.set_cons_zero, List.set_cons_succ]) | (refine' wpT_take_d rfl rfl (fun w' hc hl hsz => ?_) ?_; rotate_left 1; (focus ((try go_simp); (try go_bits); (first | done | with_reducible rfl))); simp only [Act.put, List.setIfInBounds_toArray, List.set_cons_zero, List.set_cons_succ]))
    iterate 5 (refine' wpT_pure rfl rfl (fun w' => ?_) ?_; rotate_left 1; (focus ((try go_simp); (try go_bits); (first | done | with_reducible rfl))); simp only [Act.put, List.setIfInBounds_toArray, List.set_cons_zero, List.set_cons_succ])
    refine wpT_nil ?_
    go_wp2
    go_ret
    rw [HF.out]
    exact StepPost.no HC.out (Ext.trans HX.out (Ext.refl W2).dr)
  | false =>
    have hno := hno.resolve_right (by rw [hdone]; simp)
    obtain ⟨hns⟩ : Nonempty ((AL.get? c.props c.view).isSome = false) := ⟨by rw [hno]; rfl⟩
    clear hno
    obtain ⟨A, N, K0, q, hp1, hp2⟩ := props_look hc.props c.view
    have hlt := hc.lt
    have hpl := hc.props.lt
    have c7 := hc.c7
    have c4 := hc.c4
    have HC := Lib.hid hc
    have HW := Lib.hid hw
    have HA := Lib.hid ha
    have HP := Lib.hid hp2
    clear hc hw ha hp2
    go_enter Try.func67, Try.ntmps67
    go_wp2
    refine wp_region_T [13] (.pure 0 (.pure 1 (.pure 2 (.pure 4 (.pure 5 (.pure 6 (.take 3 (.take 7 (.take 8 (.pure 9 (.pure 10 (.pure 11 (.one 12 (.one 13 (.pure 14 .nil))))))))))))))) (by kernel_rfl) (by kernel_rfl) ?_
    iterate 6 (refine' wpT_pure rfl rfl (fun w' => ?_) ?_; rotate_left 1; (focus ((try go_simp); (try go_bits); (first | done | with_reducible rfl))); simp only [Act.put, List.setIfInBounds_toArray, List.set_cons_zero, List.set_cons_succ])
    iterate 3 (first | (refine' wpT_take_dddd rfl rfl (fun w' hc hl hsz => ?_) ?_; rotate_left 1; (focus ((try go_simp); (try go_bits); (first | done | with_reducible rfl))); simp only [Act.put, List.setIfInBounds_toArray, List.set_cons_zero, List.set_cons_succ]) | (refine' wpT_take_ddd rfl rfl (fun w' hc hl hsz => ?_) ?_; rotate_left 1; (focus ((try go_simp); (try go_bits); (first | done | with_reducible rfl))); simp only [Act.put, List.setIfInBounds_toArray, List.set_cons_zero, List.set_cons_succ]) | (refine' wpT_take_dd rfl rfl (fun w' hc hl hsz => ?_) ?_; rotate_left 1; (focus ((try go_simp); (try go_bits); (first | done | with_reducible rfl))); simp only [Act.put, List.setIfInBounds_toArray, List.set_cons_zero, List.set_cons_succ]) | (refine' wpT_take_d rfl rfl (fun w' hc hl hsz => ?_) ?_; rotate_left 1; (focus ((try go_simp); (try go_bits); (first | done | with_reducible rfl))); simp only [Act.put, List.setIfInBounds_toArray, List.set_cons_zero, List.set_cons_succ]))
    iterate 3 (refine' wpT_pure rfl rfl (fun w' => ?_) ?_; rotate_left 1; (focus ((try go_simp); (try go_bits); (first | done | with_reducible rfl))); simp only [Act.put, List.setIfInBounds_toArray, List.set_cons_zero, List.set_cons_succ])
    refine wpT_one rfl rfl (fun K hK => ?_)
    go_wp2
    refine hK _ _ (Ext.al (Ext.refl _) _) ?_
    clear hK K
    refine wpT_writer rfl rfl (by decide) (fun K hK => ?_)
    go_wp2
    first | (refine hK _ _ ?_; clear hK K) | skip
    (refine' wpT_pure rfl rfl (fun w' => ?_) ?_; rotate_left 1; (focus ((try go_simp); (try go_bits); (first | done | with_reducible rfl))); simp only [Act.put, List.setIfInBounds_toArray, List.set_cons_zero, List.set_cons_succ])
    refine wpT_nil ?_
    go_wp2
    refine wp_fresh (w.alloc (.cells #[.slice A N K0, (.int .i64 q)] 103)) (Ext.refl _).dr (fun W2 hx2 => ?_)
    have hbx := boxed w #[.slice A N K0, (.int .i64 q)] 103
    have b0 : W2.cell? ⟨w.heap.size, 0, none⟩ = some (.slice A N K0) := hx2.at (hbx.2.1 0)
    have b1 : W2.cell? ⟨w.heap.size, 1, none⟩ = some ((.int .i64 q)) := hx2.at (hbx.2.1 1)
    have hx := Ext.trans hbx.1 hx2
    have hsz := hx2.size
    rw [hbx.2.2] at hsz
    have hvb : w.heap.size < W2.heap.size := by omega
    have hc2 := HC.out.ext hx
    have hlt2 := hc2.lt
    have d8 := hc2.c8
    have d4 := hc2.c4
    have d1 := hc2.c1
    have ho := outer_look hc2.preps c.view
    obtain ⟨x, ti, hti, htl, _⟩ := told_look hc2.preps c.view c.me
    rw [hdone] at htl
    have hol := hc2.preps.lt
    have HX := Lib.hid hx
    clear hx hx2 hbx hc2 hp1 hsz
    refine wp_region_T [] (.pure 0 (.pure 1 (.pure 2 (.pure 4 (.pure 5 (.pure 6 (.pure 9 (.pure 10 (.pure 11 (.take 3 (.take 7 (.take 8 (.take 12 (.take 13 (.pure 14 (.pure 15 (.pure 16 (.pure 17 (.pure 18 .nil))))))))))))))))))) (by kernel_rfl) (by kernel_rfl) ?_
    iterate 9 (refine' wpT_pure rfl rfl (fun w' => ?_) ?_; rotate_left 1; (focus ((try go_simp); (try go_bits); (first | done | with_reducible rfl))); simp only [Act.put, List.setIfInBounds_toArray, List.set_cons_zero, List.set_cons_succ])
    iterate 5 (first | (refine' wpT_take_dddd rfl rfl (fun w' hc hl hsz => ?_) ?_; rotate_left 1; (focus ((try go_simp); (try go_bits); (first | done | with_reducible rfl))); simp only [Act.put, List.setIfInBounds_toArray, List.set_cons_zero, List.set_cons_succ]) | (refine' wpT_take_ddd rfl rfl (fun w' hc hl hsz => ?_) ?_; rotate_left 1; (focus ((try go_simp); (try go_bits); (first | done | with_reducible rfl))); simp only [Act.put, List.setIfInBounds_toArray, List.set_cons_zero, List.set_cons_succ]) | (refine' wpT_take_dd rfl rfl (fun w' hc hl hsz => ?_) ?_; rotate_left 1; (focus ((try go_simp); (try go_bits); (first | done | with_reducible rfl))); simp only [Act.put, List.setIfInBounds_toArray, List.set_cons_zero, List.set_cons_succ]) | (refine' wpT_take_d rfl rfl (fun w' hc hl hsz => ?_) ?_; rotate_left 1; (focus ((try go_simp); (try go_bits); (first | done | with_reducible rfl))); simp only [Act.put, List.setIfInBounds_toArray, List.set_cons_zero, List.set_cons_succ]))
    iterate 5 (refine' wpT_pure rfl rfl (fun w' => ?_) ?_; rotate_left 1; (focus ((try go_simp); (try go_bits); (first | done | with_reducible rfl))); simp only [Act.put, List.setIfInBounds_toArray, List.set_cons_zero, List.set_cons_succ])
    refine wpT_nil ?_
    go_wp2
    go_ret
    rw [HF.out]
    exact StepPost.no HC.out (Ext.trans HX.out (Ext.refl W2).dr)


set_option maxRecDepth 100000 in
set_option maxHeartbeats 800000 in
/-- a proposal that isn't fit -/
theorem prepare_unfit (cb : Nat) (c : Core) (L : Lay) (acc : Bytes → Bool) (C : List Nat) (k : FuncId) (caps : Array Value) (w : World) (hc : CoreAt w cb c L) (hw : Wf c) (ha : AccAt w L.acc acc C k caps) (p : Bytes × Int) (hp : AL.get? c.props c.view = some p) (hdone : (AL.get? (inner c.preps c.view) c.me).isSome = false) (hfit : c.fit acc p = false) :
    Calls Try.prog 67 #[.pointer (some ⟨cb, 0, none⟩)] w (StepPost cb L c (c.prepare acc) w) := by
  have HF := Lib.hid (show c.prepare acc = none by
    unfold Core.prepare
    rw [hp]
    simp [hdone, hfit])
  have HFIT := Lib.hid hfit
  clear hfit
  obtain ⟨A, N, K0, q, hp1, hp2⟩ := props_look hc.props c.view
  obtain ⟨rfl, hpb⟩ := hp2 p hp
  have hpl := (hw.props _ p hp).2.1
  have hsm : (AL.get? c.props c.view).isSome = true := by rw [hp]; rfl
  rw [hsm] at hp1
  have HPB := Lib.hid hpb
  have HPL := Lib.hid hpl
  have HPP := Lib.hid hp
  clear hpb hpl hp hsm
  have hlt := hc.lt
  have hpl := hc.props.lt
  have c7 := hc.c7
  have c4 := hc.c4
  have HC := Lib.hid hc
  have HW := Lib.hid hw
  have HA := Lib.hid ha
  have HP := Lib.hid hp2
  clear hc hw ha hp2
  go_enter Try.func67, Try.ntmps67
  go_wp2
  refine wp_region_T [13] (.pure 0 (.pure 1 (.pure 2 (.pure 4 (.pure 5 (.pure 6 (.take 3 (.take 7 (.take 8 (.pure 9 (.pure 10 (.pure 11 (.one 12 (.one 13 (.pure 14 .nil))))))))))))))) (by kernel_rfl) (by kernel_rfl) ?_
  iterate 6 (refine' wpT_pure rfl rfl (fun w' => ?_) ?_; rotate_left 1; (focus ((try go_simp); (try go_bits); (first | done | with_reducible rfl))); simp only [Act.put, List.setIfInBounds_toArray, List.set_cons_zero, List.set_cons_succ])
  iterate 3 (first | (refine' wpT_take_dddd rfl rfl (fun w' hc hl hsz => ?_) ?_; rotate_left 1; (focus ((try go_simp); (try go_bits); (first | done | with_reducible rfl))); simp only [Act.put, List.setIfInBounds_toArray, List.set_cons_zero, List.set_cons_succ]) | (refine' wpT_take_ddd rfl rfl (fun w' hc hl hsz => ?_) ?_; rotate_left 1; (focus ((try go_simp); (try go_bits); (first | done | with_reducible rfl))); simp only [Act.put, List.setIfInBounds_toArray, List.set_cons_zero, List.set_cons_succ]) | (refine' wpT_take_dd rfl rfl (fun w' hc hl hsz => ?_) ?_; rotate_left 1; (focus ((try go_simp); (try go_bits); (first | done | with_reducible rfl))); simp only [Act.put, List.setIfInBounds_toArray, List.set_cons_zero, List.set_cons_succ]) | (refine' wpT_take_d rfl rfl (fun w' hc hl hsz => ?_) ?_; rotate_left 1; (focus ((try go_simp); (try go_bits); (first | done | with_reducible rfl))); simp only [Act.put, List.setIfInBounds_toArray, List.set_cons_zero, List.set_cons_succ]))
  iterate 3 (refine' wpT_pure rfl rfl (fun w' => ?_) ?_; rotate_left 1; (focus ((try go_simp); (try go_bits); (first | done | with_reducible rfl))); simp only [Act.put, List.setIfInBounds_toArray, List.set_cons_zero, List.set_cons_succ])
  refine wpT_one rfl rfl (fun K hK => ?_)
  go_wp2
  refine hK _ _ (Ext.al (Ext.refl _) _) ?_
  clear hK K
  refine wpT_writer rfl rfl (by decide) (fun K hK => ?_)
  go_wp2
  first | (refine hK _ _ ?_; clear hK K) | skip
  (refine' wpT_pure rfl rfl (fun w' => ?_) ?_; rotate_left 1; (focus ((try go_simp); (try go_bits); (first | done | with_reducible rfl))); simp only [Act.put, List.setIfInBounds_toArray, List.set_cons_zero, List.set_cons_succ])
  refine wpT_nil ?_
  go_wp2
  refine wp_fresh (w.alloc (.cells #[.slice A N K0, (.int .i64 p.2)] 103)) (Ext.refl _).dr (fun W2 hx2 => ?_)
  have hbx := boxed w #[.slice A N K0, (.int .i64 p.2)] 103
  have b0 : W2.cell? ⟨w.heap.size, 0, none⟩ = some (.slice A N K0) := hx2.at (hbx.2.1 0)
  have b1 : W2.cell? ⟨w.heap.size, 1, none⟩ = some ((.int .i64 p.2)) := hx2.at (hbx.2.1 1)
  have hx := Ext.trans hbx.1 hx2
  have hsz := hx2.size
  rw [hbx.2.2] at hsz
  have hvb : w.heap.size < W2.heap.size := by omega
  have hc2 := HC.out.ext hx
  have hlt2 := hc2.lt
  have d8 := hc2.c8
  have d4 := hc2.c4
  have d1 := hc2.c1
  have ho := outer_look hc2.preps c.view
  obtain ⟨x, ti, hti, htl, _⟩ := told_look hc2.preps c.view c.me
  rw [hdone] at htl
  have hol := hc2.preps.lt
  have HX := Lib.hid hx
  clear hx hx2 hbx hc2 hp1 hsz
  refine wp_region_T [] (.pure 0 (.pure 1 (.pure 2 (.pure 4 (.pure 5 (.pure 6 (.pure 9 (.pure 10 (.pure 11 (.take 3 (.take 7 (.take 8 (.take 12 (.take 13 (.pure 14 (.pure 15 (.pure 16 (.pure 17 (.pure 18 .nil))))))))))))))))))) (by kernel_rfl) (by kernel_rfl) ?_
  iterate 9 (refine' wpT_pure rfl rfl (fun w' => ?_) ?_; rotate_left 1; (focus ((try go_simp); (try go_bits); (first | done | with_reducible rfl))); simp only [Act.put, List.setIfInBounds_toArray, List.set_cons_zero, List.set_cons_succ])
  iterate 5 (first | (refine' wpT_take_dddd rfl rfl (fun w' hc hl hsz => ?_) ?_; rotate_left 1; (focus ((try go_simp); (try go_bits); (first | done | with_reducible rfl))); simp only [Act.put, List.setIfInBounds_toArray, List.set_cons_zero, List.set_cons_succ]) | (refine' wpT_take_ddd rfl rfl (fun w' hc hl hsz => ?_) ?_; rotate_left 1; (focus ((try go_simp); (try go_bits); (first | done | with_reducible rfl))); simp only [Act.put, List.setIfInBounds_toArray, List.set_cons_zero, List.set_cons_succ]) | (refine' wpT_take_dd rfl rfl (fun w' hc hl hsz => ?_) ?_; rotate_left 1; (focus ((try go_simp); (try go_bits); (first | done | with_reducible rfl))); simp only [Act.put, List.setIfInBounds_toArray, List.set_cons_zero, List.set_cons_succ]) | (refine' wpT_take_d rfl rfl (fun w' hc hl hsz => ?_) ?_; rotate_left 1; (focus ((try go_simp); (try go_bits); (first | done | with_reducible rfl))); simp only [Act.put, List.setIfInBounds_toArray, List.set_cons_zero, List.set_cons_succ]))
  iterate 5 (refine' wpT_pure rfl rfl (fun w' => ?_) ?_; rotate_left 1; (focus ((try go_simp); (try go_bits); (first | done | with_reducible rfl))); simp only [Act.put, List.setIfInBounds_toArray, List.set_cons_zero, List.set_cons_succ])
  refine wpT_nil ?_
  go_wp2_with (go_at_call 79; refine (fit_calls cb c L acc C k caps A N K0 p _ (HC.out.ext (Ext.trans HX.out (Ext.refl W2).dr)) HW.out (HA.out.ext (Ext.trans HX.out (Ext.refl W2).dr)) (HPB.out.ext (Ext.trans HX.out (Ext.refl W2).dr)) HPL.out).mono ?_; rw [HFIT.out]; rintro e w5 ⟨rfl, hx5⟩)
  go_ret
  rw [HF.out]
  exact StepPost.no HC.out (Ext.trans HX.out (Ext.undrew hx5))

set_option maxRecDepth 100000 in
set_option maxHeartbeats 800000 in
/-- a proposal that is fit -/
theorem prepare_fit (cb : Nat) (c : Core) (L : Lay) (acc : Bytes → Bool) (C : List Nat) (k : FuncId) (caps : Array Value) (w : World) (hc : CoreAt w cb c L) (hw : Wf c) (ha : AccAt w L.acc acc C k caps) (p : Bytes × Int) (hp : AL.get? c.props c.view = some p) (hdone : (AL.get? (inner c.preps c.view) c.me).isSome = false) (hfit : c.fit acc p = true) :
    Calls Try.prog 67 #[.pointer (some ⟨cb, 0, none⟩)] w (StepPost cb L c (c.prepare acc) w) := by
  have hst : (setTold c.preps c.view c.me p.1).1 = true := by simp [setTold, hdone]
  have HF := Lib.hid (show c.prepare acc = some { c with preps := (setTold c.preps c.view c.me p.1).2 } by
    unfold Core.prepare
    rw [hp]
    simp [hdone, hfit])
  have HST := Lib.hid hst
  have HFIT := Lib.hid hfit
  clear hfit hst
  obtain ⟨A, N, K0, q, hp1, hp2⟩ := props_look hc.props c.view
  obtain ⟨rfl, hpb⟩ := hp2 p hp
  have hpl := (hw.props _ p hp).2.1
  have hsm : (AL.get? c.props c.view).isSome = true := by rw [hp]; rfl
  rw [hsm] at hp1
  have HPB := Lib.hid hpb
  have HPL := Lib.hid hpl
  have HPP := Lib.hid hp
  clear hpb hpl hp hsm
  have hlt := hc.lt
  have hpl := hc.props.lt
  have c7 := hc.c7
  have c4 := hc.c4
  have HC := Lib.hid hc
  have HW := Lib.hid hw
  have HA := Lib.hid ha
  have HP := Lib.hid hp2
  clear hc hw ha hp2
  go_enter Try.func67, Try.ntmps67
  go_wp2
  refine wp_region_T [13] (.pure 0 (.pure 1 (.pure 2 (.pure 4 (.pure 5 (.pure 6 (.take 3 (.take 7 (.take 8 (.pure 9 (.pure 10 (.pure 11 (.one 12 (.one 13 (.pure 14 .nil))))))))))))))) (by kernel_rfl) (by kernel_rfl) ?_
  iterate 6 (refine' wpT_pure rfl rfl (fun w' => ?_) ?_; rotate_left 1; (focus ((try go_simp); (try go_bits); (first | done | with_reducible rfl))); simp only [Act.put, List.setIfInBounds_toArray, List.set_cons_zero, List.set_cons_succ])
  iterate 3 (first | (refine' wpT_take_dddd rfl rfl (fun w' hc hl hsz => ?_) ?_; rotate_left 1; (focus ((try go_simp); (try go_bits); (first | done | with_reducible rfl))); simp only [Act.put, List.setIfInBounds_toArray, List.set_cons_zero, List.set_cons_succ]) | (refine' wpT_take_ddd rfl rfl (fun w' hc hl hsz => ?_) ?_; rotate_left 1; (focus ((try go_simp); (try go_bits); (first | done | with_reducible rfl))); simp only [Act.put, List.setIfInBounds_toArray, List.set_cons_zero, List.set_cons_succ]) | (refine' wpT_take_dd rfl rfl (fun w' hc hl hsz => ?_) ?_; rotate_left 1; (focus ((try go_simp); (try go_bits); (first | done | with_reducible rfl))); simp only [Act.put, List.setIfInBounds_toArray, List.set_cons_zero, List.set_cons_succ]) | (refine' wpT_take_d rfl rfl (fun w' hc hl hsz => ?_) ?_; rotate_left 1; (focus ((try go_simp); (try go_bits); (first | done | with_reducible rfl))); simp only [Act.put, List.setIfInBounds_toArray, List.set_cons_zero, List.set_cons_succ]))
  iterate 3 (refine' wpT_pure rfl rfl (fun w' => ?_) ?_; rotate_left 1; (focus ((try go_simp); (try go_bits); (first | done | with_reducible rfl))); simp only [Act.put, List.setIfInBounds_toArray, List.set_cons_zero, List.set_cons_succ])
  refine wpT_one rfl rfl (fun K hK => ?_)
  go_wp2
  refine hK _ _ (Ext.al (Ext.refl _) _) ?_
  clear hK K
  refine wpT_writer rfl rfl (by decide) (fun K hK => ?_)
  go_wp2
  first | (refine hK _ _ ?_; clear hK K) | skip
  (refine' wpT_pure rfl rfl (fun w' => ?_) ?_; rotate_left 1; (focus ((try go_simp); (try go_bits); (first | done | with_reducible rfl))); simp only [Act.put, List.setIfInBounds_toArray, List.set_cons_zero, List.set_cons_succ])
  refine wpT_nil ?_
  go_wp2
  refine wp_fresh (w.alloc (.cells #[.slice A N K0, (.int .i64 p.2)] 103)) (Ext.refl _).dr (fun W2 hx2 => ?_)
  have hbx := boxed w #[.slice A N K0, (.int .i64 p.2)] 103
  have b0 : W2.cell? ⟨w.heap.size, 0, none⟩ = some (.slice A N K0) := hx2.at (hbx.2.1 0)
  have b1 : W2.cell? ⟨w.heap.size, 1, none⟩ = some ((.int .i64 p.2)) := hx2.at (hbx.2.1 1)
  have hx := Ext.trans hbx.1 hx2
  have hsz := hx2.size
  rw [hbx.2.2] at hsz
  have hvb : w.heap.size < W2.heap.size := by omega
  have hc2 := HC.out.ext hx
  have hlt2 := hc2.lt
  have d8 := hc2.c8
  have d4 := hc2.c4
  have d1 := hc2.c1
  have ho := outer_look hc2.preps c.view
  obtain ⟨x, ti, hti, htl, _⟩ := told_look hc2.preps c.view c.me
  rw [hdone] at htl
  have hol := hc2.preps.lt
  have HX := Lib.hid hx
  clear hx hx2 hbx hc2 hp1 hsz
  refine wp_region_T [] (.pure 0 (.pure 1 (.pure 2 (.pure 4 (.pure 5 (.pure 6 (.pure 9 (.pure 10 (.pure 11 (.take 3 (.take 7 (.take 8 (.take 12 (.take 13 (.pure 14 (.pure 15 (.pure 16 (.pure 17 (.pure 18 .nil))))))))))))))))))) (by kernel_rfl) (by kernel_rfl) ?_
  iterate 9 (refine' wpT_pure rfl rfl (fun w' => ?_) ?_; rotate_left 1; (focus ((try go_simp); (try go_bits); (first | done | with_reducible rfl))); simp only [Act.put, List.setIfInBounds_toArray, List.set_cons_zero, List.set_cons_succ])
  iterate 5 (first | (refine' wpT_take_dddd rfl rfl (fun w' hc hl hsz => ?_) ?_; rotate_left 1; (focus ((try go_simp); (try go_bits); (first | done | with_reducible rfl))); simp only [Act.put, List.setIfInBounds_toArray, List.set_cons_zero, List.set_cons_succ]) | (refine' wpT_take_ddd rfl rfl (fun w' hc hl hsz => ?_) ?_; rotate_left 1; (focus ((try go_simp); (try go_bits); (first | done | with_reducible rfl))); simp only [Act.put, List.setIfInBounds_toArray, List.set_cons_zero, List.set_cons_succ]) | (refine' wpT_take_dd rfl rfl (fun w' hc hl hsz => ?_) ?_; rotate_left 1; (focus ((try go_simp); (try go_bits); (first | done | with_reducible rfl))); simp only [Act.put, List.setIfInBounds_toArray, List.set_cons_zero, List.set_cons_succ]) | (refine' wpT_take_d rfl rfl (fun w' hc hl hsz => ?_) ?_; rotate_left 1; (focus ((try go_simp); (try go_bits); (first | done | with_reducible rfl))); simp only [Act.put, List.setIfInBounds_toArray, List.set_cons_zero, List.set_cons_succ]))
  iterate 5 (refine' wpT_pure rfl rfl (fun w' => ?_) ?_; rotate_left 1; (focus ((try go_simp); (try go_bits); (first | done | with_reducible rfl))); simp only [Act.put, List.setIfInBounds_toArray, List.set_cons_zero, List.set_cons_succ])
  refine wpT_nil ?_
  go_wp2_with (go_at_call 79; refine (fit_calls cb c L acc C k caps A N K0 p _ (HC.out.ext (Ext.trans HX.out (Ext.refl W2).dr)) HW.out (HA.out.ext (Ext.trans HX.out (Ext.refl W2).dr)) (HPB.out.ext (Ext.trans HX.out (Ext.refl W2).dr)) HPL.out).mono ?_; rw [HFIT.out]; rintro e w5 ⟨rfl, hx5⟩)
  refine wp_fresh W2 (Ext.undrew hx5) (fun W6 hx6 => ?_)
  have hc6 := HC.out.ext (Ext.trans HX.out hx6)
  have e8 := hc6.c8
  have e4 := hc6.c4
  have e1 := hc6.c1
  have e0 := hx6.at b0
  have hlt6 := hc6.lt
  have hvb6 := Nat.lt_of_lt_of_le hvb hx6.size
  have HC6 : Hid (CoreAt W6.drew cb c L) := Lib.hid (hc6.ext (Ext.refl W6).dr)
  have HX6 := Lib.hid hx6
  have HP6 : Hid (BytesAt W6.drew (.slice A N K0) p.1) := Lib.hid (HPB.out.ext (Ext.trans (Ext.trans HX.out hx6) (Ext.refl W6).dr))
  clear hc6 hx6 hx5
  refine wp_region_T [14] (.pure 0 (.pure 1 (.pure 2 (.pure 4 (.pure 5 (.pure 6 (.pure 8 (.pure 9 (.pure 10 (.pure 12 (.take 3 (.take 7 (.take 11 (.take 13 (.one 14 (.pure 15 .nil)))))))))))))))) (by kernel_rfl) (by kernel_rfl) ?_
  iterate 10 (refine' wpT_pure rfl rfl (fun w' => ?_) ?_; rotate_left 1; (focus ((try go_simp); (try go_bits); (first | done | with_reducible rfl))); simp only [Act.put, List.setIfInBounds_toArray, List.set_cons_zero, List.set_cons_succ])
  iterate 4 (first | (refine' wpT_take_dddd rfl rfl (fun w' hc hl hsz => ?_) ?_; rotate_left 1; (focus ((try go_simp); (try go_bits); (first | done | with_reducible rfl))); simp only [Act.put, List.setIfInBounds_toArray, List.set_cons_zero, List.set_cons_succ]) | (refine' wpT_take_ddd rfl rfl (fun w' hc hl hsz => ?_) ?_; rotate_left 1; (focus ((try go_simp); (try go_bits); (first | done | with_reducible rfl))); simp only [Act.put, List.setIfInBounds_toArray, List.set_cons_zero, List.set_cons_succ]) | (refine' wpT_take_dd rfl rfl (fun w' hc hl hsz => ?_) ?_; rotate_left 1; (focus ((try go_simp); (try go_bits); (first | done | with_reducible rfl))); simp only [Act.put, List.setIfInBounds_toArray, List.set_cons_zero, List.set_cons_succ]) | (refine' wpT_take_d rfl rfl (fun w' hc hl hsz => ?_) ?_; rotate_left 1; (focus ((try go_simp); (try go_bits); (first | done | with_reducible rfl))); simp only [Act.put, List.setIfInBounds_toArray, List.set_cons_zero, List.set_cons_succ]))
  refine wpT_writer rfl rfl (by decide) (fun K hK => ?_)
  go_wp2_with (go_at_call 64; refine (set_calls L.preps c.preps L.ip c.view c.me _ p.1 _ HC6.out.preps HC6.out.nodup_preps HP6.out (by have := HPL.out; omega)).mono ?_; rintro e w7 hp7; obtain ⟨L', rfl, hC, hM⟩ := CoreAt.set_preps HC6.out hp7)
  first | (refine hK _ _ ?_; clear hK K) | skip
  (refine' wpT_pure rfl rfl (fun w' => ?_) ?_; rotate_left 1; (focus ((try go_simp); (try go_bits); (first | done | with_reducible rfl))); simp only [Act.put, List.setIfInBounds_toArray, List.set_cons_zero, List.set_cons_succ])
  refine wpT_nil ?_
  go_wp2
  go_ret
  rw [HF.out]
  exact ⟨L', by rw [HST.out]; rfl, hC, (Moves.of_ext (Ext.trans (Ext.trans HX.out HX6.out) (Ext.refl W6).dr)).trans hM⟩

theorem prepare_calls (cb : Nat) (c : Core) (L : Lay) (acc : Bytes → Bool) (C : List Nat) (k : FuncId) (caps : Array Value) (w : World) (hc : CoreAt w cb c L) (hw : Wf c) (ha : AccAt w L.acc acc C k caps) : Calls Try.prog 67 #[.pointer (some ⟨cb, 0, none⟩)] w (StepPost cb L c (c.prepare acc) w) := by
  cases hdone : (AL.get? (inner c.preps c.view) c.me).isSome with
  | true => exact prepare_not cb c L acc C k caps w hc hw ha (Or.inr hdone)
  | false =>
    cases hp : AL.get? c.props c.view with
    | none => exact prepare_not cb c L acc C k caps w hc hw ha (Or.inl hp)
    | some p =>
      cases hfit : c.fit acc p with
      | false => exact prepare_unfit cb c L acc C k caps w hc hw ha p hp hdone hfit
      | true => exact prepare_fit cb c L acc C k caps w hc hw ha p hp hdone hfit
end Go.Proofs.Ytkpllkjionegeaa

/- Walks: a Commit of one's own (commit). -/
namespace Go.Proofs.Ytkpllkjionegeaa
open Go Go.RowKit

/-- the world gets a name, and what is known of it -/
theorem wp_named {P : Program} {c : Code} {Q : Exit → Act → World → Prop} {a : Act} {w : World} (R : World → Prop) (hR : R w) (h : ∀ W, R W → Code.wp P c Q a W) : Code.wp P c Q a w := h w hR



set_option maxRecDepth 100000 in
set_option maxHeartbeats 800000 in
theorem commit_not (cb : Nat) (c : Core) (L : Lay) (w : World) (hc : CoreAt w cb c L) (hw : Wf c) (hno : c.prepared c.view = none ∨ (AL.get? (inner c.comms c.view) c.me).isSome = true) :
    Calls Try.prog 68 #[.pointer (some ⟨cb, 0, none⟩)] w (StepPost cb L c c.commit w) := by
  have HF := Lib.hid (show c.commit = none by
    unfold Core.commit
    rcases hno with h | h
    · rw [h]
    · cases c.prepared c.view with
      | none => rfl
      | some p => simp [h])
  cases hdone : (AL.get? (inner c.comms c.view) c.me).isSome with
  | true =>
    clear hno
    have hlt := hc.lt
    have c4 := hc.c4
    have HC := Lib.hid hc
    have HW := Lib.hid hw
    clear hc hw
    go_enter Try.func68, Try.ntmps68
    go_wp2_with (go_at_call 80; refine (prepared_calls cb c L _ _ HC.out HW.out).mono ?_; rintro e w2 ⟨v2, rfl, hb2, hx2⟩)
    refine wp_fresh w2 (Ext.refl w2) (fun W2 hxx => ?_)
    have hx2 : Ext w W2 := Ext.trans hx2 hxx
    have hb2 := hb2.ext hxx
    have hc2 := HC.out.ext hx2
    have hlt2 := hc2.lt
    have d9 := hc2.c9
    have d4 := hc2.c4
    have d1 := hc2.c1
    have ho := outer_look hc2.comms c.view
    obtain ⟨x, ti, hti, htl, _⟩ := told_look hc2.comms c.view c.me
    rw [hdone] at htl
    have hol := hc2.comms.lt
    have HX := Lib.hid hx2
    have HB2 := Lib.hid hb2
    clear hx2 hc2 hxx hb2
    refine wp_region_T [] (.pure 0 (.pure 1 (.pure 2 (.pure 4 (.pure 5 (.pure 6 (.pure 9 (.pure 10 (.pure 11 (.take 3 (.take 7 (.take 8 (.take 12 (.take 13 (.pure 14 (.pure 15 (.pure 16 (.pure 17 (.pure 18 .nil))))))))))))))))))) (by kernel_rfl) (by kernel_rfl) ?_
    iterate 9 (refine' wpT_pure rfl rfl (fun w' => ?_) ?_; rotate_left 1; (focus ((try go_simp); (try go_bits); (first | done | with_reducible rfl))); simp only [Act.put, List.setIfInBounds_toArray, List.set_cons_zero, List.set_cons_succ])
    iterate 5 (first | (refine' wpT_take_dddd rfl rfl (fun w' hc hl hsz => ?_) ?_; rotate_left 1; (focus ((try go_simp); (try go_bits); (first | done | with_reducible rfl))); simp only [Act.put, List.setIfInBounds_toArray, List.set_cons_zero, List.set_cons_succ]) | (refine' wpT_take_ddd rfl rfl (fun w' hc hl hsz => ?_) ?_; rotate_left 1; (focus ((try go_simp); (try go_bits); (first | done | with_reducible rfl))); simp only [Act.put, List.setIfInBounds_toArray, List.set_cons_zero, List.set_cons_succ]) | (refine' wpT_take_dd rfl rfl (fun w' hc hl hsz => ?_) ?_; rotate_left 1; (focus ((try go_simp); (try go_bits); (first | done | with_reducible rfl))); simp only [Act.put, List.setIfInBounds_toArray, List.set_cons_zero, List.set_cons_succ]) | (refine' wpT_take_d rfl rfl (fun w' hc hl hsz => ?_) ?_; rotate_left 1; (focus ((try go_simp); (try go_bits); (first | done | with_reducible rfl))); simp only [Act.put, List.setIfInBounds_toArray, List.set_cons_zero, List.set_cons_succ]))
    iterate 5 (refine' wpT_pure rfl rfl (fun w' => ?_) ?_; rotate_left 1; (focus ((try go_simp); (try go_bits); (first | done | with_reducible rfl))); simp only [Act.put, List.setIfInBounds_toArray, List.set_cons_zero, List.set_cons_succ])
    refine wpT_nil ?_
    go_wp2
    go_ret
    rw [HF.out]
    exact StepPost.no HC.out (Ext.trans HX.out (Ext.refl W2).dr)
  | false =>
    have hno := hno.resolve_right (by rw [hdone]; simp)
    obtain ⟨hns⟩ : Nonempty ((c.prepared c.view).isSome = false) := ⟨by rw [hno]; rfl⟩
    clear hno
    have hlt := hc.lt
    have c4 := hc.c4
    have HC := Lib.hid hc
    have HW := Lib.hid hw
    clear hc hw
    go_enter Try.func68, Try.ntmps68
    go_wp2_with (go_at_call 80; refine (prepared_calls cb c L _ _ HC.out HW.out).mono ?_; rintro e w2 ⟨v2, rfl, hb2, hx2⟩)
    refine wp_fresh w2 (Ext.refl w2) (fun W2 hxx => ?_)
    have hx2 : Ext w W2 := Ext.trans hx2 hxx
    have hb2 := hb2.ext hxx
    have hc2 := HC.out.ext hx2
    have hlt2 := hc2.lt
    have d9 := hc2.c9
    have d4 := hc2.c4
    have d1 := hc2.c1
    have ho := outer_look hc2.comms c.view
    obtain ⟨x, ti, hti, htl, _⟩ := told_look hc2.comms c.view c.me
    rw [hdone] at htl
    have hol := hc2.comms.lt
    have HX := Lib.hid hx2
    have HB2 := Lib.hid hb2
    clear hx2 hc2 hxx hb2
    refine wp_region_T [] (.pure 0 (.pure 1 (.pure 2 (.pure 4 (.pure 5 (.pure 6 (.pure 9 (.pure 10 (.pure 11 (.take 3 (.take 7 (.take 8 (.take 12 (.take 13 (.pure 14 (.pure 15 (.pure 16 (.pure 17 (.pure 18 .nil))))))))))))))))))) (by kernel_rfl) (by kernel_rfl) ?_
    iterate 9 (refine' wpT_pure rfl rfl (fun w' => ?_) ?_; rotate_left 1; (focus ((try go_simp); (try go_bits); (first | done | with_reducible rfl))); simp only [Act.put, List.setIfInBounds_toArray, List.set_cons_zero, List.set_cons_succ])
    iterate 5 (first | (refine' wpT_take_dddd rfl rfl (fun w' hc hl hsz => ?_) ?_; rotate_left 1; (focus ((try go_simp); (try go_bits); (first | done | with_reducible rfl))); simp only [Act.put, List.setIfInBounds_toArray, List.set_cons_zero, List.set_cons_succ]) | (refine' wpT_take_ddd rfl rfl (fun w' hc hl hsz => ?_) ?_; rotate_left 1; (focus ((try go_simp); (try go_bits); (first | done | with_reducible rfl))); simp only [Act.put, List.setIfInBounds_toArray, List.set_cons_zero, List.set_cons_succ]) | (refine' wpT_take_dd rfl rfl (fun w' hc hl hsz => ?_) ?_; rotate_left 1; (focus ((try go_simp); (try go_bits); (first | done | with_reducible rfl))); simp only [Act.put, List.setIfInBounds_toArray, List.set_cons_zero, List.set_cons_succ]) | (refine' wpT_take_d rfl rfl (fun w' hc hl hsz => ?_) ?_; rotate_left 1; (focus ((try go_simp); (try go_bits); (first | done | with_reducible rfl))); simp only [Act.put, List.setIfInBounds_toArray, List.set_cons_zero, List.set_cons_succ]))
    iterate 5 (refine' wpT_pure rfl rfl (fun w' => ?_) ?_; rotate_left 1; (focus ((try go_simp); (try go_bits); (first | done | with_reducible rfl))); simp only [Act.put, List.setIfInBounds_toArray, List.set_cons_zero, List.set_cons_succ])
    refine wpT_nil ?_
    go_wp2
    go_ret
    rw [HF.out]
    exact StepPost.no HC.out (Ext.trans HX.out (Ext.refl W2).dr)

set_option maxRecDepth 100000 in
set_option maxHeartbeats 800000 in
theorem commit_yes (cb : Nat) (c : Core) (L : Lay) (w : World) (hc : CoreAt w cb c L) (hw : Wf c) (v : Bytes) (hp : c.prepared c.view = some v) (hdone : (AL.get? (inner c.comms c.view) c.me).isSome = false) :
    Calls Try.prog 68 #[.pointer (some ⟨cb, 0, none⟩)] w (StepPost cb L c c.commit w) := by
  have hst : (setTold c.comms c.view c.me v).1 = true := by simp [setTold, hdone]
  have HF := Lib.hid (show c.commit = some { c with lock := c.view, locked := v, comms := (setTold c.comms c.view c.me v).2 } by
    unfold Core.commit
    rw [hp]
    simp [hdone])
  have HST := Lib.hid hst
  have HP := Lib.hid hp
  have hps : (c.prepared c.view).isSome = true := by rw [hp]; rfl
  have HVL := Lib.hid (hw.prepared_len hp)
  clear hst hp
  have hlt := hc.lt
  have c4 := hc.c4
  have HC := Lib.hid hc
  have HW := Lib.hid hw
  clear hc hw
  go_enter Try.func68, Try.ntmps68
  go_wp2_with (go_at_call 80; refine (prepared_calls cb c L _ _ HC.out HW.out).mono ?_; rintro e w2 ⟨v2, rfl, hb2, hx2⟩)
  refine wp_fresh w2 (Ext.refl w2) (fun W2 hxx => ?_)
  have hx2 : Ext w W2 := Ext.trans hx2 hxx
  have hb2 := hb2.ext hxx
  have hc2 := HC.out.ext hx2
  have hlt2 := hc2.lt
  have d9 := hc2.c9
  have d4 := hc2.c4
  have d1 := hc2.c1
  have ho := outer_look hc2.comms c.view
  obtain ⟨x, ti, hti, htl, _⟩ := told_look hc2.comms c.view c.me
  rw [hdone] at htl
  have hol := hc2.comms.lt
  have HX := Lib.hid hx2
  have HB2 := Lib.hid hb2
  clear hx2 hc2 hxx hb2
  refine wp_region_T [] (.pure 0 (.pure 1 (.pure 2 (.pure 4 (.pure 5 (.pure 6 (.pure 9 (.pure 10 (.pure 11 (.take 3 (.take 7 (.take 8 (.take 12 (.take 13 (.pure 14 (.pure 15 (.pure 16 (.pure 17 (.pure 18 .nil))))))))))))))))))) (by kernel_rfl) (by kernel_rfl) ?_
  iterate 9 (refine' wpT_pure rfl rfl (fun w' => ?_) ?_; rotate_left 1; (focus ((try go_simp); (try go_bits); (first | done | with_reducible rfl))); simp only [Act.put, List.setIfInBounds_toArray, List.set_cons_zero, List.set_cons_succ])
  iterate 5 (first | (refine' wpT_take_dddd rfl rfl (fun w' hc hl hsz => ?_) ?_; rotate_left 1; (focus ((try go_simp); (try go_bits); (first | done | with_reducible rfl))); simp only [Act.put, List.setIfInBounds_toArray, List.set_cons_zero, List.set_cons_succ]) | (refine' wpT_take_ddd rfl rfl (fun w' hc hl hsz => ?_) ?_; rotate_left 1; (focus ((try go_simp); (try go_bits); (first | done | with_reducible rfl))); simp only [Act.put, List.setIfInBounds_toArray, List.set_cons_zero, List.set_cons_succ]) | (refine' wpT_take_dd rfl rfl (fun w' hc hl hsz => ?_) ?_; rotate_left 1; (focus ((try go_simp); (try go_bits); (first | done | with_reducible rfl))); simp only [Act.put, List.setIfInBounds_toArray, List.set_cons_zero, List.set_cons_succ]) | (refine' wpT_take_d rfl rfl (fun w' hc hl hsz => ?_) ?_; rotate_left 1; (focus ((try go_simp); (try go_bits); (first | done | with_reducible rfl))); simp only [Act.put, List.setIfInBounds_toArray, List.set_cons_zero, List.set_cons_succ]))
  iterate 5 (refine' wpT_pure rfl rfl (fun w' => ?_) ?_; rotate_left 1; (focus ((try go_simp); (try go_bits); (first | done | with_reducible rfl))); simp only [Act.put, List.setIfInBounds_toArray, List.set_cons_zero, List.set_cons_succ])
  refine wpT_nil ?_
  have hb3 := HB2.out
  rw [HP.out] at hb3
  obtain ⟨A, K0, rfl, _⟩ := id hb3
  have hc3 := HC.out.ext HX.out
  have e13 := hc3.c13
  have e14 := hc3.c14
  have f13 := hc3.free 13
  have f14 := hc3.free 14
  have HC3 := Lib.hid hc3
  have HB3 := Lib.hid hb3
  clear hc3 hb3
  go_wp2
  have k1 := cells_store HC3.out.blk (.int .i64 c.view) (i := 13) (u := .int .i64 c.lock) rfl (by intro x h; cases h)
  have k2 := cells_store k1.1 (.slice A v.length K0) (i := 14) (u := L.locked) rfl HC3.out.locked.not_u8
  have ht := k1.2.trans k2.2 (fun _ _ h => h)
  obtain ⟨hC4, hM4⟩ := CoreAt.set_cells HC3.out (c' := { c with lock := c.view, locked := v }) (L' := { L with locked := .slice A v.length K0 }) k2.1 ht rfl rfl (HC3.out.wish.turn ht) (HB3.out.turn ht) (HC3.out.value.turn ht) ⟨rfl, rfl, rfl, rfl, rfl, rfl⟩ ⟨rfl, rfl, rfl, rfl, rfl, rfl, rfl, rfl, rfl⟩
  have hB4 := HB3.out.turn ht
  have HM4 := Lib.hid hM4
  have HC4 := Lib.hid hC4
  have HB4 := Lib.hid hB4
  clear hC4 hM4 hB4 ht k1 k2 d9 d4 d1 ho htl hti hol e13 e14 f13 f14
  refine wp_named (fun W => CoreAt W cb { c with lock := c.view, locked := v } { L with locked := .slice A v.length K0 } ∧ Moves cb L { L with locked := .slice A v.length K0 } W2 W ∧ BytesAt W (.slice A v.length K0) v)
    ⟨HC4.out.ext (Ext.refl _).dr, HM4.out.trans (Moves.of_ext (Ext.refl _).dr), HB4.out.ext (Ext.refl _).dr⟩ (fun W5 ⟨hC5, hM5, hB5⟩ => ?_)
  have g9 := hC5.c9
  have g4 := hC5.c4
  have g1 := hC5.c1
  have hlt5 := hC5.lt
  have HC5 : Hid (CoreAt W5.drew cb { c with lock := c.view, locked := v } { L with locked := .slice A v.length K0 }) := Lib.hid (hC5.ext (Ext.refl _).dr)
  have HM5 := Lib.hid (hM5.trans (Moves.of_ext (Ext.refl W5).dr))
  have HB5 : Hid (BytesAt W5.drew (.slice A v.length K0) v) := Lib.hid (hB5.ext (Ext.refl _).dr)
  clear hC5 hM5 hB5
  simp only at g9 g4 g1
  refine wp_region_T [13] (.pure 0 (.pure 1 (.pure 2 (.pure 4 (.pure 5 (.pure 6 (.pure 8 (.pure 9 (.pure 10 (.pure 12 (.take 3 (.take 7 (.take 11 (.one 13 (.pure 14 .nil))))))))))))))) (by kernel_rfl) (by kernel_rfl) ?_
  iterate 10 (refine' wpT_pure rfl rfl (fun w' => ?_) ?_; rotate_left 1; (focus ((try go_simp); (try go_bits); (first | done | with_reducible rfl))); simp only [Act.put, List.setIfInBounds_toArray, List.set_cons_zero, List.set_cons_succ])
  iterate 3 (first | (refine' wpT_take_dddd rfl rfl (fun w' hc hl hsz => ?_) ?_; rotate_left 1; (focus ((try go_simp); (try go_bits); (first | done | with_reducible rfl))); simp only [Act.put, List.setIfInBounds_toArray, List.set_cons_zero, List.set_cons_succ]) | (refine' wpT_take_ddd rfl rfl (fun w' hc hl hsz => ?_) ?_; rotate_left 1; (focus ((try go_simp); (try go_bits); (first | done | with_reducible rfl))); simp only [Act.put, List.setIfInBounds_toArray, List.set_cons_zero, List.set_cons_succ]) | (refine' wpT_take_dd rfl rfl (fun w' hc hl hsz => ?_) ?_; rotate_left 1; (focus ((try go_simp); (try go_bits); (first | done | with_reducible rfl))); simp only [Act.put, List.setIfInBounds_toArray, List.set_cons_zero, List.set_cons_succ]) | (refine' wpT_take_d rfl rfl (fun w' hc hl hsz => ?_) ?_; rotate_left 1; (focus ((try go_simp); (try go_bits); (first | done | with_reducible rfl))); simp only [Act.put, List.setIfInBounds_toArray, List.set_cons_zero, List.set_cons_succ]))
  refine wpT_writer rfl rfl (by decide) (fun K hK => ?_)
  go_wp2_with (go_at_call 64; refine (set_calls L.comms c.comms L.ic c.view c.me _ v _ HC5.out.comms HC5.out.nodup_comms HB5.out (by have := HVL.out; omega)).mono ?_; rintro e w7 hp7; obtain ⟨L', rfl, hC, hM⟩ := CoreAt.set_comms HC5.out hp7)
  first | (refine hK _ _ ?_; clear hK K) | skip
  (refine' wpT_pure rfl rfl (fun w' => ?_) ?_; rotate_left 1; (focus ((try go_simp); (try go_bits); (first | done | with_reducible rfl))); simp only [Act.put, List.setIfInBounds_toArray, List.set_cons_zero, List.set_cons_succ])
  refine wpT_nil ?_
  go_wp2
  go_ret
  rw [HF.out]
  exact ⟨L', by rw [HST.out]; rfl, hC, ((Moves.of_ext HX.out).trans HM5.out).trans hM⟩

theorem commit_calls (cb : Nat) (c : Core) (L : Lay) (w : World) (hc : CoreAt w cb c L) (hw : Wf c) : Calls Try.prog 68 #[.pointer (some ⟨cb, 0, none⟩)] w (StepPost cb L c c.commit w) := by
  cases hdone : (AL.get? (inner c.comms c.view) c.me).isSome with
  | true => exact commit_not cb c L w hc hw (Or.inr hdone)
  | false =>
    cases hp : c.prepared c.view with
    | none => exact commit_not cb c L w hc hw (Or.inl hp)
    | some v => exact commit_yes cb c L w hc hw v hp hdone
end Go.Proofs.Ytkpllkjionegeaa

/- Walks: the value that is agreed in a view (agreed). -/
namespace Go.Proofs.Ytkpllkjionegeaa
open Go Go.RowKit

theorem told_look2 {w : World} {r : Nat} {m : AL Told} {im : AL Nat} (h : TMapAt w r m im) (view who : Int) :
    ∃ x i, i < w.heap.size ∧ (∀ w', w'.heap[i]? = w.heap[i]? → (Instr.lookup 69 (.map (AL.get? im view)) (.int .i64 who) true).run Try.prog w' = .ok (.tuple #[x, .bool (AL.get? (inner m view) who).isSome]) w') ∧
      (∀ w', w'.heap[i]? = w.heap[i]? → (Instr.lookup 69 (.map (AL.get? im view)) (.int .i64 who) false).run Try.prog w' = .ok x w') ∧
      BytesAt w x ((AL.get? (inner m view) who).getD []) := by
  rcases inner_of h view with ⟨h1, _, h2⟩ | ⟨id, h1, _, h2⟩
  · refine ⟨.slice none 0 0, r, h.lt, fun w' _ => ?_, fun w' _ => ?_, ?_⟩
    · rw [h1, h2]; exact nil_look who true w'
    · rw [h1]; exact nil_look who false w'
    · rw [h2]; exact BytesAt.nil w
  · obtain ⟨x, hx, hx2, hb⟩ := inner_look h2 who
    exact ⟨x, id, h2.lt, fun w' hw => by rw [h1]; exact hx w' hw, fun w' hw => by rw [h1]; exact hx2 w' hw, hb⟩

/-- the keys of a map of what was told that may be nil, sorted -/
theorem sortedB_any (Bm : Nat) (mv : Option Nat) (t : Told) (w : World) (h : (mv = none ∧ t = []) ∨ ∃ id, mv = some id ∧ InnerAt w id t) (hk : ∀ k ∈ AL.keys t, 0 ≤ k ∧ k ≤ 1048576) (hl : t.length ≤ 1048577) (hc : w.cell? ⟨Bm, 0, none⟩ = some (.map mv)) :
    Calls Try.prog 45 #[.func (.func 103) #[] #[.pointer (some ⟨Bm, 0, none⟩)]] w (GivesInts (AL.keys t) w) := by
  rcases h with ⟨rfl, rfl⟩ | ⟨id, rfl, m, hm, hri, hrel⟩
  · exact sortedB_nil Bm w hc
  · have hkeys : AL.keys m = AL.keys t := hrel.keys hm.rising hri
    have hlen : m.length = t.length := by have := congrArg List.length hkeys; simpa [AL.keys] using this
    have hki : KeysIn m := ⟨fun k hk' => by have := hk k (hkeys ▸ hk'); omega, by omega⟩
    have := sortedB_calls Bm id m w hm hki hc
    rw [hkeys] at this
    exact this

/-- how many of the first peers stand behind a value -/
def behindTo (t d : Told) (value : Bytes) (k : Nat) : Nat := (List.range k).countP fun (i : Nat) => AL.get? t ((i : Int) + 1) == some value || AL.get? d ((i : Int) + 1) == some value

theorem behindTo_succ (t d : Told) (value : Bytes) (k : Nat) :
    behindTo t d value (k + 1) = behindTo t d value k + (if AL.get? t ((k : Int) + 1) == some value || AL.get? d ((k : Int) + 1) == some value then 1 else 0) := by
  unfold behindTo
  rw [List.range_succ, List.countP_append, List.countP_singleton]

theorem behindTo_le (t d : Told) (value : Bytes) (k : Nat) : behindTo t d value k ≤ k := by
  unfold behindTo
  exact Nat.le_trans List.countP_le_length (by simp)

theorem behind_eq (c : Core) (t : Told) (value : Bytes) : c.behind t value = (behindTo t c.decs value c.n.toNat : Int) := by
  unfold Core.behind behindTo
  rw [List.countP_eq_length_filter]

theorem agreed_find {c : Core} {view : Int} {t : Told} (ht : t = inner c.comms view) (hr : AL.Rising t) {k : Nat} (hk : k < (AL.keys t).length)
    (hno : ∀ j (h : j < k), c.behind t ((AL.get? t ((AL.keys t).getD j 0)).getD []) < quorum c.n)
    (hyes : quorum c.n ≤ c.behind t ((AL.get? t ((AL.keys t).getD k 0)).getD [])) :
    c.agreed view = some ((AL.get? t ((AL.keys t).getD k 0)).getD []) := by
  unfold Core.agreed
  rw [← ht]
  have hkt : k < t.length := by simpa [AL.keys] using hk
  have hget : ∀ j (h : j < t.length), AL.get? t t[j].1 = some t[j].2 := fun j h => AL.get?_of_mem hr (List.getElem_mem h)
  have hkey : ∀ j (h : j < t.length), (AL.keys t).getD j 0 = t[j].1 := fun j h => by simp [AL.keys, List.getD, h]
  rw [hkey k hkt, hget k hkt] at hyes ⊢
  have : t.find? (fun p => decide (quorum c.n ≤ c.behind t p.2)) = some t[k] := by
    rw [List.find?_eq_some_iff_getElem]
    refine ⟨by simpa using hyes, k, hkt, rfl, fun j hj => ?_⟩
    have := hno j hj
    rw [hkey j (by omega), hget j (by omega)] at this
    simp at this ⊢; omega
  rw [this]
  rfl

theorem agreed_none {c : Core} {view : Int} {t : Told} (ht : t = inner c.comms view) (hr : AL.Rising t)
    (hno : ∀ j (h : j < (AL.keys t).length), c.behind t ((AL.get? t ((AL.keys t).getD j 0)).getD []) < quorum c.n) : c.agreed view = none := by
  unfold Core.agreed
  rw [← ht, Option.map_eq_none_iff, List.find?_eq_none]
  intro p hp
  obtain ⟨j, hj, rfl⟩ := List.getElem_of_mem hp
  have hget : AL.get? t t[j].1 = some t[j].2 := AL.get?_of_mem hr (List.getElem_mem hj)
  have hkey : (AL.keys t).getD j 0 = t[j].1 := by simp [AL.keys, List.getD, hj]
  have := hno j (by simpa [AL.keys] using hj)
  rw [hkey, hget] at this
  simp at this ⊢; omega


set_option maxRecDepth 100000 in
set_option maxHeartbeats 2000000 in
theorem agreed_calls (cb : Nat) (c : Core) (L : Lay) (view : Int) (w : World) (hc : CoreAt w cb c L) (hw : Wf c) :
    Calls Try.prog 81 #[.pointer (some ⟨cb, 0, none⟩), .int .i64 view] w (GivesMaybe (c.agreed view) w) := by
  obtain ⟨t, ht⟩ : ∃ t, t = inner c.comms view := ⟨_, rfl⟩
  have hiw := hw.comms.inner view
  rw [← ht] at hiw
  obtain ⟨Z, hZ⟩ : ∃ Z, Z = AL.keys t := ⟨_, rfl⟩
  have hzl : Z.length ≤ 64 := by rw [hZ]; simpa [AL.keys] using hiw.keys.2
  have harg := inner_arg hc.comms view
  rw [← ht] at harg
  have hlt := hc.lt
  have c9 := hc.c9
  have ho := outer_look hc.comms view
  have hol := hc.comms.lt
  have HC := Lib.hid hc
  have HW := Lib.hid hw
  have HT := Lib.hid ht
  have HI := Lib.hid hiw
  have HZ := Lib.hid hZ
  have HZL := Lib.hid hzl
  have HARG := Lib.hid harg
  clear hc hw ht hiw hZ hzl harg
  go_enter Try.func81, Try.ntmps81
  go_wp2_with (first
    | (go_at_call 90; refine (keysB_calls _ _).mono ?_; rintro e w1 ⟨rfl, rfl⟩)
    | (go_at_call 45; refine (sortedB_any w.heap.size (AL.get? L.ic view) t _ (by
          rcases HARG.out with h | ⟨id, h1, h2⟩
          · exact Or.inl h
          · exact Or.inr ⟨id, h1, h2.turn (Turn.of_ext (S := fun _ => False) ((Ext.refl w).alloc (Nat.le_refl _) _)) (fun h => h)⟩) (fun k hk => by have := HI.out.keys.1 k hk; omega) (by have := HI.out.keys.2; omega) (boxed w _ 69 |>.2.1 0)).mono ?_; rw [← HZ.out]; rintro e w2 ⟨v2, rfl, hi2, hx2⟩; obtain ⟨A2, C2, rfl, _⟩ := id hi2))
  have HX2 : Hid (Ext w w2) := Lib.hid (Ext.trans (Ext.al (Ext.refl w) _) hx2)
  have HI2 := Lib.hid hi2
  have hc2 := HC.out.ext HX2.out
  have HC2 := Lib.hid hc2
  have d0 := hc2.c0
  have d9 := hc2.c9
  have d12 := hc2.c12
  have hlt2 := hc2.lt
  have ho2 := outer_look hc2.comms view
  clear hi2 hx2 hc2 ho hol c9
  go_loopw [24] (fun v wr => ∃ k : Nat, k ≤ Z.length ∧ v = .int .i64 k ∧ wr = w2 ∧ ∀ j (h : j < k), c.behind t ((AL.get? t (Z.getD j 0)).getD []) < quorum c.n) (fun v _ => Z.length - (intOf v).toNat)
  case atStart => exact ⟨0, Nat.zero_le _, rfl, rfl, fun j h => by omega⟩
  case round =>
    obtain ⟨k, hk, rfl, rfl, hno⟩ := hrel
    have HNO := Lib.hid hno
    clear hno
    by_cases hlt : k < Z.length
    · obtain ⟨cbk, co, hA, hcell⟩ := HI2.out.at hlt
      have hmem : Z.getD k 0 ∈ AL.keys t := by
        rw [← HZ.out, List.getD, List.getElem?_eq_getElem hlt]; exact List.getElem_mem hlt
      obtain ⟨v0, hv0⟩ := Option.isSome_iff_exists.1 ((AL.mem_keys_get? HI.out.1).1 hmem)
      obtain ⟨zk, hzk⟩ : ∃ z, z = Z.getD k 0 := ⟨_, rfl⟩
      rw [← hzk] at hcell hv0
      have HZK := Lib.hid hzk
      have HV0 := Lib.hid hv0
      obtain ⟨xk, ik, hik, _, hlk, hxk⟩ := told_look2 HC2.out.comms view zk
      rw [← HT.out, HV0.out] at hxk
      have hcx := BytesAt.string hxk
      have HXK := Lib.hid hxk
      have HLL := Lib.hid hlt
      clear hzk hv0 hmem hxk hlt
      subst hA
      have hn4 := HW.out.n4
      have hn64 := HW.out.n64
      have hkz := HLL.out
      have hkz2 := HZL.out
      go_wp2
      go_loopw [10, 9] (fun v vn wi => ∃ p n : Nat, p ≤ c.n.toNat ∧ v = .int .i64 ((p : Int) + 1) ∧ vn = .int .i64 n ∧ wi = wr ∧ n = behindTo t c.decs v0 p) (fun v _ _ => c.n.toNat + 1 - (intOf v).toNat)
      case atStart => exact ⟨0, 0, Nat.zero_le _, rfl, rfl, rfl, rfl⟩
      case round =>
        obtain ⟨p, n, hp, rfl, rfl, rfl, hn⟩ := hrel
        have hnp := behindTo_le t c.decs v0 p
        rw [← hn] at hnp
        have HN := Lib.hid hn
        clear hn
        by_cases hpn : p < c.n.toNat
        · obtain ⟨xu, iu, hiu, hlu, _, hxu⟩ := told_look2 HC2.out.comms view ((p : Int) + 1)
          obtain ⟨xd, hld, _, hxd⟩ := inner_look HC2.out.decs ((p : Int) + 1)
          rw [← HT.out] at hxu hlu
          have hdl := HC2.out.decs.lt
          have hcu := BytesAt.string hxu
          have hcd := BytesAt.string hxd
          have HS := behindTo_succ t c.decs v0 p
          have HS0 := Lib.hid HS
          clear HS hxu hxd
          simp only [Option.getD_some] at hcx
          cases hU : AL.get? t ((p : Int) + 1) with
          | none =>
            rw [hU] at hlu
            cases hD : AL.get? c.decs ((p : Int) + 1) with
            | none =>
              rw [hD] at hld
              go_wp2
              go_roundw
              case rel =>
                refine ⟨p + 1, n, by omega, by go_num, rfl, trivial, ?_⟩
                rw [HS0.out, ← HN.out]; simp [*]
              case measure => simp [intOf]; omega
            | some d =>
              rw [hD] at hld hcd
              simp only [Option.getD_some] at hcd
              have hsd := string_beq d v0
              cases hd : (d == v0) with
              | false =>
                rw [hd] at hsd
                go_wp2
                go_roundw
                case rel =>
                  refine ⟨p + 1, n, by omega, by go_num, rfl, trivial, ?_⟩
                  rw [HS0.out, ← HN.out]; simp [*]
                case measure => simp [intOf]; omega
              | true =>
                rw [hd] at hsd
                go_wp2
                go_roundw
                case rel =>
                  refine ⟨p + 1, n + 1, by omega, by go_num, by go_num, trivial, ?_⟩
                  rw [HS0.out, ← HN.out]; simp [*]
                case measure => simp [intOf]; omega
          | some u =>
            rw [hU] at hlu hcu
            simp only [Option.getD_some] at hcu
            have hsu := string_beq u v0
            cases hu : (u == v0) with
            | true =>
              rw [hu] at hsu
              go_wp2
              go_roundw
              case rel =>
                refine ⟨p + 1, n + 1, by omega, by go_num, by go_num, trivial, ?_⟩
                rw [HS0.out, ← HN.out]; simp [*]
              case measure => simp [intOf]; omega
            | false =>
              rw [hu] at hsu
              cases hD : AL.get? c.decs ((p : Int) + 1) with
              | none =>
                rw [hD] at hld
                go_wp2
                go_roundw
                case rel =>
                  refine ⟨p + 1, n, by omega, by go_num, rfl, trivial, ?_⟩
                  rw [HS0.out, ← HN.out]; simp [*]
                case measure => simp [intOf]; omega
              | some d =>
                rw [hD] at hld hcd
                simp only [Option.getD_some] at hcd
                have hsd := string_beq d v0
                cases hd : (d == v0) with
                | false =>
                  rw [hd] at hsd
                  go_wp2
                  go_roundw
                  case rel =>
                    refine ⟨p + 1, n, by omega, by go_num, rfl, trivial, ?_⟩
                    rw [HS0.out, ← HN.out]; simp [*]
                  case measure => simp [intOf]; omega
                | true =>
                  rw [hd] at hsd
                  go_wp2
                  go_roundw
                  case rel =>
                    refine ⟨p + 1, n + 1, by omega, by go_num, by go_num, trivial, ?_⟩
                    rw [HS0.out, ← HN.out]; simp [*]
                  case measure => simp [intOf]; omega
        · have hpe : p = c.n.toNat := by omega
          subst hpe
          have hbe : (n : Int) = c.behind t v0 := by rw [behind_eq]; have := HN.out; omega
          have hfind : ∀ (h : quorum c.n ≤ n), c.agreed view = some v0 := fun h => by
            have h1 := agreed_find (k := k) HT.out HI.out.1 (by rw [← HZ.out]; exact HLL.out) (fun j hj => by rw [← HZ.out]; exact HNO.out j hj) (by rw [← HZ.out, ← HZK.out, HV0.out, Option.getD_some, ← hbe]; exact h)
            rw [h1, ← HZ.out, ← HZK.out, HV0.out]; rfl
          have HBE := Lib.hid hbe
          have HFIND := Lib.hid hfind
          clear hbe hfind
          by_cases hq : quorum c.n ≤ n
          · go_wp2_with (go_at_call 89; refine (quorum_calls c.n (by omega) hn64 _).mono ?_; rintro e w1 ⟨rfl, rfl⟩)
            go_ret2
            refine ⟨xk, ?_, ?_, HX2.out⟩
            · rw [HFIND.out hq]; rfl
            · rw [HFIND.out hq]; exact HXK.out
          · go_wp2_with (go_at_call 89; refine (quorum_calls c.n (by omega) hn64 _).mono ?_; rintro e w1 ⟨rfl, rfl⟩)
            go_roundw
            case rel =>
              refine ⟨k + 1, by omega, by go_num, trivial, fun j hj => ?_⟩
              by_cases hjk : j = k
              · subst hjk
                rw [← HZK.out, HV0.out, Option.getD_some, ← HBE.out]
                omega
              · exact HNO.out j (by omega)
            case measure => simp [intOf]; omega
    · go_wp2
      go_ret2
      refine ⟨.slice none 0 0, ?_, ?_, HX2.out⟩ <;> rw [agreed_none HT.out HI.out.1 (fun j hj => by rw [← HZ.out]; exact HNO.out j (by rw [← HZ.out] at hj; omega))]
      · rfl
      · exact BytesAt.nil _
end Go.Proofs.Ytkpllkjionegeaa

/- Walks: the last two things that a core does (decide). -/
namespace Go.Proofs.Ytkpllkjionegeaa
open Go Go.RowKit

/-- the keys of a map of maps, sorted -/
theorem sortedA_tmap (Bm r : Nat) (m : AL Told) (im : AL Nat) (w : World) (h : TMapAt w r m im) (hw : TWf m) (hc : w.cell? ⟨Bm, 0, none⟩ = some (.map (some r))) :
    Calls Try.prog 45 #[.func (.func 72) #[] #[.pointer (some ⟨Bm, 0, none⟩)]] w (GivesInts (AL.keys m) w) := by
  have hkeys : AL.keys (AL.mapVal (fun i => Value.map (some i)) im) = AL.keys m := (AL.keys_mapVal _ im).trans (h.2.2.2.keys h.2.1 h.2.2.1)
  have hlen : (AL.mapVal (fun i => Value.map (some i)) im).length = m.length := by have := congrArg List.length hkeys; simpa [AL.keys] using this
  have hki : KeysIn (AL.mapVal (fun i => Value.map (some i)) im) := ⟨fun k hk' => by have := hw.keys.1 k (hkeys ▸ hk'); omega, by have := hw.keys.2; omega⟩
  have := sortedA_calls Bm r _ w h.1 hki hc
  rw [hkeys] at this
  exact this

theorem decideIn_step (c : Core) {Z : List Int} {k : Nat} (hk : k < Z.length) : c.decideIn (Z.drop k) = match c.agreed (Z.getD k 0) with | some v => some v | none => c.decideIn (Z.drop (k + 1)) := by
  rw [List.drop_eq_getElem_cons hk]
  simp only [Core.decideIn]
  simp [List.getD, hk]
  rfl

theorem CoreAt.set_decided {w : World} {cb : Nat} {c : Core} {L : Lay} (h : CoreAt w cb c L) (b : Bool) {A : Option Addr} {N K : Nat} {v : Bytes} (hb : BytesAt w (.slice A N K) v) :
    CoreAt ((w.setCell ⟨cb, 15, none⟩ (.bool b)).setCell ⟨cb, 16, none⟩ (.slice A N K)) cb { c with decided := b, value := v } { L with value := .slice A N K } ∧
      Moves cb L { L with value := .slice A N K } w ((w.setCell ⟨cb, 15, none⟩ (.bool b)).setCell ⟨cb, 16, none⟩ (.slice A N K)) := by
  have k1 := cells_store h.blk (.bool b) (i := 15) (u := .bool c.decided) rfl (by intro x h; cases h)
  have k2 := cells_store k1.1 (.slice A N K) (i := 16) (u := L.value) rfl h.value.not_u8
  have ht := k1.2.trans k2.2 (fun _ _ h => h)
  exact CoreAt.set_cells h (c' := { c with decided := b, value := v }) (L' := { L with value := .slice A N K }) k2.1 ht rfl rfl (h.wish.turn ht) (h.locked.turn ht) (hb.turn ht) ⟨rfl, rfl, rfl, rfl, rfl, rfl⟩ ⟨rfl, rfl, rfl, rfl, rfl, rfl, rfl, rfl, rfl⟩

theorem CoreAt.set_decided' {w : World} {cb : Nat} {c : Core} {L : Lay} (h : CoreAt w cb c L) (b : Bool) {A : Option Addr} {N K : Nat} {v : Bytes} (hb : BytesAt w (.slice A N K) v) :
    CoreAt ((w.setCell ⟨cb, 16, none⟩ (.slice A N K)).setCell ⟨cb, 15, none⟩ (.bool b)) cb { c with decided := b, value := v } { L with value := .slice A N K } ∧
      Moves cb L { L with value := .slice A N K } w ((w.setCell ⟨cb, 16, none⟩ (.slice A N K)).setCell ⟨cb, 15, none⟩ (.bool b)) := by
  have k1 := cells_store h.blk (.slice A N K) (i := 16) (u := L.value) rfl h.value.not_u8
  have k2 := cells_store k1.1 (.bool b) (i := 15) (u := .bool c.decided) rfl (by intro x h; cases h)
  have ht := k1.2.trans k2.2 (fun _ _ h => h)
  exact CoreAt.set_cells h (c' := { c with decided := b, value := v }) (L' := { L with value := .slice A N K }) k2.1 ht rfl rfl (h.wish.turn ht) (h.locked.turn ht) (hb.turn ht) ⟨rfl, rfl, rfl, rfl, rfl, rfl⟩ ⟨rfl, rfl, rfl, rfl, rfl, rfl, rfl, rfl, rfl⟩

set_option maxRecDepth 100000 in
set_option maxHeartbeats 2000000 in
theorem decide_calls (cb : Nat) (c : Core) (L : Lay) (w : World) (hc : CoreAt w cb c L) (hw : Wf c) (hdec : c.decided = false) :
    Calls Try.prog 69 #[.pointer (some ⟨cb, 0, none⟩)] w (StepPost cb L c c.decide w) := by
  obtain ⟨Z, hZ⟩ : ∃ Z, Z = AL.keys c.comms := ⟨_, rfl⟩
  have hzl : Z.length ≤ 1048577 := by rw [hZ]; simpa [AL.keys] using hw.comms.keys.2
  have hlt := hc.lt
  have c9 := hc.c9
  have HC := Lib.hid hc
  have HW := Lib.hid hw
  have HZ := Lib.hid hZ
  have HZL := Lib.hid hzl
  have HDEC := Lib.hid hdec
  clear hc hw hZ hzl hdec
  go_enter Try.func69, Try.ntmps69
  go_wp2_with (first
    | (go_at_call 46; refine (keysA_calls _ _).mono ?_; rintro e w1 ⟨rfl, rfl⟩)
    | (go_at_call 45; refine (sortedA_tmap w.heap.size L.comms c.comms L.ic _ (HC.out.ext ((Ext.refl w).alloc (Nat.le_refl _) _)).comms HW.out.comms (boxed w _ 66 |>.2.1 0)).mono ?_; rw [← HZ.out]; rintro e w2 ⟨v2, rfl, hi2, hx2⟩; obtain ⟨A2, C2, rfl, _⟩ := id hi2))
  have HX2 : Hid (Ext w w2) := Lib.hid (Ext.trans (Ext.al (Ext.refl w) _) hx2)
  have HI2 := Lib.hid hi2
  clear hi2 hx2 c9
  have hlt2 := Nat.lt_of_lt_of_le hlt HX2.out.size
  go_loopw [14] (fun v wr => ∃ k : Nat, k ≤ Z.length ∧ v = .int .i64 k ∧ Ext w2 wr ∧ c.decideIn Z = c.decideIn (Z.drop k)) (fun v _ => Z.length - (intOf v).toNat)
  case atStart => exact ⟨0, Nat.zero_le _, rfl, Ext.refl _, rfl⟩
  case round =>
    obtain ⟨k, hk, rfl, hxr, hno⟩ := hrel
    have HNO := Lib.hid hno
    have HXR := Lib.hid (Ext.trans HX2.out hxr)
    have hltr := Nat.lt_of_lt_of_le hlt2 hxr.size
    by_cases hlt : k < Z.length
    · obtain ⟨cbk, co, hA, hcell⟩ := HI2.out.at hlt
      have hcell := hxr.at hcell
      have HX3 := Lib.hid hxr
      clear hxr hno
      subst hA
      obtain ⟨zk, hzk⟩ : ∃ z, z = Z.getD k 0 := ⟨_, rfl⟩
      rw [← hzk] at hcell
      have HZK := Lib.hid hzk
      clear hzk
      have HS := Lib.hid (decideIn_step c hlt)
      have hkz := HZL.out
      cases hag : c.agreed zk with
      | none =>
        have HAG := Lib.hid hag
        clear hag
        go_wp2_with (go_at_call 81; refine (agreed_calls cb c L zk _ (HC.out.ext HXR.out) HW.out).mono ?_; rw [HAG.out]; rintro e w4 ⟨v4, rfl, _, hx4⟩)
        go_roundw
        case rel =>
          refine ⟨k + 1, by omega, by go_num, Ext.trans HX3.out hx4, ?_⟩
          rw [HNO.out, HS.out, ← HZK.out, HAG.out]
        case measure => simp [intOf]; omega
      | some v =>
        have HAG := Lib.hid hag
        clear hag
        go_wp2_with (go_at_call 81; refine (agreed_calls cb c L zk _ (HC.out.ext HXR.out) HW.out).mono ?_; rw [HAG.out]; rintro e w4 ⟨v4, rfl, hb4, hx4⟩; obtain ⟨A4, K4, rfl, _⟩ := id hb4; have h5 := HC.out.ext (Ext.trans HXR.out hx4); have f15 := h5.free 15; have f16 := h5.free 16; have e15 := h5.c15; have e16 := h5.c16; have hlt5 := h5.lt; have HC5 := Lib.hid h5; clear h5)
        go_ret
        have hfin : c.decide = some { c with decided := true, value := v } := by
          unfold Core.decide Core.decision
          rw [← HZ.out, HNO.out, HS.out, ← HZK.out, HAG.out]; rfl
        have hs := HC5.out.set_decided true (v := v) hb4
        rw [hfin]
        exact ⟨{ L with value := .slice A4 v.length K4 }, rfl, hs.1, (Moves.of_ext (Ext.trans HXR.out hx4)).trans hs.2⟩
    · have hke : k = Z.length := by omega
      have hnone : c.decideIn (AL.keys c.comms) = none := by
        rw [← HZ.out, HNO.out, hke, List.drop_length]; rfl
      have HNONE := Lib.hid hnone
      have hc3 := HC.out.ext HXR.out
      have f15 := hc3.free 15
      have f16 := hc3.free 16
      have e15 := hc3.c15
      have e16 := hc3.c16
      have e12 := hc3.c12
      have e0 := hc3.c0
      have hn4 := HW.out.n4
      have hn64 := HW.out.n64
      have HC3 := Lib.hid hc3
      clear hno hnone hc3 hxr
      go_wp2
      refine wp_region_T [19, 22] (.pure 0 (.pure 1 (.pure 2 (.pure 3 (.pure 4 (.pure 6 (.pure 7 (.pure 8 (.take 5 (.take 9 (.pure 10 (.pure 11 (.pure 12 (.one 13 (.pure 14 (.pure 15 (.pure 16 (.pure 17 (.pure 18 (.one 19 (.pure 20 (.pure 21 (.one 22 .nil))))))))))))))))))))))) (by kernel_rfl) (by kernel_rfl) ?_
      iterate 8 (refine' wpT_pure rfl rfl (fun w' => ?_) ?_; rotate_left 1; (focus ((try go_simp); (try go_bits); (first | done | with_reducible rfl))); simp only [Act.put, List.setIfInBounds_toArray, List.set_cons_zero, List.set_cons_succ])
      iterate 2 (first | (refine' wpT_take_dddd rfl rfl (fun w' hc hl hsz => ?_) ?_; rotate_left 1; (focus ((try go_simp); (try go_bits); (first | done | with_reducible rfl))); simp only [Act.put, List.setIfInBounds_toArray, List.set_cons_zero, List.set_cons_succ]) | (refine' wpT_take_ddd rfl rfl (fun w' hc hl hsz => ?_) ?_; rotate_left 1; (focus ((try go_simp); (try go_bits); (first | done | with_reducible rfl))); simp only [Act.put, List.setIfInBounds_toArray, List.set_cons_zero, List.set_cons_succ]) | (refine' wpT_take_dd rfl rfl (fun w' hc hl hsz => ?_) ?_; rotate_left 1; (focus ((try go_simp); (try go_bits); (first | done | with_reducible rfl))); simp only [Act.put, List.setIfInBounds_toArray, List.set_cons_zero, List.set_cons_succ]) | (refine' wpT_take_d rfl rfl (fun w' hc hl hsz => ?_) ?_; rotate_left 1; (focus ((try go_simp); (try go_bits); (first | done | with_reducible rfl))); simp only [Act.put, List.setIfInBounds_toArray, List.set_cons_zero, List.set_cons_succ]))
      iterate 3 (refine' wpT_pure rfl rfl (fun w' => ?_) ?_; rotate_left 1; (focus ((try go_simp); (try go_bits); (first | done | with_reducible rfl))); simp only [Act.put, List.setIfInBounds_toArray, List.set_cons_zero, List.set_cons_succ])
      refine wpT_one rfl rfl (fun K hK => ?_)
      go_wp2_with (go_at_call 82; refine (count_calls (some L.decs) c.decs (c.f + 1) _ (Or.inr ⟨_, rfl, (HC3.out.ext (Ext.refl wr).dr).decs⟩) (fun k hk => by have := HW.out.decs.keys.1 k hk; omega) (by have := HW.out.decs.keys.2; omega)).mono ?_; rintro e w5 ⟨v5, rfl, hb5, hx5⟩; obtain ⟨A5, K5, rfl, _⟩ := id hb5; have h5 := HC3.out.ext (Ext.undrew hx5); have f15 := h5.free 15; have f16 := h5.free 16; have e15 := h5.c15; have e16 := h5.c16; have hlt5 := h5.lt; have HC5 := Lib.hid h5; clear h5)
      refine hK _ _ hx5 ?_
      clear hK K
      iterate 5 (refine' wpT_pure rfl rfl (fun w' => ?_) ?_; rotate_left 1; (focus ((try go_simp); (try go_bits); (first | done | with_reducible rfl))); simp only [Act.put, List.setIfInBounds_toArray, List.set_cons_zero, List.set_cons_succ])
      refine wpT_writer rfl rfl (by decide) (fun K hK => ?_)
      go_wp2
      first | (refine hK _ _ ?_; clear hK K) | skip
      iterate 2 (refine' wpT_pure rfl rfl (fun w' => ?_) ?_; rotate_left 1; (focus ((try go_simp); (try go_bits); (first | done | with_reducible rfl))); simp only [Act.put, List.setIfInBounds_toArray, List.set_cons_zero, List.set_cons_succ])
      refine wpT_writer rfl rfl (by decide) (fun K hK => ?_)
      go_wp2
      first | (refine hK _ _ ?_; clear hK K) | skip
      refine wpT_nil ?_
      have hs := HC5.out.set_decided' (count c.decs (c.f + 1)).isSome hb5
      have HCS := Lib.hid hs.1
      have HMS := Lib.hid hs.2
      have h15 := hs.1.c15
      have hlts := hs.1.lt
      clear hs
      go_wp2
      go_ret
      have hdn : c.decision = count c.decs (c.f + 1) := by unfold Core.decision; rw [HNONE.out]
      have hd2 : ({ c with decided := (count c.decs (c.f + 1)).isSome, value := (count c.decs (c.f + 1)).getD [] } : Core) = c.decide.getD c ∧ c.decide.isSome = (count c.decs (c.f + 1)).isSome := by
        unfold Core.decide
        rw [hdn]
        cases count c.decs (c.f + 1) with
        | none =>
          refine ⟨?_, rfl⟩
          have h1 := HDEC.out
          have h2 := HW.out.val h1
          cases c
          simp only at h1 h2
          subst h1 h2
          rfl
        | some v => exact ⟨rfl, rfl⟩
      refine ⟨_, by rw [hd2.2]; rfl, hd2.1 ▸ HCS.out, (Moves.of_ext (Ext.trans HXR.out (Ext.undrew hx5))).trans HMS.out⟩
end Go.Proofs.Ytkpllkjionegeaa
