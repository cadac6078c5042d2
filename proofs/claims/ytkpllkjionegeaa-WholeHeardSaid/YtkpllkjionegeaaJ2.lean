/- Walks of the vote package, first part. -/
import Derived.Test.YtkpllkjionegeaaJ1
import Derived.WalkSpells
import Derived.WalkLawsBesides
import Derived.Deep.AppendLies
import Derived.Lib.Hide
import Derived.Maps.OwnOps
set_option linter.unusedVariables false
set_option linter.unusedSimpArgs false
/- Walks of the small functions: quorum, proposer, a clone of bytes, their sameness. -/
namespace Go.Proofs.Ytkpllkjionegeaa
open Go Go.RowKit

/-- the world gets a name: nothing is known of it but that nothing has turned -/
theorem wp_fresh {P : Program} {c : Code} {Q : Exit → Act → World → Prop} {a : Act} {w : World} (W : World) (hx : Ext W w) (h : ∀ W2, Ext W W2 → Code.wp P c Q a W2) : Code.wp P c Q a w := h w hx

theorem Ext.at {W W2 : World} (h : Ext W W2) {a : Addr} {v : Value} (hc : W.cell? a = some v) : W2.cell? a = some v := by
  rw [h.cell (World.block_lt_of_cell? W a hc)]; exact hc

theorem Ext.al {a w : World} (h : Ext a w) (o : Obj) : Ext a (w.alloc o) := Below.alloc h h.size o
theorem Ext.dr {a w : World} (h : Ext a w) : Ext a w.drew := Below.drew h

theorem ret_int {k : IntKind} {a b : Int} (h : a = b) : Ending.returned (.int k a) = .returned (.int k b) := by rw [h]

set_option maxHeartbeats 400000 in
theorem quorum_calls (n : Int) (h0 : 1 ≤ n) (h1 : n ≤ 64) (w : World) :
    Calls Try.prog 89 #[.int .i64 n] w fun e w' => e = .returned (.int .i64 (quorum n)) ∧ w = w' := by
  have h2 : 0 ≤ n - 1 := by omega
  have h3 : 0 ≤ (n - 1) / 3 := by omega
  have h4 : (n - 1) / 3 ≤ 64 := by omega
  go_enter Try.func89, Try.ntmps89
  go_wp2
  go_ret
  exact ⟨rfl, rfl⟩

set_option maxHeartbeats 400000 in
theorem proposer_calls (cb : Nat) (c : Core) (L : Lay) (v : Int) (w : World) (hc : CoreAt w cb c L) (h0 : 4 ≤ c.n) (h1 : c.n ≤ 64) (hs0 : 0 ≤ c.slot) (hs : c.slot ≤ 256) (hv0 : 0 ≤ v) (hv : v ≤ 1048577) :
    Calls Try.prog 63 #[.pointer (some ⟨cb, 0, none⟩), .int .i64 v] w fun e w' => e = .returned (.int .i64 (c.proposer v)) ∧ Ext w w' := by
  have hlt := hc.lt
  have hn := hc.c0
  have hsl := hc.c2
  have hn0 : c.n ≠ 0 := by omega
  have hm1 := Int.emod_nonneg (c.slot + v) hn0
  have hm2 := Int.emod_lt_of_pos (c.slot + v) (show 0 < c.n by omega)
  have HC := Lib.hid hc
  clear hc
  go_enter Try.func63, Try.ntmps63
  go_wp2
  refine wp_region_T [] (.pure 0 (.pure 1 (.pure 2 (.pure 4 (.pure 6 (.pure 7 (.pure 8 (.take 3 (.pure 5 (.take 9 (.pure 10 (.pure 11 (.pure 12 .nil))))))))))))) (by kernel_rfl) (by kernel_rfl) ?_
  iterate 7 (refine' wpT_pure rfl rfl (fun w' => ?_) ?_; rotate_left 1; (focus ((try go_simp); (try go_bits); (first | done | with_reducible rfl))); simp only [Act.put, List.setIfInBounds_toArray, List.set_cons_zero, List.set_cons_succ])
  first | (refine' wpT_take_dddd rfl rfl (fun w' hc hl hsz => ?_) ?_; rotate_left 1; (focus ((try go_simp); (try go_bits); (first | done | with_reducible rfl))); simp only [Act.put, List.setIfInBounds_toArray, List.set_cons_zero, List.set_cons_succ]) | (refine' wpT_take_ddd rfl rfl (fun w' hc hl hsz => ?_) ?_; rotate_left 1; (focus ((try go_simp); (try go_bits); (first | done | with_reducible rfl))); simp only [Act.put, List.setIfInBounds_toArray, List.set_cons_zero, List.set_cons_succ]) | (refine' wpT_take_dd rfl rfl (fun w' hc hl hsz => ?_) ?_; rotate_left 1; (focus ((try go_simp); (try go_bits); (first | done | with_reducible rfl))); simp only [Act.put, List.setIfInBounds_toArray, List.set_cons_zero, List.set_cons_succ]) | (refine' wpT_take_d rfl rfl (fun w' hc hl hsz => ?_) ?_; rotate_left 1; (focus ((try go_simp); (try go_bits); (first | done | with_reducible rfl))); simp only [Act.put, List.setIfInBounds_toArray, List.set_cons_zero, List.set_cons_succ])
  (refine' wpT_pure rfl rfl (fun w' => ?_) ?_; rotate_left 1; (focus ((try go_simp); (try go_bits); (first | done | with_reducible rfl))); simp only [Act.put, List.setIfInBounds_toArray, List.set_cons_zero, List.set_cons_succ])
  first | (refine' wpT_take_dddd rfl rfl (fun w' hc hl hsz => ?_) ?_; rotate_left 1; (focus ((try go_simp); (try go_bits); (first | done | with_reducible rfl))); simp only [Act.put, List.setIfInBounds_toArray, List.set_cons_zero, List.set_cons_succ]) | (refine' wpT_take_ddd rfl rfl (fun w' hc hl hsz => ?_) ?_; rotate_left 1; (focus ((try go_simp); (try go_bits); (first | done | with_reducible rfl))); simp only [Act.put, List.setIfInBounds_toArray, List.set_cons_zero, List.set_cons_succ]) | (refine' wpT_take_dd rfl rfl (fun w' hc hl hsz => ?_) ?_; rotate_left 1; (focus ((try go_simp); (try go_bits); (first | done | with_reducible rfl))); simp only [Act.put, List.setIfInBounds_toArray, List.set_cons_zero, List.set_cons_succ]) | (refine' wpT_take_d rfl rfl (fun w' hc hl hsz => ?_) ?_; rotate_left 1; (focus ((try go_simp); (try go_bits); (first | done | with_reducible rfl))); simp only [Act.put, List.setIfInBounds_toArray, List.set_cons_zero, List.set_cons_succ])
  iterate 3 (refine' wpT_pure rfl rfl (fun w' => ?_) ?_; rotate_left 1; (focus ((try go_simp); (try go_bits); (first | done | with_reducible rfl))); simp only [Act.put, List.setIfInBounds_toArray, List.set_cons_zero, List.set_cons_succ])
  refine wpT_nil ?_
  go_wp2
  go_ret
  exact ⟨rfl, (Ext.refl w).drew⟩

theorem info5 : (Try.prog.info? 5).map (fun i => (i.zero, i.size, i.bytes)) = some (some (.int .u8 0), 1, 1) := by kernel_rfl

/-- the cells of bytes -/
def byteCells (l : Bytes) : List Value := l.map fun b => .int .u8 (b.toNat : Int)

theorem byteCells_length (l : Bytes) : (byteCells l).length = l.length := by simp [byteCells]
theorem byteCells_append (l l' : Bytes) : byteCells (l ++ l') = byteCells l ++ byteCells l' := by simp [byteCells]
theorem byteCells_one (l : Bytes) : ∀ u ∈ byteCells l, u.oneCell' = true := fun u hu => by
  obtain ⟨x, _, rfl⟩ := List.mem_map.1 hu; rfl

/-- a row of one's own that holds bytes reads as them -/
theorem bytes_of_own {w : World} {base : Nat} {v : Value} {n : Nat} {l : Bytes} (h : w.ownsRow base 5 1 v n (byteCells l)) : BytesAt w v l := by
  obtain ⟨h1, h2⟩ := h
  have hn : n = l.length := by rw [byteCells_length] at h1; omega
  rcases h2 with ⟨rfl, h0⟩ | ⟨g, cap, cur, rfl, hb, hg, hcap, hm, hs, ht⟩
  · have : l = [] := List.eq_nil_of_length_eq_zero (by omega)
    subst this; exact BytesAt.nil w
  · subst hn
    refine ⟨some ⟨g, 0, none⟩, cap, rfl, hcap, fun _ => ⟨g, 0, rfl, fun i hi => ?_⟩⟩
    have : w.cell? ⟨g, 0 + i, none⟩ = cur[i]? := by simp [World.cell?, hg]
    rw [this]
    have h3 : (byteCells l)[i]? = cur.toList[i]? := by
      rw [← ht, List.getElem?_take]
      simp [hi]
    rw [← Array.getElem?_toList, ← h3]
    simp [byteCells, hi]

/-- .. and where it is handed to append -/
theorem BytesAt.news {w : World} {b o : Nat} {cap : Nat} {l : Bytes} (h : ∀ i (h : i < l.length), w.cell? ⟨b, o + i, none⟩ = some (.int .u8 (l[i].toNat : Int))) :
    ∀ j u, (byteCells l)[j]? = some u → w.cell? ((⟨b, o, none⟩ : Addr).add j) = some u := fun j u hu => by
  have hj : j < l.length := by
    have := (List.getElem?_eq_some_iff.1 hu).1
    simpa [byteCells_length] using this
  have hadd : (⟨b, o, none⟩ : Addr).add j = ⟨b, o + j, none⟩ := by unfold Addr.add; split <;> simp_all
  rw [hadd, h j hj]
  simp [byteCells, hj] at hu
  rw [hu]

end Go.Proofs.Ytkpllkjionegeaa

/- Walks: a clone of bytes, the sameness of bytes, four bytes of a number. -/
namespace Go.Proofs.Ytkpllkjionegeaa
open Go Go.RowKit

theorem eql_bytes_nil (a : Option Addr) (n c : Nat) (w : World) : (binOp .eql 26 (.slice a n c) (.slice none 0 0)).run Try.prog w = .ok (.bool a.isNone) w :=
  Lib.run_eql_slice_nil w 26 5 a n c 0 0 Try.underlying26
theorem eql_told_nil (r : Option Nat) (w : World) : (binOp .eql 69 (.map r) (.map none)).run Try.prog w = .ok (.bool r.isNone) w :=
  Go.run_eql_map_nil w 69 3 26 r Try.underlying69
attribute [go_sem] eql_bytes_nil eql_told_nil

/-- the call hands back bytes, and nothing has turned -/
def GivesBytes (l : Bytes) (w : World) (e : Ending) (w' : World) : Prop := ∃ v', e = .returned v' ∧ BytesAt w' v' l ∧ Ext w w'

set_option maxRecDepth 100000 in
set_option maxHeartbeats 400000 in
theorem clone_calls (v : Value) (l : Bytes) (w : World) (h : BytesAt w v l) (hlen : l.length ≤ 1000000) :
    Calls Try.prog 41 #[v] w (GivesBytes l w) := by
  obtain ⟨a, cap, rfl, hcap, hr⟩ := h
  cases a with
  | none =>
    have hl : l = [] := by
      cases l with
      | nil => rfl
      | cons x r => obtain ⟨b, o, h, _⟩ := hr (by simp); cases h
    subst hl
    clear hr hlen hcap
    go_enter Try.func41, Try.ntmps41
    go_wp2
    go_ret
    exact ⟨_, rfl, BytesAt.nil w, Ext.refl w⟩
  | some p =>
    obtain ⟨i0, hi, hz0, hz1, hz2⟩ := info_parts info5
    have hown : (w.alloc (.cells #[] 5)).ownsRow w.heap.size 5 1 (.slice (some ⟨w.heap.size, 0, none⟩) 0 0) 0 [] := World.ownsRow_made w #[] 0 (Nat.le_refl _) (by decide) rfl
    have hnews : ∀ j u, (byteCells l)[j]? = some u → (w.alloc (.cells #[] 5)).cell? (p.add j) = some u := by
      by_cases hl : l = []
      · subst hl; intro j u hu; simp [byteCells] at hu
      · obtain ⟨b, o, he, hc⟩ := hr hl
        cases he
        intro j u hu
        have hx : Ext w (w.alloc (.cells #[] 5)) := (Ext.refl w).alloc (Nat.le_refl _) _
        have h0 := BytesAt.news (cap := cap) hc j u hu
        rw [hx.cell (World.block_lt_of_cell? w _ h0)]; exact h0
    have HO := Lib.hid hown
    have HN := Lib.hid hnews
    have HR := Lib.hid hr
    have HI := Lib.hid hi
    have HM : Hid (0 + l.length ≤ maxLen ∧ (0 + l.length) * 1 ≤ 140737488355328) := Lib.hid (by unfold maxLen; omega)
    clear hr hown hnews hi hlen hcap
    go_enter Try.func41, Try.ntmps41
    go_wp2_with (first
      | (at_builtin; refine wpList_append_own _ rfl _ _ 26 rfl w.heap.size 5 i0 (.int .u8 0) 1 1 Try.underlying26 HI.out hz0 hz1 hz2 rfl (by decide) _ _ _ rfl HO.out p l.length cap (byteCells l) rfl (by simp [byteCells_length]) HN.out (byteCells_one l) HM.out.1 HM.out.2 (by simp) ?_; intro v' w1 hown1 hgrow1 _)
      | go_in)
    go_ret
    exact ⟨_, rfl, bytes_of_own (by simpa using hown1), ((Ext.refl w).alloc (Nat.le_refl _) _).grown hgrow1 (by simp) (fun k hk => by cases hk; exact Nat.le_refl _)⟩

set_option maxRecDepth 100000 in
set_option maxHeartbeats 400000 in
theorem equal_calls (v v' : Value) (l l' : Bytes) (w : World) (h : BytesAt w v l) (h' : BytesAt w v' l') :
    Calls Try.prog 47 #[v, v'] w fun e w' => e = .returned (.bool (l == l')) ∧ w = w' := by
  have h1 := h.string
  have h2 := h'.string
  have H := Lib.hid h
  have H' := Lib.hid h'
  clear h h'
  go_enter Try.func47, Try.ntmps47
  go_wp2
  go_ret
  exact ⟨by rw [← string_beq]; rfl, rfl⟩
end Go.Proofs.Ytkpllkjionegeaa

/- Walks: four bytes of a number. -/
namespace Go.Proofs.Ytkpllkjionegeaa
open Go Go.RowKit

/-- the call hands back the bytes of its own row, longer -/
def GivesOwn (B : Nat) (l : Bytes) (row : Option Nat) (w : World) (e : Ending) (w' : World) : Prop :=
  ∃ v', e = .returned v' ∧ w'.ownsRow B 5 1 v' l.length (byteCells l) ∧ w.grownBy w' row ∧ (∀ k, v'.ownBlock = some k → row = some k ∨ w.heap.size ≤ k)

theorem four_cells (n : Int) (h0 : 0 ≤ n) (h1 : n < 4294967296) :
    byteCells (four n) = [.int .u8 (n / 16777216), .int .u8 (n / 65536 % 256), .int .u8 (n / 256 % 256), .int .u8 (n % 256)] := by
  have key : ∀ x : Int, 0 ≤ x → x < 256 → (((UInt8.ofNat x.toNat).toNat : Nat) : Int) = x := fun x a b => by
    simp only [UInt8.toNat_ofNat']
    omega
  simp only [byteCells, four, List.map_cons, List.map_nil]
  rw [key _ (by omega) (by omega), key _ (by omega) (by omega), key _ (by omega) (by omega), key _ (by omega) (by omega)]
  have : n / 16777216 % 256 = n / 16777216 := by omega
  rw [this]

set_option maxRecDepth 100000 in
set_option maxHeartbeats 400000 in
theorem four_calls (B : Nat) (v : Value) (l : Bytes) (n : Int) (w : World) (hown : w.ownsRow B 5 1 v l.length (byteCells l)) (hB : B ≤ w.heap.size) (hl : l.length ≤ 1000000) (h0 : 0 ≤ n) (h1 : n < 4294967296) :
    Calls Try.prog 48 #[v, .int .i64 n] w (GivesOwn B (l ++ four n) v.ownBlock w) := by
  obtain ⟨i0, hi, hz0, hz1, hz2⟩ := info_parts info5
  have HC := Lib.hid (four_cells n h0 h1)
  have HO : Hid (∀ o, (w.alloc o).ownsRow B 5 1 v l.length (byteCells l)) := Lib.hid (fun o => hown.alloc o)
  have HI := Lib.hid hi
  have HL : Hid (l.length + 4 ≤ maxLen ∧ (l.length + 4) * 1 ≤ 140737488355328) := Lib.hid (by unfold maxLen; omega)
  clear hown hi hl
  go_enter Try.func48, Try.ntmps48
  go_wp2_with (first
    | (at_builtin; refine wpList_append_own_at _ rfl _ _ 26 rfl B 5 i0 (.int .u8 0) 1 1 Try.underlying26 HI.out hz0 hz1 hz2 rfl (by decide) _ _ _ rfl (HO.out _) ⟨w.heap.size, 0, none⟩ 4 4 (byteCells (four n)) rfl (by rw [HC.out]; rfl) (by rw [HC.out]; exact World.news_of_block (heap_alloc_new w _)) (byteCells_one _) HL.out.1 HL.out.2 (by simp; omega) ?_; intro v' w1 hown1 hgrow1 _ hat)
    | go_in)
  go_ret
  refine ⟨_, rfl, ?_, World.grownBy.trans (World.grownBy_alloc w _ _) hgrow1, fun k hk => ?_⟩
  · have := hown1
    rw [← byteCells_append] at this
    rw [List.length_append]; exact this
  · rcases hat with h | h
    · left; exact h.symm.trans hk
    · right
      have h2 : some k = some (w.heap.size + 1) := by rw [← hk]; simpa using h
      cases h2; omega
end Go.Proofs.Ytkpllkjionegeaa

/- Walks: what a peer told in a view, if it is the first (set). -/
namespace Go.Proofs.Ytkpllkjionegeaa
open Go Go.RowKit

theorem zero69 (w : World) : (zeroValue 69).run Try.prog w = .ok (.map none) w := by kernel_rfl
theorem zero26 (w : World) : (zeroValue 26).run Try.prog w = .ok (.slice none 0 0) w := by kernel_rfl
theorem zero3 (w : World) : (zeroValue 3).run Try.prog w = .ok (.int .i64 0) w := by kernel_rfl
theorem zero103 (w : World) : (zeroValue 103).run Try.prog w = .ok (.agg #[.slice none 0 0, .int .i64 0]) w := by kernel_rfl

/-- 'm[k] = v' at the operation: some world in which the map reads so. -/
theorem wp_mapUpdate {o : Oper} {a : Act} {K : Act → World → Prop} {Q : Exit → Act → World → Prop} (w : World) (t e : TypeId) (m x v : Operand) (hop : o.op = Op.mapUpdate t m x v)
    (ht : Try.prog.underlying t = some (.map 3 e)) (r : Nat) (mm : AL Value) (hm : a.eval m = .map (some r)) (hown : MapAt w r mm) (k : Int) (hx : a.eval x = .int .i64 k) (u : Value) (hv : a.eval v = u)
    (hK : ∀ w', MapAt w' r (AL.put mm k u) → But r w w' → K (a.put o.dst undef) w') : o.wp Try.prog a w K Q := by
  obtain ⟨w', hrun, h1, h2⟩ := hown.update ht Try.underlying3 k u
  unfold Oper.wp
  simp [execOp, hop, hm, hx, hv, hrun, Result.andThen]
  exact hK _ h1 h2

theorem wpList_mapUpdate {ops : Array Oper} {rest : List Oper} {o : Oper} {a : Act} {Q : Exit → Act → World → Prop} (w : World) (hg : o.guard = none) (t e : TypeId) (m x v : Operand) (hop : o.op = Op.mapUpdate t m x v)
    (ht : Try.prog.underlying t = some (.map 3 e)) (r : Nat) (mm : AL Value) (hm : a.eval m = .map (some r)) (hown : MapAt w r mm) (k : Int) (hx : a.eval x = .int .i64 k) (u : Value) (hv : a.eval v = u)
    (hK : ∀ w', MapAt w' r (AL.put mm k u) → But r w w' → wpList Try.prog ops Q rest (a.put o.dst undef) w') : wpList Try.prog ops Q (o :: rest) a w :=
  wpList_plain hg fun _ hKK => wp_mapUpdate w t e m x v hop ht r mm hm hown k hx u hv fun w' h1 h2 => hKK _ _ (hK w' h1 h2)

theorem inner_of {w : World} {r : Nat} {m : AL Told} {im : AL Nat} (h : TMapAt w r m im) (view : Int) :
    (AL.get? im view = none ∧ AL.get? m view = none ∧ inner m view = []) ∨ ∃ id, AL.get? im view = some id ∧ AL.get? m view = some (inner m view) ∧ InnerAt w id (inner m view) := by
  obtain ⟨h1, h2, h3, h4⟩ := h
  cases hi : AL.get? im view with
  | none =>
    left
    have := h4.non.1 hi
    exact ⟨rfl, this, by simp [inner, this]⟩
  | some id =>
    right
    obtain ⟨t, ht, hr⟩ := h4.fwd hi
    have he : inner m view = t := by simp [inner, ht]
    exact ⟨id, rfl, by rw [he]; exact ht, by rw [he]; exact hr⟩

/-- the outer look-up -/
theorem outer_look {w : World} {r : Nat} {m : AL Told} {im : AL Nat} (h : TMapAt w r m im) (view : Int) :
    ∀ w', w'.heap[r]? = w.heap[r]? → (Instr.lookup 66 (.map (some r)) (.int .i64 view) false).run Try.prog w' = .ok (.map (AL.get? im view)) w' := fun w' hw => by
  have := (h.1.kept hw).lookup (P := Try.prog) (t := 66) (e := 69) Try.underlying66 Try.underlying3 (zero69 w') view false
  rw [this, AL.get?_mapVal]
  cases AL.get? im view <;> rfl

theorem inner_look {w : World} {id : Nat} {t : Told} (h : InnerAt w id t) (who : Int) :
    ∃ x, (∀ w', w'.heap[id]? = w.heap[id]? → (Instr.lookup 69 (.map (some id)) (.int .i64 who) true).run Try.prog w' = .ok (.tuple #[x, .bool (AL.get? t who).isSome]) w') ∧
      (∀ w', w'.heap[id]? = w.heap[id]? → (Instr.lookup 69 (.map (some id)) (.int .i64 who) false).run Try.prog w' = .ok x w') ∧ BytesAt w x ((AL.get? t who).getD []) := by
  obtain ⟨m, h1, h2, h3⟩ := h
  refine ⟨(AL.get? m who).getD (.slice none 0 0), fun w' hw => ?_, fun w' hw => ?_, ?_⟩
  · have := (h1.kept hw).lookup (P := Try.prog) (t := 69) (e := 26) Try.underlying69 Try.underlying3 (zero26 w') who true
    rw [this, h3.has who]; rfl
  · exact (h1.kept hw).lookup (P := Try.prog) (t := 69) (e := 26) Try.underlying69 Try.underlying3 (zero26 w') who false
  · cases hx : AL.get? m who with
    | none => rw [h3.non.1 hx]; exact BytesAt.nil w
    | some x => obtain ⟨y, hy, hr⟩ := h3.fwd hx; rw [hy]; exact hr

theorem nil_look (who : Int) (ok : Bool) (w : World) : (Instr.lookup 69 (.map none) (.int .i64 who) ok).run Try.prog w = .ok (if ok then .tuple #[.slice none 0 0, .bool false] else .slice none 0 0) w :=
  lookup_nilmap w Try.underlying69 Try.underlying3 (zero26 w) who ok

/-- what 'set' leaves -/
def SetPost (r : Nat) (m : AL Told) (im : AL Nat) (view who : Int) (v : Bytes) (w : World) (e : Ending) (w' : World) : Prop :=
  ∃ im', e = .returned (.bool (setTold m view who v).1) ∧ TMapAt w' r (setTold m view who v).2 im' ∧ Turn (fun b => b = r ∨ b ∈ AL.vals im) w w' ∧ (im' = im ∨ ∃ id, w.heap.size ≤ id ∧ AL.get? im view = none ∧ im' = AL.put im view id)

set_option maxRecDepth 100000 in
set_option maxHeartbeats 400000 in
/-- told before -/
theorem set_told (r : Nat) (m : AL Told) (im : AL Nat) (view who : Int) (vv : Value) (v : Bytes) (w : World) (h : TMapAt w r m im) (hd : (AL.get? (inner m view) who).isSome = true) :
    Calls Try.prog 64 #[.map (some r), .int .i64 view, .int .i64 who, vv] w (SetPost r m im view who v w) := by
  have hfin : setTold m view who v = (false, m) := by simp [setTold, hd]
  rcases inner_of h view with ⟨_, _, h0⟩ | ⟨id, hid, hm, hin⟩
  · rw [h0] at hd; simp [AL.get?] at hd
  · have ho := outer_look h view w rfl
    rw [hid] at ho
    obtain ⟨x, hx, _, _⟩ := inner_look hin who
    have hl := hx w rfl
    rw [hd] at hl
    have HF := Lib.hid hfin
    have H := Lib.hid h
    clear hx hid hm hin h hd hfin
    go_enter Try.func64, Try.ntmps64
    go_wp2
    go_ret
    refine ⟨im, ?_, ?_, Turn.refl _ w, Or.inl rfl⟩
    · rw [HF.out]; rfl
    · rw [HF.out]; exact H.out

theorem Ext.undrew {w w' : World} (h : Ext w.drew w') : Ext w w' := ⟨h.os, h.tape, h.output, h.size, h.block⟩

theorem AL.put_put {α : Type} {m : AL α} (h : AL.Rising m) (k : Int) (x y : α) : AL.put (AL.put m k x) k y = AL.put m k y :=
  AL.ext_get? (AL.rising_put (AL.rising_put h)) (AL.rising_put h) fun j => by
    rw [AL.get?_put j (AL.rising_put h), AL.get?_put j h, AL.get?_put j h]
    by_cases hj : k = j <;> simp [hj]

theorem AL.vals_inj {im : AL Nat} (hnd : (AL.vals im).Nodup) {k k' : Int} {i : Nat} (h : AL.get? im k = some i) (h' : AL.get? im k' = some i) : k = k' := by
  have h1 := AL.get?_mem h
  have h2 := AL.get?_mem h'
  induction im with
  | nil => cases h1
  | cons p r ih =>
    obtain ⟨a, b⟩ := p
    simp only [AL.vals, List.map_cons, List.nodup_cons] at hnd
    rcases List.mem_cons.1 h1 with e1 | e1 <;> rcases List.mem_cons.1 h2 with e2 | e2
    · cases e1; cases e2; rfl
    · cases e1; exact absurd (List.mem_map.2 ⟨_, e2, rfl⟩) hnd.1
    · cases e2; exact absurd (List.mem_map.2 ⟨_, e1, rfl⟩) hnd.1
    · have g : ∀ {q : Int}, (q, i) ∈ r → AL.get? ((a, b) :: r) q = some i → AL.get? r q = some i := fun {q} hm hg => by
        simp only [AL.get?] at hg
        split at hg
        · cases hg; exact absurd (List.mem_map.2 ⟨_, hm, rfl⟩) hnd.1
        · exact hg
      exact ih hnd.2 (g e1 h) (g e2 h') e1 e2

theorem AL.mem_vals {α : Type} {m : AL α} {k : Int} {x : α} (h : AL.get? m k = some x) : x ∈ AL.vals m := List.mem_map.2 ⟨_, AL.get?_mem h, rfl⟩

theorem MapAt.turn_of {r : Nat} {mm : AL Value} {w w' : World} (h : MapAt w r mm) (hb : But r w w') : Turn (· = r) w w' := by
  obtain ⟨es, clk, h1, _⟩ := h
  exact Turn.of_but hb h1

/-- an inner map has been written -/
theorem tmap_store {w1 w2 : World} {r : Nat} {m : AL Told} {im : AL Nat} (h : TMapAt w1 r m im) (hnd : (r :: AL.vals im).Nodup) {view who : Int} {id : Nat} (hid : AL.get? im view = some id)
    {mm : AL Value} (hmm : MapAt w1 id mm) (hr : ARel (BytesAt w1) mm (inner m view)) (hri : AL.Rising (inner m view)) {vv : Value} {v : Bytes} (hv : BytesAt w1 vv v) (h2 : MapAt w2 id (AL.put mm who vv)) (hb : But id w1 w2) :
    TMapAt w2 r (AL.put m view (AL.put (inner m view) who v)) im := by
  have ht := hmm.turn_of hb
  obtain ⟨h3, h4⟩ := List.nodup_cons.1 hnd
  obtain ⟨g1, g2, g3, g4⟩ := h
  have hne : r ≠ id := fun e => h3 (e ▸ AL.mem_vals hid)
  refine ⟨g1.kept (hb.block r hne), g2, AL.rising_put g3, fun k => ?_⟩
  rw [AL.get?_put k g3]
  by_cases hk : view = k
  · subst hk
    rw [hid, if_pos rfl]
    exact ⟨_, h2, AL.rising_put hri, (hr.mono fun _ _ _ _ _ hx => hx.turn ht).store hmm.rising hri who (hv.turn ht)⟩
  · rw [if_neg hk]
    have := g4 k
    cases hi : AL.get? im k with
    | none => rw [hi] at this; cases hm : AL.get? m k <;> (rw [hm] at this; exact this)
    | some i =>
      rw [hi] at this
      cases hm : AL.get? m k with
      | none => rw [hm] at this; exact this
      | some t =>
        rw [hm] at this
        exact this.turn ht (fun e => hk (AL.vals_inj h4 hid (e ▸ hi)))

/-- a view has come -/
theorem tmap_new {w w1 w2 : World} {r : Nat} {m : AL Told} {im : AL Nat} (h : TMapAt w r m im) (hnd : (r :: AL.vals im).Nodup) {view : Int} (hno : AL.get? im view = none) {id : Nat}
    (hx : Ext w w1) (hi : w.heap.size ≤ id) (h1 : MapAt w1 id []) (h2 : MapAt w2 r (AL.put (AL.mapVal (fun i => .map (some i)) im) view (.map (some id)))) (hb : But r w1 w2) :
    TMapAt w2 r (AL.put m view []) (AL.put im view id) ∧ (r :: AL.vals (AL.put im view id)).Nodup ∧ inner (AL.put m view []) view = [] ∧ Turn (· = r) w w2 := by
  have hr := h.lt
  obtain ⟨g1, g2, g3, g4⟩ := h
  obtain ⟨h3, h4⟩ := List.nodup_cons.1 hnd
  have ht := (g1.ext hx).turn_of hb
  have hne : id ≠ r := by omega
  have hT : Turn (· = r) w w2 := (Turn.of_ext (S := (· = r)) hx).trans ht (fun x _ h => h)
  have hlt : ∀ k i, AL.get? im k = some i → i < w.heap.size ∧ i ≠ r := fun k i hk => by
    obtain ⟨t, _, hin⟩ := g4.fwd hk
    exact ⟨hin.lt, fun e => h3 (e ▸ AL.mem_vals hk)⟩
  refine ⟨⟨by rw [AL.mapVal_put]; exact h2, AL.rising_put g2, AL.rising_put g3, fun k => ?_⟩, ?_, ?_, hT⟩
  · rw [AL.get?_put k g2, AL.get?_put k g3]
    by_cases hk : view = k
    · simp only [hk, if_true]
      exact ⟨[], h1.kept (hb.block id hne), AL.rising_nil, ARel.empty⟩
    · simp only [if_neg hk]
      have := g4 k
      cases hi : AL.get? im k with
      | none => rw [hi] at this; cases hm : AL.get? m k <;> (rw [hm] at this; exact this)
      | some i =>
        rw [hi] at this
        cases hm : AL.get? m k with
        | none => rw [hm] at this; exact this
        | some t =>
          rw [hm] at this
          exact this.turn hT (hlt k i hi).2
  · have hp : (AL.vals (AL.put im view id)).Perm (id :: AL.vals im) := by simpa [AL.vals] using (AL.perm_put_new hno).map (·.2)
    refine List.nodup_cons.2 ⟨fun hm => ?_, hp.nodup_iff.2 (List.nodup_cons.2 ⟨fun hm => ?_, h4⟩)⟩
    · rcases List.mem_cons.1 (hp.mem_iff.1 hm) with e | e
      · exact hne e.symm
      · exact h3 e
    · obtain ⟨p, hp, e⟩ := List.mem_map.1 hm
      obtain ⟨k, i⟩ := p
      have := (hlt k i (AL.get?_of_mem g2 hp)).1
      simp at e; omega
  · simp [inner, AL.get?_put view g3]


set_option maxRecDepth 100000 in
set_option maxHeartbeats 400000 in
/-- told first, where others told in that view -/
theorem set_some (r : Nat) (m : AL Told) (im : AL Nat) (view who : Int) (vv : Value) (v : Bytes) (w : World) (h : TMapAt w r m im) (hnd : (r :: AL.vals im).Nodup) (hv : BytesAt w vv v) (hlen : v.length ≤ 1000000)
    {id : Nat} (hid : AL.get? im view = some id) (hd : (AL.get? (inner m view) who).isSome = false) :
    Calls Try.prog 64 #[.map (some r), .int .i64 view, .int .i64 who, vv] w (SetPost r m im view who v w) := by
  have hfin : setTold m view who v = (true, AL.put m view (AL.put (inner m view) who v)) := by simp [setTold, hd]
  obtain ⟨hm, hin⟩ : AL.get? m view = some (inner m view) ∧ InnerAt w id (inner m view) := by
    rcases inner_of h view with ⟨h0, _, _⟩ | ⟨id', hid', hm, hin⟩
    · rw [h0] at hid; cases hid
    · rw [hid] at hid'; cases hid'; exact ⟨hm, hin⟩
  have ho := outer_look h view
  rw [hid] at ho
  have ho1 := ho w rfl
  obtain ⟨x, hx, _, _⟩ := inner_look hin who
  have hl := hx w rfl
  rw [hd] at hl
  have hrlt := h.lt
  have hilt := hin.lt
  have HF := Lib.hid hfin
  have H := Lib.hid h
  have HN := Lib.hid hnd
  have HB : Hid (BytesAt w.drew vv v) := Lib.hid (hv.ext (Ext.refl w).drew)
  have HL := Lib.hid hlen
  have HI := Lib.hid hin
  have HID := Lib.hid hid
  clear hx hid hm hin h hd hfin hnd hv hlen
  go_enter Try.func64, Try.ntmps64
  go_wp2
  refine wp_region_T [6] (.pure 0 (.pure 1 (.pure 3 (.pure 4 (.take 2 (.one 5 (.one 6 .nil))))))) (by kernel_rfl) (by kernel_rfl) ?_
  iterate 4 (refine' wpT_pure rfl rfl (fun w' => ?_) ?_; rotate_left 1; (focus ((try go_simp); (try go_bits); (first | done | with_reducible rfl))); simp only [Act.put, List.setIfInBounds_toArray, List.set_cons_zero, List.set_cons_succ])
  first | (refine' wpT_take_dddd rfl rfl (fun w' hc hl hsz => ?_) ?_; rotate_left 1; (focus ((try go_simp); (try go_bits); (first | done | with_reducible rfl))); simp only [Act.put, List.setIfInBounds_toArray, List.set_cons_zero, List.set_cons_succ]) | (refine' wpT_take_ddd rfl rfl (fun w' hc hl hsz => ?_) ?_; rotate_left 1; (focus ((try go_simp); (try go_bits); (first | done | with_reducible rfl))); simp only [Act.put, List.setIfInBounds_toArray, List.set_cons_zero, List.set_cons_succ]) | (refine' wpT_take_dd rfl rfl (fun w' hc hl hsz => ?_) ?_; rotate_left 1; (focus ((try go_simp); (try go_bits); (first | done | with_reducible rfl))); simp only [Act.put, List.setIfInBounds_toArray, List.set_cons_zero, List.set_cons_succ]) | (refine' wpT_take_d rfl rfl (fun w' hc hl hsz => ?_) ?_; rotate_left 1; (focus ((try go_simp); (try go_bits); (first | done | with_reducible rfl))); simp only [Act.put, List.setIfInBounds_toArray, List.set_cons_zero, List.set_cons_succ])
  refine wpT_one rfl rfl (fun K hK => ?_)
  go_wp2_with (go_at_call 41; refine (clone_calls _ _ _ HB.out HL.out).mono ?_; rintro e w1 ⟨v', rfl, hb1, he1⟩)
  refine hK _ _ he1 ?_
  clear hK K
  refine wpT_writer rfl rfl (by decide) (fun K hK => ?_)
  obtain ⟨mm, hmm, hri, hrel⟩ := HI.out
  have he := Ext.undrew he1
  refine wp_mapUpdate _ 69 26 _ _ _ rfl Try.underlying69 id mm rfl (hmm.ext he) who rfl v' rfl ?_
  intro w2 hm2 hb2
  first | (refine hK _ _ ?_; clear hK K) | skip
  refine wpT_nil ?_
  go_wp2
  go_ret
  have he := Ext.undrew he1
  refine ⟨im, ?_, ?_, (Turn.of_ext he).trans ((hmm.ext he).turn_of hb2) (fun x _ hx => Or.inr (hx ▸ AL.mem_vals HID.out)), Or.inl rfl⟩
  · rw [HF.out]; rfl
  · rw [HF.out]
    exact tmap_store (H.out.turn (Turn.of_ext (S := fun _ => False) he) (fun h => h) (fun _ _ h => h)) HN.out HID.out (hmm.ext he) (hrel.mono fun _ _ _ _ _ hx => hx.ext he) hri hb1 hm2 hb2

set_option maxRecDepth 100000 in
set_option maxHeartbeats 400000 in
/-- told first, and the first in that view -/
theorem set_none (r : Nat) (m : AL Told) (im : AL Nat) (view who : Int) (vv : Value) (v : Bytes) (w : World) (h : TMapAt w r m im) (hnd : (r :: AL.vals im).Nodup) (hv : BytesAt w vv v) (hlen : v.length ≤ 1000000)
    (hid : AL.get? im view = none) :
    Calls Try.prog 64 #[.map (some r), .int .i64 view, .int .i64 who, vv] w (SetPost r m im view who v w) := by
  obtain ⟨hmn, hin0⟩ : AL.get? m view = none ∧ inner m view = [] := by
    rcases inner_of h view with ⟨_, h1, h2⟩ | ⟨id', hid', _⟩
    · exact ⟨h1, h2⟩
    · rw [hid] at hid'; cases hid'
  have hfin : setTold m view who v = (true, AL.put (AL.put m view []) view (AL.put [] who v)) := by simp [setTold, hin0, AL.get?, AL.put_put h.2.2.1]
  have ho := outer_look h view
  rw [hid] at ho
  have ho1 := ho w rfl
  have hn1 := nil_look who true w
  have hmk := @run_makeMap Try.prog
  have hrlt := h.lt
  have HF := Lib.hid hfin
  have H := Lib.hid h
  have HN := Lib.hid hnd
  have HV := Lib.hid hv
  have HL := Lib.hid hlen
  have HID := Lib.hid hid
  have HM : Hid (MapAt (w.alloc (.map #[] 0)) r (AL.mapVal (fun i => .map (some i)) im)) := Lib.hid (h.1.ext ((Ext.refl w).alloc (Nat.le_refl _) _))
  clear hid h hfin hnd hv hlen hmn hin0
  go_enter Try.func64, Try.ntmps64
  go_wp2_with (first
    | (at_mapUpdate; refine wpList_mapUpdate _ rfl 66 69 _ _ _ rfl Try.underlying66 r _ rfl HM.out view rfl (.map (some w.heap.size)) rfl ?_; intro w2 hm2 hb2)
    | go_in)
  obtain ⟨hT, hN2, hI2, hTu⟩ := tmap_new H.out HN.out HID.out ((Ext.refl w).alloc (Nat.le_refl _) _) (Nat.le_refl _) (MapAt.made w) hm2 hb2
  have ho2 := outer_look hT view
  have hg : AL.get? (AL.put im view w.heap.size) view = some w.heap.size := by rw [AL.get?_put view H.out.2.1]; simp
  rw [hg] at ho2
  have HB : Hid (BytesAt w2.drew vv v) := Lib.hid ((HV.out.turn hTu).ext (Ext.refl w2).drew)
  have hrlt2 := hT.lt
  have HT := Lib.hid hT
  have HN2 := Lib.hid hN2
  have HI2 := Lib.hid hI2
  have HTu := Lib.hid hTu
  have HG := Lib.hid hg
  have HS2 := Lib.hid hb2.size
  have HIN : Hid (InnerAt w2 w.heap.size []) := Lib.hid (by
    rcases inner_of hT view with ⟨h0, _, _⟩ | ⟨id', hid', _, hin⟩
    · rw [hg] at h0; cases h0
    · rw [hg] at hid'; cases hid'; rw [hI2] at hin; exact hin)
  clear hT hN2 hI2 hTu hg hm2 hb2
  refine wp_region_T [6] (.pure 0 (.pure 1 (.pure 3 (.pure 4 (.take 2 (.one 5 (.one 6 .nil))))))) (by kernel_rfl) (by kernel_rfl) ?_
  iterate 4 (refine' wpT_pure rfl rfl (fun w' => ?_) ?_; rotate_left 1; (focus ((try go_simp); (try go_bits); (first | done | with_reducible rfl))); simp only [Act.put, List.setIfInBounds_toArray, List.set_cons_zero, List.set_cons_succ])
  first | (refine' wpT_take_dddd rfl rfl (fun w' hc hl hsz => ?_) ?_; rotate_left 1; (focus ((try go_simp); (try go_bits); (first | done | with_reducible rfl))); simp only [Act.put, List.setIfInBounds_toArray, List.set_cons_zero, List.set_cons_succ]) | (refine' wpT_take_ddd rfl rfl (fun w' hc hl hsz => ?_) ?_; rotate_left 1; (focus ((try go_simp); (try go_bits); (first | done | with_reducible rfl))); simp only [Act.put, List.setIfInBounds_toArray, List.set_cons_zero, List.set_cons_succ]) | (refine' wpT_take_dd rfl rfl (fun w' hc hl hsz => ?_) ?_; rotate_left 1; (focus ((try go_simp); (try go_bits); (first | done | with_reducible rfl))); simp only [Act.put, List.setIfInBounds_toArray, List.set_cons_zero, List.set_cons_succ]) | (refine' wpT_take_d rfl rfl (fun w' hc hl hsz => ?_) ?_; rotate_left 1; (focus ((try go_simp); (try go_bits); (first | done | with_reducible rfl))); simp only [Act.put, List.setIfInBounds_toArray, List.set_cons_zero, List.set_cons_succ])
  refine wpT_one rfl rfl (fun K hK => ?_)
  go_wp2_with (go_at_call 41; refine (clone_calls _ _ _ HB.out HL.out).mono ?_; rintro e w1 ⟨v', rfl, hb1, he1⟩)
  refine hK _ _ he1 ?_
  clear hK K
  refine wpT_writer rfl rfl (by decide) (fun K hK => ?_)
  obtain ⟨mm, hmm, hri, hrel⟩ := HIN.out
  have he := Ext.undrew he1
  refine wp_mapUpdate _ 69 26 _ _ _ rfl Try.underlying69 w.heap.size mm rfl (hmm.ext he) who rfl v' rfl ?_
  intro w3 hm3 hb3
  first | (refine hK _ _ ?_; clear hK K) | skip
  refine wpT_nil ?_
  go_wp2
  go_ret
  have he := Ext.undrew he1
  refine ⟨AL.put im view w.heap.size, ?_, ?_, (HTu.out.mono (fun x hx => Or.inl hx)).trans ((Turn.of_ext (S := (· = w.heap.size)) he).trans ((hmm.ext he).turn_of hb3) (fun x _ hx => hx)) (fun x hx hs => absurd hs (by omega)), Or.inr ⟨_, Nat.le_refl _, HID.out, rfl⟩⟩
  · rw [HF.out]; rfl
  · rw [HF.out]
    have := tmap_store (view := view) (who := who) (HT.out.turn (Turn.of_ext (S := fun _ => False) he) (fun h => h) (fun _ _ h => h)) HN2.out HG.out (hmm.ext he) (by rw [HI2.out]; exact hrel.mono fun _ _ _ _ _ hx => hx.ext he) (by rw [HI2.out]; exact hri) hb1 hm3 hb3
    rw [HI2.out] at this
    exact this

/-- 'set' -/
theorem set_calls (r : Nat) (m : AL Told) (im : AL Nat) (view who : Int) (vv : Value) (v : Bytes) (w : World) (h : TMapAt w r m im) (hnd : (r :: AL.vals im).Nodup) (hv : BytesAt w vv v) (hlen : v.length ≤ 1000000) :
    Calls Try.prog 64 #[.map (some r), .int .i64 view, .int .i64 who, vv] w (SetPost r m im view who v w) := by
  cases hd : (AL.get? (inner m view) who).isSome with
  | true => exact set_told r m im view who vv v w h hd
  | false =>
    cases hid : AL.get? im view with
    | none => exact set_none r m im view who vv v w h hnd hv hlen hid
    | some id => exact set_some r m im view who vv v w h hnd hv hlen hid hd
end Go.Proofs.Ytkpllkjionegeaa

/- Walks: what a peer told is known, if it is new (know): prepares, commits, turns. -/
namespace Go.Proofs.Ytkpllkjionegeaa
open Go Go.RowKit

/-- what a call leaves that may turn a core -/
def CorePost (cb : Nat) (L : Lay) (w : World) (c' : Core) (r : Value) (e : Ending) (w' : World) : Prop :=
  ∃ L', e = .returned r ∧ CoreAt w' cb c' L' ∧ Moves cb L L' w w'

/-- a struct that a parameter is boxed into -/
theorem boxed (w : World) (cs : Array Value) (t : TypeId) : Ext w (w.alloc (.cells cs t)) ∧ (∀ i, (w.alloc (.cells cs t)).cell? ⟨w.heap.size, i, none⟩ = cs[i]?) ∧ (w.alloc (.cells cs t)).heap.size = w.heap.size + 1 :=
  ⟨(Ext.refl w).alloc (Nat.le_refl _) _, fun i => by simp only [World.cell?, heap_alloc_new]; rfl, Array.size_push _⟩

theorem Lay.maps_perm (L : Lay) (im : AL Nat) {view : Int} {id : Nat} (h : AL.get? im view = none) : (AL.vals (AL.put im view id)).Perm (id :: AL.vals im) := by
  simpa [AL.vals] using (AL.perm_put_new h).map (·.2)

theorem CoreAt.maps_lt {w : World} {cb : Nat} {c : Core} {L : Lay} (h : CoreAt w cb c L) : ∀ b ∈ L.maps, b < w.heap.size := by
  have hv : ∀ {r : Nat} {m : AL Told} {im : AL Nat}, TMapAt w r m im → ∀ b ∈ AL.vals im, b < w.heap.size := fun ht b hb => by
    obtain ⟨p, hp, rfl⟩ := List.mem_map.1 hb
    obtain ⟨k, i⟩ := p
    obtain ⟨t, _, hin⟩ := ht.2.2.2.fwd (AL.get?_of_mem ht.2.1 hp)
    exact hin.lt
  intro b hb
  simp only [Lay.maps, List.mem_append, List.mem_cons, List.not_mem_nil, or_false] at hb
  rcases hb with (rfl | rfl | rfl | rfl | rfl | rfl) | hb | hb | hb
  · exact h.props.lt
  · exact h.preps.lt
  · exact h.comms.lt
  · exact h.turns.lt
  · exact h.seen.1.lt
  · exact h.decs.lt
  · exact hv h.preps b hb
  · exact hv h.comms b hb
  · exact hv h.turns b hb

theorem CoreAt.maps_ne {w : World} {cb : Nat} {c : Core} {L : Lay} (h : CoreAt w cb c L) : cb ∉ L.maps := by
  intro hb
  have h1 := h.blk
  simp only [Lay.maps, List.mem_append, List.mem_cons, List.not_mem_nil, or_false] at hb
  have hm : ∀ {b : Nat} {m : AL Value}, b = cb → ¬ MapAt w b m := fun hbc ⟨es, clk, h2, _⟩ => by rw [hbc, h1] at h2; cases h2
  have hin : ∀ {b : Nat} {t : Told}, b = cb → ¬ InnerAt w b t := fun hbc ⟨m, h2, _⟩ => hm hbc h2
  have hv : ∀ {r : Nat} {m : AL Told} {im : AL Nat}, TMapAt w r m im → cb ∉ AL.vals im := fun ht hb => by
    obtain ⟨p, hp, e⟩ := List.mem_map.1 hb
    obtain ⟨k, i⟩ := p
    obtain ⟨t, _, h3⟩ := ht.2.2.2.fwd (AL.get?_of_mem ht.2.1 hp)
    exact hin e h3
  rcases hb with (e | e | e | e | e | e) | hb | hb | hb
  · obtain ⟨m, h2, _⟩ := h.props; exact hm e.symm h2
  · exact hm e.symm h.preps.1
  · exact hm e.symm h.comms.1
  · exact hm e.symm h.turns.1
  · exact hm e.symm h.seen.1
  · exact hin e.symm h.decs
  · exact hv h.preps hb
  · exact hv h.comms hb
  · exact hv h.turns hb

section
variable {w w' : World} {cb : Nat} {c : Core} {L : Lay} {view who : Int} {v : Bytes}

/-- the preps have been set -/
theorem CoreAt.set_preps (h : CoreAt w cb c L) {e : Ending} (hp : SetPost L.preps c.preps L.ip view who v w e w') :
    CorePost cb L w { c with preps := (setTold c.preps view who v).2 } (.bool (setTold c.preps view who v).1) e w' := by
  obtain ⟨im', he, hT, ht, hi⟩ := hp
  have hnd := h.nodup
  have hlt := h.maps_lt
  have hcb := h.maps_ne
  have hcl := h.lt
  have hmem : ∀ b, (b = L.preps ∨ b ∈ AL.vals L.ip) → b ∈ L.maps := fun b hb => by
    rcases hb with rfl | hb <;> simp [Lay.maps, *]
  have hnew : ∀ b, b ∈ AL.vals im' → b ∈ AL.vals L.ip ∨ w.heap.size ≤ b := fun b hb => by
    rcases hi with rfl | ⟨id, hid, hg, rfl⟩
    · exact Or.inl hb
    · rcases List.mem_cons.1 ((Lay.maps_perm L L.ip hg).mem_iff.1 hb) with e | e
      · exact Or.inr (e ▸ hid)
      · exact Or.inl e
  have hnd' : ({ L with ip := im' } : Lay).maps.Nodup := by
    rcases hi with rfl | ⟨id, hid, hg, rfl⟩
    · exact hnd
    · have hp : ({ L with ip := AL.put L.ip view id } : Lay).maps.Perm (id :: L.maps) := by
        simp only [Lay.maps]
        exact (List.Perm.append_left _ ((Lay.maps_perm L L.ip hg).append_right _)).trans List.perm_middle
      exact hp.nodup_iff.2 (List.nodup_cons.2 ⟨fun hm => by have := hlt _ hm; omega, hnd⟩)
  simp only [Lay.maps, List.cons_append, List.nil_append, List.nodup_cons, List.nodup_append, List.mem_cons, List.mem_append, not_or] at hnd
  have n1 : ¬ (cb = L.preps ∨ cb ∈ AL.vals L.ip) := fun hb => hcb (hmem _ hb)
  refine ⟨{ L with ip := im' }, he, ⟨(ht.block cb h.lt n1).trans h.blk, h.wish.turn ht, h.locked.turn ht, h.value.turn ht, h.props.turn ht ?_, hT, h.comms.turn ht ?_ ?_, h.turns.turn ht ?_ ?_, ⟨h.seen.1.kept (ht.block _ h.seen.1.lt ?_), h.seen.2⟩, h.decs.turn ht ?_, hnd', h.accV⟩,
    ⟨ht.mono (fun x hx => Or.inr (hmem x hx)), fun b hb => ?_, rfl⟩⟩
  all_goals first | grind | skip
  have := hnew b
  simp only [Lay.maps, List.cons_append, List.nil_append, List.mem_cons, List.mem_append, List.not_mem_nil, or_false] at hb ⊢
  grind

/-- the comms have been set -/
theorem CoreAt.set_comms (h : CoreAt w cb c L) {e : Ending} (hp : SetPost L.comms c.comms L.ic view who v w e w') :
    CorePost cb L w { c with comms := (setTold c.comms view who v).2 } (.bool (setTold c.comms view who v).1) e w' := by
  obtain ⟨im', he, hT, ht, hi⟩ := hp
  have hnd := h.nodup
  have hlt := h.maps_lt
  have hcb := h.maps_ne
  have hcl := h.lt
  have hmem : ∀ b, (b = L.comms ∨ b ∈ AL.vals L.ic) → b ∈ L.maps := fun b hb => by
    rcases hb with rfl | hb <;> simp [Lay.maps, *]
  have hnew : ∀ b, b ∈ AL.vals im' → b ∈ AL.vals L.ic ∨ w.heap.size ≤ b := fun b hb => by
    rcases hi with rfl | ⟨id, hid, hg, rfl⟩
    · exact Or.inl hb
    · rcases List.mem_cons.1 ((Lay.maps_perm L L.ic hg).mem_iff.1 hb) with e | e
      · exact Or.inr (e ▸ hid)
      · exact Or.inl e
  have hnd' : ({ L with ic := im' } : Lay).maps.Nodup := by
    rcases hi with rfl | ⟨id, hid, hg, rfl⟩
    · exact hnd
    · have hp : ({ L with ic := AL.put L.ic view id } : Lay).maps.Perm (id :: L.maps) := by
        simp only [Lay.maps]
        exact (List.Perm.append_left _ ((List.Perm.append_left _ ((Lay.maps_perm L L.ic hg).append_right _)).trans List.perm_middle)).trans List.perm_middle
      exact hp.nodup_iff.2 (List.nodup_cons.2 ⟨fun hm => by have := hlt _ hm; omega, hnd⟩)
  simp only [Lay.maps, List.cons_append, List.nil_append, List.nodup_cons, List.nodup_append, List.mem_cons, List.mem_append, not_or] at hnd
  have n1 : ¬ (cb = L.comms ∨ cb ∈ AL.vals L.ic) := fun hb => hcb (hmem _ hb)
  refine ⟨{ L with ic := im' }, he, ⟨(ht.block cb h.lt n1).trans h.blk, h.wish.turn ht, h.locked.turn ht, h.value.turn ht, h.props.turn ht ?_, h.preps.turn ht ?_ ?_, hT, h.turns.turn ht ?_ ?_, ⟨h.seen.1.kept (ht.block _ h.seen.1.lt ?_), h.seen.2⟩, h.decs.turn ht ?_, hnd', h.accV⟩,
    ⟨ht.mono (fun x hx => Or.inr (hmem x hx)), fun b hb => ?_, rfl⟩⟩
  all_goals first | grind | skip
  have := hnew b
  simp only [Lay.maps, List.cons_append, List.nil_append, List.mem_cons, List.mem_append, List.not_mem_nil, or_false] at hb ⊢
  grind

/-- the turns have been set -/
theorem CoreAt.set_turns (h : CoreAt w cb c L) {e : Ending} (hp : SetPost L.turns c.turns L.it view who v w e w') :
    CorePost cb L w { c with turns := (setTold c.turns view who v).2 } (.bool (setTold c.turns view who v).1) e w' := by
  obtain ⟨im', he, hT, ht, hi⟩ := hp
  have hnd := h.nodup
  have hlt := h.maps_lt
  have hcb := h.maps_ne
  have hcl := h.lt
  have hmem : ∀ b, (b = L.turns ∨ b ∈ AL.vals L.it) → b ∈ L.maps := fun b hb => by
    rcases hb with rfl | hb <;> simp [Lay.maps, *]
  have hnew : ∀ b, b ∈ AL.vals im' → b ∈ AL.vals L.it ∨ w.heap.size ≤ b := fun b hb => by
    rcases hi with rfl | ⟨id, hid, hg, rfl⟩
    · exact Or.inl hb
    · rcases List.mem_cons.1 ((Lay.maps_perm L L.it hg).mem_iff.1 hb) with e | e
      · exact Or.inr (e ▸ hid)
      · exact Or.inl e
  have hnd' : ({ L with it := im' } : Lay).maps.Nodup := by
    rcases hi with rfl | ⟨id, hid, hg, rfl⟩
    · exact hnd
    · have hp : ({ L with it := AL.put L.it view id } : Lay).maps.Perm (id :: L.maps) := by
        simp only [Lay.maps]
        exact (List.Perm.append_left _ ((List.Perm.append_left _ ((List.Perm.append_left _ (Lay.maps_perm L L.it hg)).trans List.perm_middle)).trans List.perm_middle)).trans List.perm_middle
      exact hp.nodup_iff.2 (List.nodup_cons.2 ⟨fun hm => by have := hlt _ hm; omega, hnd⟩)
  simp only [Lay.maps, List.cons_append, List.nil_append, List.nodup_cons, List.nodup_append, List.mem_cons, List.mem_append, not_or] at hnd
  have n1 : ¬ (cb = L.turns ∨ cb ∈ AL.vals L.it) := fun hb => hcb (hmem _ hb)
  refine ⟨{ L with it := im' }, he, ⟨(ht.block cb h.lt n1).trans h.blk, h.wish.turn ht, h.locked.turn ht, h.value.turn ht, h.props.turn ht ?_, h.preps.turn ht ?_ ?_, h.comms.turn ht ?_ ?_, hT, ⟨h.seen.1.kept (ht.block _ h.seen.1.lt ?_), h.seen.2⟩, h.decs.turn ht ?_, hnd', h.accV⟩,
    ⟨ht.mono (fun x hx => Or.inr (hmem x hx)), fun b hb => ?_, rfl⟩⟩
  all_goals first | grind | skip
  have := hnew b
  simp only [Lay.maps, List.cons_append, List.nil_append, List.mem_cons, List.mem_append, List.not_mem_nil, or_false] at hb ⊢
  grind

/-- the proposals have been written -/
theorem CoreAt.set_props (h : CoreAt w cb c L) {mm : AL Value} (hm : MapAt w L.props mm) (hr : ARel (fun v q => ∃ x, v = .agg #[x, .int .i64 q.2] ∧ BytesAt w x q.1) mm c.props) (hri : AL.Rising c.props)
    {x : Value} {valid : Int} (hx : BytesAt w x v) (hw : MapAt w' L.props (AL.put mm view (.agg #[x, .int .i64 valid]))) (hb : But L.props w w') :
    CoreAt w' cb { c with props := AL.put c.props view (v, valid) } L ∧ Moves cb L L w w' := by
  have ht := hm.turn_of hb
  have hnd := h.nodup
  have hcb := h.maps_ne
  have hmem : L.props ∈ L.maps := by simp [Lay.maps]
  simp only [Lay.maps, List.cons_append, List.nil_append, List.nodup_cons, List.nodup_append, List.mem_cons, List.mem_append, not_or] at hnd
  have n1 : ¬ (cb = L.props) := fun hb => hcb (hb ▸ hmem)
  refine ⟨⟨(ht.block cb h.lt n1).trans h.blk, h.wish.turn ht, h.locked.turn ht, h.value.turn ht, ⟨_, hw, AL.rising_put hri, (hr.mono fun _ _ _ _ _ ⟨y, h1, h2⟩ => ⟨y, h1, h2.turn ht⟩).store hm.rising hri view ⟨x, rfl, hx.turn ht⟩⟩,
    h.preps.turn ht ?_ ?_, h.comms.turn ht ?_ ?_, h.turns.turn ht ?_ ?_, ⟨h.seen.1.kept (ht.block _ h.seen.1.lt ?_), h.seen.2⟩, h.decs.turn ht ?_, h.nodup, h.accV⟩, ⟨ht.mono (fun x hx => Or.inr (hx ▸ hmem)), fun b hb => Or.inl hb, rfl⟩⟩
  all_goals grind

/-- the deciders have been written -/
theorem CoreAt.set_decs (h : CoreAt w cb c L) {mm : AL Value} (hm : MapAt w L.decs mm) (hr : ARel (BytesAt w) mm c.decs) (hri : AL.Rising c.decs)
    {x : Value} (hx : BytesAt w x v) (hw : MapAt w' L.decs (AL.put mm who x)) (hb : But L.decs w w') :
    CoreAt w' cb { c with decs := AL.put c.decs who v } L ∧ Moves cb L L w w' := by
  have ht := hm.turn_of hb
  have hnd := h.nodup
  have hcb := h.maps_ne
  have hmem : L.decs ∈ L.maps := by simp [Lay.maps]
  simp only [Lay.maps, List.cons_append, List.nil_append, List.nodup_cons, List.nodup_append, List.mem_cons, List.mem_append, not_or] at hnd
  have n1 : ¬ (cb = L.decs) := fun hb => hcb (hb ▸ hmem)
  refine ⟨⟨(ht.block cb h.lt n1).trans h.blk, h.wish.turn ht, h.locked.turn ht, h.value.turn ht, h.props.turn ht ?_,
    h.preps.turn ht ?_ ?_, h.comms.turn ht ?_ ?_, h.turns.turn ht ?_ ?_, ⟨h.seen.1.kept (ht.block _ h.seen.1.lt ?_), h.seen.2⟩, ⟨_, hw, AL.rising_put hri, (hr.mono fun _ _ _ _ _ h2 => h2.turn ht).store hm.rising hri who (hx.turn ht)⟩, h.nodup, h.accV⟩, ⟨ht.mono (fun x hx => Or.inr (hx ▸ hmem)), fun b hb => Or.inl hb, rfl⟩⟩
  all_goals grind

/-- what has been seen has been written -/
theorem CoreAt.set_seen (h : CoreAt w cb c L) {x : Int} (hw : MapAt w' L.seen (AL.put (AL.mapVal (.int .i64) c.seen) who (.int .i64 x))) (hb : But L.seen w w') :
    CoreAt w' cb { c with seen := AL.put c.seen who x } L ∧ Moves cb L L w w' := by
  have ht := h.seen.1.turn_of hb
  have hnd := h.nodup
  have hcb := h.maps_ne
  have hmem : L.seen ∈ L.maps := by simp [Lay.maps]
  simp only [Lay.maps, List.cons_append, List.nil_append, List.nodup_cons, List.nodup_append, List.mem_cons, List.mem_append, not_or] at hnd
  have n1 : ¬ (cb = L.seen) := fun hb => hcb (hb ▸ hmem)
  refine ⟨⟨(ht.block cb h.lt n1).trans h.blk, h.wish.turn ht, h.locked.turn ht, h.value.turn ht, h.props.turn ht ?_,
    h.preps.turn ht ?_ ?_, h.comms.turn ht ?_ ?_, h.turns.turn ht ?_ ?_, ⟨by rw [AL.mapVal_put]; exact hw, AL.rising_put h.seen.2⟩, h.decs.turn ht ?_, h.nodup, h.accV⟩, ⟨ht.mono (fun x hx => Or.inr (hx ▸ hmem)), fun b hb => Or.inl hb, rfl⟩⟩
  all_goals grind

/-- cells of the core's own block have been written -/
theorem CoreAt.set_cells (h : CoreAt w cb c L) {c' : Core} {L' : Lay} (hb : w'.heap[cb]? = some (.cells (coreCells c' L') 71 (0, 0))) (ht : Turn (· = cb) w w') (hm : L'.maps = L.maps) (hacc : L'.acc = L.acc)
    (h1 : BytesAt w' L'.wish c'.wish) (h2 : BytesAt w' L'.locked c'.locked) (h3 : BytesAt w' L'.value c'.value)
    (hc : c'.props = c.props ∧ c'.preps = c.preps ∧ c'.comms = c.comms ∧ c'.turns = c.turns ∧ c'.seen = c.seen ∧ c'.decs = c.decs)
    (hl : L'.props = L.props ∧ L'.preps = L.preps ∧ L'.comms = L.comms ∧ L'.turns = L.turns ∧ L'.seen = L.seen ∧ L'.decs = L.decs ∧ L'.ip = L.ip ∧ L'.ic = L.ic ∧ L'.it = L.it) :
    CoreAt w' cb c' L' ∧ Moves cb L L' w w' := by
  obtain ⟨a1, a2, a3, a4, a5, a6⟩ := hc
  obtain ⟨b1, b2, b3, b4, b5, b6, b7, b8, b9⟩ := hl
  have hcb := h.maps_ne
  have hn : ∀ b, b ∈ L.maps → ¬ b = cb := fun b hb e => hcb (e ▸ hb)
  refine ⟨⟨hb, h1, h2, h3, ?_, ?_, ?_, ?_, ?_, ?_, by rw [hm]; exact h.nodup, by rw [hacc]; exact h.accV⟩, ⟨ht.mono (fun x hx => Or.inl hx), fun b hb => Or.inl (hm ▸ hb), hacc⟩⟩
  · rw [a1, b1]; exact h.props.turn ht (hn _ (by simp [Lay.maps]))
  · rw [a2, b2, b7]; exact h.preps.turn ht (hn _ (by simp [Lay.maps])) (fun i hi => hn i (by simp [Lay.maps, hi]))
  · rw [a3, b3, b8]; exact h.comms.turn ht (hn _ (by simp [Lay.maps])) (fun i hi => hn i (by simp [Lay.maps, hi]))
  · rw [a4, b4, b9]; exact h.turns.turn ht (hn _ (by simp [Lay.maps])) (fun i hi => hn i (by simp [Lay.maps, hi]))
  · rw [a5, b5]; exact ⟨h.seen.1.kept (ht.block _ h.seen.1.lt (hn _ (by simp [Lay.maps]))), h.seen.2⟩
  · rw [a6, b6]; exact h.decs.turn ht (hn _ (by simp [Lay.maps]))

theorem BytesAt.not_u8 {l : Bytes} {u : Value} (h : BytesAt w u l) : ∀ x, u ≠ .int .u8 x := by
  obtain ⟨a, cap, rfl, _⟩ := h
  intro x h; cases h

theorem CoreAt.not_u8 (h : CoreAt w cb c L) {i : Nat} {u : Value} (hi : (coreCells c L)[i]? = some u) : ∀ x, u ≠ .int .u8 x := by
  have hm : u ∈ coreCells c L := Array.mem_of_getElem? hi
  simp only [coreCells, List.mem_toArray, List.mem_cons, List.not_mem_nil, or_false] at hm
  intro x hx
  subst hx
  rcases hm with e | e | e | e | e | e | e | e | e | e | e | e | e | e | e | e | e
  all_goals first | cases e | exact h.accV x e.symm | exact h.wish.not_u8 x e.symm | exact h.locked.not_u8 x e.symm | exact h.value.not_u8 x e.symm

theorem heap_setCell_same {w : World} {b i : Nat} {cs : Array Value} {t : TypeId} {fr : Nat × Nat} (h : w.heap[b]? = some (.cells cs t fr)) (v : Value) : (w.setCell ⟨b, i, none⟩ v).heap[b]? = some (.cells (cs.setIfInBounds i v) t fr) := by
  simp [World.setCell, Array.getElem?_modify, h]

/-- one cell of a core's block is written -/
theorem cells_store {w : World} {b i : Nat} {cs : Array Value} {t : TypeId} {fr : Nat × Nat} (h : w.heap[b]? = some (.cells cs t fr)) (v : Value) {u : Value} (hi : cs[i]? = some u) (hu : ∀ x, u ≠ .int .u8 x) :
    (w.setCell ⟨b, i, none⟩ v).heap[b]? = some (.cells (cs.setIfInBounds i v) t fr) ∧ Turn (· = b) w (w.setCell ⟨b, i, none⟩ v) :=
  ⟨heap_setCell_same h v, Turn.setCell (u := u) (by simp [World.cell?, h, hi]) hu⟩

end
end Go.Proofs.Ytkpllkjionegeaa

/- Walks: what a peer told is known, if it is new (know). -/
namespace Go.Proofs.Ytkpllkjionegeaa
open Go Go.RowKit

/-- a vote's cells -/
def voteCells (v : Vote) (vv : Value) : Array Value := #[.int .i64 v.kind, .int .i64 v.frm, .int .i64 v.slot, .int .i64 v.view, .int .i64 v.valid, vv]


theorem CoreAt.nodup_preps {w : World} {cb : Nat} {c : Core} {L : Lay} (h : CoreAt w cb c L) : (L.preps :: AL.vals L.ip).Nodup := by
  have hnd := h.nodup
  simp only [Lay.maps, List.cons_append, List.nil_append, List.nodup_cons, List.nodup_append, List.mem_cons, List.mem_append, not_or] at hnd
  exact List.nodup_cons.2 ⟨by grind, by grind⟩
theorem CoreAt.nodup_comms {w : World} {cb : Nat} {c : Core} {L : Lay} (h : CoreAt w cb c L) : (L.comms :: AL.vals L.ic).Nodup := by
  have hnd := h.nodup
  simp only [Lay.maps, List.cons_append, List.nil_append, List.nodup_cons, List.nodup_append, List.mem_cons, List.mem_append, not_or] at hnd
  exact List.nodup_cons.2 ⟨by grind, by grind⟩
theorem CoreAt.nodup_turns {w : World} {cb : Nat} {c : Core} {L : Lay} (h : CoreAt w cb c L) : (L.turns :: AL.vals L.it).Nodup := by
  have hnd := h.nodup
  simp only [Lay.maps, List.cons_append, List.nil_append, List.nodup_cons, List.nodup_append, List.mem_cons, List.mem_append, not_or] at hnd
  exact List.nodup_cons.2 ⟨by grind, by grind⟩


set_option maxRecDepth 100000 in
set_option maxHeartbeats 400000 in
theorem know_prepare (cb : Nat) (c : Core) (L : Lay) (frm slot view valid : Int) (value : Bytes) (vv : Value) (w : World) (hc : CoreAt w cb c L) (hv : BytesAt w vv value) (hlen : value.length ≤ 1000000) :
    Calls Try.prog 39 #[.pointer (some ⟨cb, 0, none⟩), .agg (voteCells ⟨2, frm, slot, view, valid, value⟩ vv)] w (CorePost cb L w (c.know ⟨2, frm, slot, view, valid, value⟩).2 (.bool (c.know ⟨2, frm, slot, view, valid, value⟩).1)) := by
  have hbox := boxed w (voteCells ⟨2, frm, slot, view, valid, value⟩ vv) 28; obtain ⟨W, hW⟩ : ∃ W, W = w.alloc (.cells (voteCells ⟨2, frm, slot, view, valid, value⟩ vv) 28) := ⟨_, rfl⟩; rw [← hW] at hbox; obtain ⟨hx, hcells, hsz⟩ := hbox; have hcW := hc.ext hx; have hvW := hv.ext hx; have hlt := hc.lt; have hlt2 := hcW.lt; have hvb : w.heap.size < W.heap.size := by omega
  have v1 : W.cell? ⟨w.heap.size, 1, none⟩ = some (.int .i64 frm) := hcells 1; have v3 : W.cell? ⟨w.heap.size, 3, none⟩ = some (.int .i64 view) := hcells 3; have v4 : W.cell? ⟨w.heap.size, 4, none⟩ = some (.int .i64 valid) := hcells 4; have v5 : W.cell? ⟨w.heap.size, 5, none⟩ = some vv := hcells 5
  have c8 := hcW.c8
  have HW : Hid (CoreAt W.drew cb c L) := Lib.hid (hcW.ext (Ext.refl W).drew)
  have HV : Hid (BytesAt W.drew vv value) := Lib.hid (hvW.ext (Ext.refl W).drew)
  have HL := Lib.hid hlen
  have HX := Lib.hid hx
  have HWE := Lib.hid hW
  clear hlen hc hv hcW hvW hcells hx hsz hW
  go_enter Try.func39, Try.ntmps39
  unfold voteCells at *
  go_wp2
  rw [← HWE.out]
  refine wp_region_T [10] (.pure 0 (.pure 1 (.pure 2 (.pure 4 (.pure 6 (.pure 8 (.take 3 (.take 5 (.take 7 (.take 9 (.one 10 (.pure 11 .nil)))))))))))) (by kernel_rfl) (by kernel_rfl) ?_
  iterate 6 (refine' wpT_pure rfl rfl (fun w' => ?_) ?_; rotate_left 1; (focus ((try go_simp); (try go_bits); (first | done | with_reducible rfl))); simp only [Act.put, List.setIfInBounds_toArray, List.set_cons_zero, List.set_cons_succ])
  iterate 4 (first | (refine' wpT_take_dddd rfl rfl (fun w' hc hl hsz => ?_) ?_; rotate_left 1; (focus ((try go_simp); (try go_bits); (first | done | with_reducible rfl))); simp only [Act.put, List.setIfInBounds_toArray, List.set_cons_zero, List.set_cons_succ]) | (refine' wpT_take_ddd rfl rfl (fun w' hc hl hsz => ?_) ?_; rotate_left 1; (focus ((try go_simp); (try go_bits); (first | done | with_reducible rfl))); simp only [Act.put, List.setIfInBounds_toArray, List.set_cons_zero, List.set_cons_succ]) | (refine' wpT_take_dd rfl rfl (fun w' hc hl hsz => ?_) ?_; rotate_left 1; (focus ((try go_simp); (try go_bits); (first | done | with_reducible rfl))); simp only [Act.put, List.setIfInBounds_toArray, List.set_cons_zero, List.set_cons_succ]) | (refine' wpT_take_d rfl rfl (fun w' hc hl hsz => ?_) ?_; rotate_left 1; (focus ((try go_simp); (try go_bits); (first | done | with_reducible rfl))); simp only [Act.put, List.setIfInBounds_toArray, List.set_cons_zero, List.set_cons_succ]))
  refine wpT_writer rfl rfl (by decide) (fun K hK => ?_)
  go_wp2_with (go_at_call 64; refine (set_calls L.preps c.preps L.ip view frm vv value _ HW.out.preps HW.out.nodup_preps HV.out HL.out).mono ?_; rintro e w2 hp; obtain ⟨L', rfl, hC, hM⟩ := CoreAt.set_preps HW.out hp)
  first | (refine hK _ _ ?_; clear hK K) | skip
  (refine' wpT_pure rfl rfl (fun w' => ?_) ?_; rotate_left 1; (focus ((try go_simp); (try go_bits); (first | done | with_reducible rfl))); simp only [Act.put, List.setIfInBounds_toArray, List.set_cons_zero, List.set_cons_succ])
  refine wpT_nil ?_
  go_wp2
  go_ret
  exact ⟨L', rfl, hC, (Moves.of_ext (HX.out.trans (Ext.refl W).drew)).trans hM⟩

set_option maxRecDepth 100000 in
set_option maxHeartbeats 400000 in
theorem know_commit (cb : Nat) (c : Core) (L : Lay) (frm slot view valid : Int) (value : Bytes) (vv : Value) (w : World) (hc : CoreAt w cb c L) (hv : BytesAt w vv value) (hlen : value.length ≤ 1000000) :
    Calls Try.prog 39 #[.pointer (some ⟨cb, 0, none⟩), .agg (voteCells ⟨3, frm, slot, view, valid, value⟩ vv)] w (CorePost cb L w (c.know ⟨3, frm, slot, view, valid, value⟩).2 (.bool (c.know ⟨3, frm, slot, view, valid, value⟩).1)) := by
  have hbox := boxed w (voteCells ⟨3, frm, slot, view, valid, value⟩ vv) 28; obtain ⟨W, hW⟩ : ∃ W, W = w.alloc (.cells (voteCells ⟨3, frm, slot, view, valid, value⟩ vv) 28) := ⟨_, rfl⟩; rw [← hW] at hbox; obtain ⟨hx, hcells, hsz⟩ := hbox; have hcW := hc.ext hx; have hvW := hv.ext hx; have hlt := hc.lt; have hlt2 := hcW.lt; have hvb : w.heap.size < W.heap.size := by omega
  have v1 : W.cell? ⟨w.heap.size, 1, none⟩ = some (.int .i64 frm) := hcells 1; have v3 : W.cell? ⟨w.heap.size, 3, none⟩ = some (.int .i64 view) := hcells 3; have v4 : W.cell? ⟨w.heap.size, 4, none⟩ = some (.int .i64 valid) := hcells 4; have v5 : W.cell? ⟨w.heap.size, 5, none⟩ = some vv := hcells 5
  have c9 := hcW.c9
  have HW : Hid (CoreAt W.drew cb c L) := Lib.hid (hcW.ext (Ext.refl W).drew)
  have HV : Hid (BytesAt W.drew vv value) := Lib.hid (hvW.ext (Ext.refl W).drew)
  have HL := Lib.hid hlen
  have HX := Lib.hid hx
  have HWE := Lib.hid hW
  clear hlen hc hv hcW hvW hcells hx hsz hW
  go_enter Try.func39, Try.ntmps39
  unfold voteCells at *
  go_wp2
  rw [← HWE.out]
  refine wp_region_T [10] (.pure 0 (.pure 1 (.pure 2 (.pure 4 (.pure 6 (.pure 8 (.take 3 (.take 5 (.take 7 (.take 9 (.one 10 (.pure 11 .nil)))))))))))) (by kernel_rfl) (by kernel_rfl) ?_
  iterate 6 (refine' wpT_pure rfl rfl (fun w' => ?_) ?_; rotate_left 1; (focus ((try go_simp); (try go_bits); (first | done | with_reducible rfl))); simp only [Act.put, List.setIfInBounds_toArray, List.set_cons_zero, List.set_cons_succ])
  iterate 4 (first | (refine' wpT_take_dddd rfl rfl (fun w' hc hl hsz => ?_) ?_; rotate_left 1; (focus ((try go_simp); (try go_bits); (first | done | with_reducible rfl))); simp only [Act.put, List.setIfInBounds_toArray, List.set_cons_zero, List.set_cons_succ]) | (refine' wpT_take_ddd rfl rfl (fun w' hc hl hsz => ?_) ?_; rotate_left 1; (focus ((try go_simp); (try go_bits); (first | done | with_reducible rfl))); simp only [Act.put, List.setIfInBounds_toArray, List.set_cons_zero, List.set_cons_succ]) | (refine' wpT_take_dd rfl rfl (fun w' hc hl hsz => ?_) ?_; rotate_left 1; (focus ((try go_simp); (try go_bits); (first | done | with_reducible rfl))); simp only [Act.put, List.setIfInBounds_toArray, List.set_cons_zero, List.set_cons_succ]) | (refine' wpT_take_d rfl rfl (fun w' hc hl hsz => ?_) ?_; rotate_left 1; (focus ((try go_simp); (try go_bits); (first | done | with_reducible rfl))); simp only [Act.put, List.setIfInBounds_toArray, List.set_cons_zero, List.set_cons_succ]))
  refine wpT_writer rfl rfl (by decide) (fun K hK => ?_)
  go_wp2_with (go_at_call 64; refine (set_calls L.comms c.comms L.ic view frm vv value _ HW.out.comms HW.out.nodup_comms HV.out HL.out).mono ?_; rintro e w2 hp; obtain ⟨L', rfl, hC, hM⟩ := CoreAt.set_comms HW.out hp)
  first | (refine hK _ _ ?_; clear hK K) | skip
  (refine' wpT_pure rfl rfl (fun w' => ?_) ?_; rotate_left 1; (focus ((try go_simp); (try go_bits); (first | done | with_reducible rfl))); simp only [Act.put, List.setIfInBounds_toArray, List.set_cons_zero, List.set_cons_succ])
  refine wpT_nil ?_
  go_wp2
  go_ret
  exact ⟨L', rfl, hC, (Moves.of_ext (HX.out.trans (Ext.refl W).drew)).trans hM⟩

set_option maxRecDepth 100000 in
set_option maxHeartbeats 400000 in
theorem know_turn (cb : Nat) (c : Core) (L : Lay) (frm slot view valid : Int) (value : Bytes) (vv : Value) (w : World) (hc : CoreAt w cb c L) (hv : BytesAt w vv value) (hlen : value.length ≤ 1000000) :
    Calls Try.prog 39 #[.pointer (some ⟨cb, 0, none⟩), .agg (voteCells ⟨5, frm, slot, view, valid, value⟩ vv)] w (CorePost cb L w (c.know ⟨5, frm, slot, view, valid, value⟩).2 (.bool (c.know ⟨5, frm, slot, view, valid, value⟩).1)) := by
  have hbox := boxed w (voteCells ⟨5, frm, slot, view, valid, value⟩ vv) 28; obtain ⟨W, hW⟩ : ∃ W, W = w.alloc (.cells (voteCells ⟨5, frm, slot, view, valid, value⟩ vv) 28) := ⟨_, rfl⟩; rw [← hW] at hbox; obtain ⟨hx, hcells, hsz⟩ := hbox; have hcW := hc.ext hx; have hvW := hv.ext hx; have hlt := hc.lt; have hlt2 := hcW.lt; have hvb : w.heap.size < W.heap.size := by omega
  have v1 : W.cell? ⟨w.heap.size, 1, none⟩ = some (.int .i64 frm) := hcells 1; have v3 : W.cell? ⟨w.heap.size, 3, none⟩ = some (.int .i64 view) := hcells 3; have v4 : W.cell? ⟨w.heap.size, 4, none⟩ = some (.int .i64 valid) := hcells 4; have v5 : W.cell? ⟨w.heap.size, 5, none⟩ = some vv := hcells 5
  have c10 := hcW.c10
  have HW : Hid (CoreAt W.drew cb c L) := Lib.hid (hcW.ext (Ext.refl W).drew)
  have HV : Hid (BytesAt W.drew vv value) := Lib.hid (hvW.ext (Ext.refl W).drew)
  have HL := Lib.hid hlen
  have HX := Lib.hid hx
  have HWE := Lib.hid hW
  clear hlen hc hv hcW hvW hcells hx hsz hW
  go_enter Try.func39, Try.ntmps39
  unfold voteCells at *
  go_wp2
  rw [← HWE.out]
  refine wp_region_T [10] (.pure 0 (.pure 1 (.pure 2 (.pure 4 (.pure 6 (.pure 8 (.take 3 (.take 5 (.take 7 (.take 9 (.one 10 (.pure 11 .nil)))))))))))) (by kernel_rfl) (by kernel_rfl) ?_
  iterate 6 (refine' wpT_pure rfl rfl (fun w' => ?_) ?_; rotate_left 1; (focus ((try go_simp); (try go_bits); (first | done | with_reducible rfl))); simp only [Act.put, List.setIfInBounds_toArray, List.set_cons_zero, List.set_cons_succ])
  iterate 4 (first | (refine' wpT_take_dddd rfl rfl (fun w' hc hl hsz => ?_) ?_; rotate_left 1; (focus ((try go_simp); (try go_bits); (first | done | with_reducible rfl))); simp only [Act.put, List.setIfInBounds_toArray, List.set_cons_zero, List.set_cons_succ]) | (refine' wpT_take_ddd rfl rfl (fun w' hc hl hsz => ?_) ?_; rotate_left 1; (focus ((try go_simp); (try go_bits); (first | done | with_reducible rfl))); simp only [Act.put, List.setIfInBounds_toArray, List.set_cons_zero, List.set_cons_succ]) | (refine' wpT_take_dd rfl rfl (fun w' hc hl hsz => ?_) ?_; rotate_left 1; (focus ((try go_simp); (try go_bits); (first | done | with_reducible rfl))); simp only [Act.put, List.setIfInBounds_toArray, List.set_cons_zero, List.set_cons_succ]) | (refine' wpT_take_d rfl rfl (fun w' hc hl hsz => ?_) ?_; rotate_left 1; (focus ((try go_simp); (try go_bits); (first | done | with_reducible rfl))); simp only [Act.put, List.setIfInBounds_toArray, List.set_cons_zero, List.set_cons_succ]))
  refine wpT_writer rfl rfl (by decide) (fun K hK => ?_)
  go_wp2_with (go_at_call 64; refine (set_calls L.turns c.turns L.it view frm vv value _ HW.out.turns HW.out.nodup_turns HV.out HL.out).mono ?_; rintro e w2 hp; obtain ⟨L', rfl, hC, hM⟩ := CoreAt.set_turns HW.out hp)
  first | (refine hK _ _ ?_; clear hK K) | skip
  (refine' wpT_pure rfl rfl (fun w' => ?_) ?_; rotate_left 1; (focus ((try go_simp); (try go_bits); (first | done | with_reducible rfl))); simp only [Act.put, List.setIfInBounds_toArray, List.set_cons_zero, List.set_cons_succ])
  refine wpT_nil ?_
  go_wp2
  go_ret
  exact ⟨L', rfl, hC, (Moves.of_ext (HX.out.trans (Ext.refl W).drew)).trans hM⟩
end Go.Proofs.Ytkpllkjionegeaa

/- Walks: what a peer told is known, if it is new (know): decisions and proposals. -/
namespace Go.Proofs.Ytkpllkjionegeaa
open Go Go.RowKit


set_option maxRecDepth 100000 in
set_option maxHeartbeats 400000 in
theorem know_decided_old (cb : Nat) (c : Core) (L : Lay) (frm slot view valid : Int) (value : Bytes) (vv : Value) (w : World) (hc : CoreAt w cb c L) (hv : BytesAt w vv value) (hlen : value.length ≤ 1000000) (hd : (AL.get? c.decs frm).isSome = true) :
    Calls Try.prog 39 #[.pointer (some ⟨cb, 0, none⟩), .agg (voteCells ⟨4, frm, slot, view, valid, value⟩ vv)] w (CorePost cb L w (c.know ⟨4, frm, slot, view, valid, value⟩).2 (.bool (c.know ⟨4, frm, slot, view, valid, value⟩).1)) := by
  have HF := Lib.hid (show c.know ⟨4, frm, slot, view, valid, value⟩ = (false, c) by simp [Core.know, hd])
  have hbox := boxed w (voteCells ⟨4, frm, slot, view, valid, value⟩ vv) 28; obtain ⟨W, hW⟩ : ∃ W, W = w.alloc (.cells (voteCells ⟨4, frm, slot, view, valid, value⟩ vv) 28) := ⟨_, rfl⟩; rw [← hW] at hbox; obtain ⟨hx, hcells, hsz⟩ := hbox; have hcW := hc.ext hx; have hvW := hv.ext hx; have hlt := hc.lt; have hlt2 := hcW.lt; have hvb : w.heap.size < W.heap.size := by omega
  have v1 : W.cell? ⟨w.heap.size, 1, none⟩ = some (.int .i64 frm) := hcells 1; have v3 : W.cell? ⟨w.heap.size, 3, none⟩ = some (.int .i64 view) := hcells 3; have v4 : W.cell? ⟨w.heap.size, 4, none⟩ = some (.int .i64 valid) := hcells 4; have v5 : W.cell? ⟨w.heap.size, 5, none⟩ = some vv := hcells 5
  have c12 := hcW.c12
  have hdl := hcW.decs.lt
  obtain ⟨x, hx1, _, _⟩ := inner_look hcW.decs frm
  rw [hd] at hx1
  have HW := Lib.hid hcW; have HV := Lib.hid hvW; have HL := Lib.hid hlen; have HX := Lib.hid hx; have HWE := Lib.hid hW; clear hlen hc hv hcW hvW hcells hx hsz hW
  clear hd
  go_enter Try.func39, Try.ntmps39
  unfold voteCells at *
  go_wp2
  rw [← HWE.out]
  refine wp_region_T [] (.pure 0 (.pure 1 (.pure 2 (.pure 4 (.take 3 (.take 5 (.take 6 (.pure 7 (.pure 8 (.pure 9 (.pure 10 (.pure 11 .nil)))))))))))) (by kernel_rfl) (by kernel_rfl) ?_
  iterate 4 (refine' wpT_pure rfl rfl (fun w' => ?_) ?_; rotate_left 1; (focus ((try go_simp); (try go_bits); (first | done | with_reducible rfl))); simp only [Act.put, List.setIfInBounds_toArray, List.set_cons_zero, List.set_cons_succ])
  iterate 3 (first | (refine' wpT_take_dddd rfl rfl (fun w' hc hl hsz => ?_) ?_; rotate_left 1; (focus ((try go_simp); (try go_bits); (first | done | with_reducible rfl))); simp only [Act.put, List.setIfInBounds_toArray, List.set_cons_zero, List.set_cons_succ]) | (refine' wpT_take_ddd rfl rfl (fun w' hc hl hsz => ?_) ?_; rotate_left 1; (focus ((try go_simp); (try go_bits); (first | done | with_reducible rfl))); simp only [Act.put, List.setIfInBounds_toArray, List.set_cons_zero, List.set_cons_succ]) | (refine' wpT_take_dd rfl rfl (fun w' hc hl hsz => ?_) ?_; rotate_left 1; (focus ((try go_simp); (try go_bits); (first | done | with_reducible rfl))); simp only [Act.put, List.setIfInBounds_toArray, List.set_cons_zero, List.set_cons_succ]) | (refine' wpT_take_d rfl rfl (fun w' hc hl hsz => ?_) ?_; rotate_left 1; (focus ((try go_simp); (try go_bits); (first | done | with_reducible rfl))); simp only [Act.put, List.setIfInBounds_toArray, List.set_cons_zero, List.set_cons_succ]))
  iterate 5 (refine' wpT_pure rfl rfl (fun w' => ?_) ?_; rotate_left 1; (focus ((try go_simp); (try go_bits); (first | done | with_reducible rfl))); simp only [Act.put, List.setIfInBounds_toArray, List.set_cons_zero, List.set_cons_succ])
  refine wpT_nil ?_
  go_wp2
  go_ret
  have he := HX.out.trans (Ext.refl W).drew
  refine ⟨L, ?_, ?_, Moves.of_ext he⟩
  · rw [HF.out]; rfl
  · rw [HF.out]; exact HW.out.ext (Ext.refl W).drew

set_option maxRecDepth 100000 in
set_option maxHeartbeats 400000 in
theorem know_decided_new (cb : Nat) (c : Core) (L : Lay) (frm slot view valid : Int) (value : Bytes) (vv : Value) (w : World) (hc : CoreAt w cb c L) (hv : BytesAt w vv value) (hlen : value.length ≤ 1000000) (hd : (AL.get? c.decs frm).isSome = false) :
    Calls Try.prog 39 #[.pointer (some ⟨cb, 0, none⟩), .agg (voteCells ⟨4, frm, slot, view, valid, value⟩ vv)] w (CorePost cb L w (c.know ⟨4, frm, slot, view, valid, value⟩).2 (.bool (c.know ⟨4, frm, slot, view, valid, value⟩).1)) := by
  have HF := Lib.hid (show c.know ⟨4, frm, slot, view, valid, value⟩ = (true, { c with decs := AL.put c.decs frm value }) by simp [Core.know, hd])
  have hbox := boxed w (voteCells ⟨4, frm, slot, view, valid, value⟩ vv) 28; obtain ⟨W, hW⟩ : ∃ W, W = w.alloc (.cells (voteCells ⟨4, frm, slot, view, valid, value⟩ vv) 28) := ⟨_, rfl⟩; rw [← hW] at hbox; obtain ⟨hx, hcells, hsz⟩ := hbox; have hcW := hc.ext hx; have hvW := hv.ext hx; have hlt := hc.lt; have hlt2 := hcW.lt; have hvb : w.heap.size < W.heap.size := by omega
  have v1 : W.cell? ⟨w.heap.size, 1, none⟩ = some (.int .i64 frm) := hcells 1; have v3 : W.cell? ⟨w.heap.size, 3, none⟩ = some (.int .i64 view) := hcells 3; have v4 : W.cell? ⟨w.heap.size, 4, none⟩ = some (.int .i64 valid) := hcells 4; have v5 : W.cell? ⟨w.heap.size, 5, none⟩ = some vv := hcells 5
  have c12 := hcW.c12
  have hdl := hcW.decs.lt
  obtain ⟨x, hx1, _, _⟩ := inner_look hcW.decs frm
  rw [hd] at hx1
  have HW := Lib.hid hcW; have HV := Lib.hid hvW; have HL := Lib.hid hlen; have HX := Lib.hid hx; have HWE := Lib.hid hW; clear hlen hc hv hcW hvW hcells hx hsz hW
  clear hd
  go_enter Try.func39, Try.ntmps39
  unfold voteCells at *
  go_wp2
  rw [← HWE.out]
  refine wp_region_T [] (.pure 0 (.pure 1 (.pure 2 (.pure 4 (.take 3 (.take 5 (.take 6 (.pure 7 (.pure 8 (.pure 9 (.pure 10 (.pure 11 .nil)))))))))))) (by kernel_rfl) (by kernel_rfl) ?_
  iterate 4 (refine' wpT_pure rfl rfl (fun w' => ?_) ?_; rotate_left 1; (focus ((try go_simp); (try go_bits); (first | done | with_reducible rfl))); simp only [Act.put, List.setIfInBounds_toArray, List.set_cons_zero, List.set_cons_succ])
  iterate 3 (first | (refine' wpT_take_dddd rfl rfl (fun w' hc hl hsz => ?_) ?_; rotate_left 1; (focus ((try go_simp); (try go_bits); (first | done | with_reducible rfl))); simp only [Act.put, List.setIfInBounds_toArray, List.set_cons_zero, List.set_cons_succ]) | (refine' wpT_take_ddd rfl rfl (fun w' hc hl hsz => ?_) ?_; rotate_left 1; (focus ((try go_simp); (try go_bits); (first | done | with_reducible rfl))); simp only [Act.put, List.setIfInBounds_toArray, List.set_cons_zero, List.set_cons_succ]) | (refine' wpT_take_dd rfl rfl (fun w' hc hl hsz => ?_) ?_; rotate_left 1; (focus ((try go_simp); (try go_bits); (first | done | with_reducible rfl))); simp only [Act.put, List.setIfInBounds_toArray, List.set_cons_zero, List.set_cons_succ]) | (refine' wpT_take_d rfl rfl (fun w' hc hl hsz => ?_) ?_; rotate_left 1; (focus ((try go_simp); (try go_bits); (first | done | with_reducible rfl))); simp only [Act.put, List.setIfInBounds_toArray, List.set_cons_zero, List.set_cons_succ]))
  iterate 5 (refine' wpT_pure rfl rfl (fun w' => ?_) ?_; rotate_left 1; (focus ((try go_simp); (try go_bits); (first | done | with_reducible rfl))); simp only [Act.put, List.setIfInBounds_toArray, List.set_cons_zero, List.set_cons_succ])
  refine wpT_nil ?_
  go_wp2
  refine wp_region_T [9] (.pure 0 (.pure 1 (.pure 2 (.pure 4 (.pure 6 (.take 3 (.take 5 (.take 7 (.one 8 (.one 9 .nil)))))))))) (by kernel_rfl) (by kernel_rfl) ?_
  iterate 5 (refine' wpT_pure rfl rfl (fun w' => ?_) ?_; rotate_left 1; (focus ((try go_simp); (try go_bits); (first | done | with_reducible rfl))); simp only [Act.put, List.setIfInBounds_toArray, List.set_cons_zero, List.set_cons_succ])
  iterate 3 (first | (refine' wpT_take_dddd rfl rfl (fun w' hc hl hsz => ?_) ?_; rotate_left 1; (focus ((try go_simp); (try go_bits); (first | done | with_reducible rfl))); simp only [Act.put, List.setIfInBounds_toArray, List.set_cons_zero, List.set_cons_succ]) | (refine' wpT_take_ddd rfl rfl (fun w' hc hl hsz => ?_) ?_; rotate_left 1; (focus ((try go_simp); (try go_bits); (first | done | with_reducible rfl))); simp only [Act.put, List.setIfInBounds_toArray, List.set_cons_zero, List.set_cons_succ]) | (refine' wpT_take_dd rfl rfl (fun w' hc hl hsz => ?_) ?_; rotate_left 1; (focus ((try go_simp); (try go_bits); (first | done | with_reducible rfl))); simp only [Act.put, List.setIfInBounds_toArray, List.set_cons_zero, List.set_cons_succ]) | (refine' wpT_take_d rfl rfl (fun w' hc hl hsz => ?_) ?_; rotate_left 1; (focus ((try go_simp); (try go_bits); (first | done | with_reducible rfl))); simp only [Act.put, List.setIfInBounds_toArray, List.set_cons_zero, List.set_cons_succ]))
  refine wpT_one rfl rfl (fun K hK => ?_)
  go_wp2_with (go_at_call 41; refine (clone_calls _ _ _ (HV.out.ext ((Ext.refl W).drew.drew)) HL.out).mono ?_; rintro e w1 ⟨v', rfl, hb1, he1⟩)
  refine hK _ _ he1 ?_
  clear hK K
  refine wpT_writer rfl rfl (by decide) (fun K hK => ?_)
  obtain ⟨mm, hmm, hri, hrel⟩ := HW.out.decs
  have he : Ext W w1 := Ext.undrew (Ext.undrew he1)
  refine wp_mapUpdate _ 69 26 _ _ _ rfl Try.underlying69 L.decs mm rfl (hmm.ext he) frm rfl v' rfl ?_
  intro w2 hm2 hb2
  first | (refine hK _ _ ?_; clear hK K) | skip
  refine wpT_nil ?_
  go_wp2
  go_ret
  have he : Ext W w1 := Ext.undrew (Ext.undrew he1)
  have hC := (HW.out.ext he).set_decs (hmm.ext he) (hrel.mono fun _ _ _ _ _ hx => hx.ext he) hri hb1 hm2 hb2
  refine ⟨L, ?_, ?_, (Moves.of_ext (HX.out.trans he)).trans hC.2⟩
  · rw [HF.out]; rfl
  · rw [HF.out]; exact hC.1

/-- a proposal is looked up -/
theorem props_look {w : World} {r : Nat} {p : AL (Bytes × Int)} (h : PropsAt w r p) (view : Int) :
    ∃ A N C q, (∀ w', w'.heap[r]? = w.heap[r]? → (Instr.lookup 65 (.map (some r)) (.int .i64 view) true).run Try.prog w' = .ok (.tuple #[.agg #[.slice A N C, .int .i64 q], .bool (AL.get? p view).isSome]) w') ∧
      (∀ y, AL.get? p view = some y → q = y.2 ∧ BytesAt w (.slice A N C) y.1) := by
  obtain ⟨m, h1, h2, h3⟩ := h
  cases hx : AL.get? m view with
  | none =>
    refine ⟨none, 0, 0, 0, fun w' hw => ?_, fun y hy => by rw [h3.non.1 hx] at hy; cases hy⟩
    have := (h1.kept hw).lookup (P := Try.prog) (t := 65) (e := 103) Try.underlying65 Try.underlying3 (zero103 w') view true
    rw [this, hx, h3.non.1 hx]; rfl
  | some u =>
    obtain ⟨y, hy, x, rfl, hb⟩ := h3.fwd hx
    obtain ⟨A, C, rfl, hb'⟩ := id hb
    refine ⟨A, _, C, y.2, fun w' hw => ?_, fun z hz => by rw [hy] at hz; cases hz; exact ⟨rfl, hb⟩⟩
    have := (h1.kept hw).lookup (P := Try.prog) (t := 65) (e := 103) Try.underlying65 Try.underlying3 (zero103 w') view true
    rw [this, hx, hy]; rfl

set_option maxRecDepth 100000 in
set_option maxHeartbeats 400000 in
theorem know_propose_old (cb : Nat) (c : Core) (L : Lay) (frm slot view valid : Int) (value : Bytes) (vv : Value) (w : World) (hc : CoreAt w cb c L) (hv : BytesAt w vv value) (hlen : value.length ≤ 1000000) (hd : (AL.get? c.props view).isSome = true) :
    Calls Try.prog 39 #[.pointer (some ⟨cb, 0, none⟩), .agg (voteCells ⟨1, frm, slot, view, valid, value⟩ vv)] w (CorePost cb L w (c.know ⟨1, frm, slot, view, valid, value⟩).2 (.bool (c.know ⟨1, frm, slot, view, valid, value⟩).1)) := by
  have HF := Lib.hid (show c.know ⟨1, frm, slot, view, valid, value⟩ = (false, c) by simp [Core.know, hd])
  have hbox := boxed w (voteCells ⟨1, frm, slot, view, valid, value⟩ vv) 28; obtain ⟨W, hW⟩ : ∃ W, W = w.alloc (.cells (voteCells ⟨1, frm, slot, view, valid, value⟩ vv) 28) := ⟨_, rfl⟩; rw [← hW] at hbox; obtain ⟨hx, hcells, hsz⟩ := hbox; have hcW := hc.ext hx; have hvW := hv.ext hx; have hlt := hc.lt; have hlt2 := hcW.lt; have hvb : w.heap.size < W.heap.size := by omega
  have v1 : W.cell? ⟨w.heap.size, 1, none⟩ = some (.int .i64 frm) := hcells 1; have v3 : W.cell? ⟨w.heap.size, 3, none⟩ = some (.int .i64 view) := hcells 3; have v4 : W.cell? ⟨w.heap.size, 4, none⟩ = some (.int .i64 valid) := hcells 4; have v5 : W.cell? ⟨w.heap.size, 5, none⟩ = some vv := hcells 5
  have c7 := hcW.c7
  have hdl := hcW.props.lt
  obtain ⟨A, N, C, q, hx1, _⟩ := props_look hcW.props view
  rw [hd] at hx1
  have HW := Lib.hid hcW; have HV := Lib.hid hvW; have HL := Lib.hid hlen; have HX := Lib.hid hx; have HWE := Lib.hid hW; clear hlen hc hv hcW hvW hcells hx hsz hW
  clear hd
  go_enter Try.func39, Try.ntmps39
  unfold voteCells at *
  go_wp2
  rw [← HWE.out]
  refine wp_region_T [11] (.pure 0 (.pure 1 (.pure 2 (.pure 4 (.take 3 (.take 5 (.take 6 (.pure 7 (.pure 8 (.pure 9 (.one 10 (.one 11 (.pure 12 .nil))))))))))))) (by kernel_rfl) (by kernel_rfl) ?_
  iterate 4 (refine' wpT_pure rfl rfl (fun w' => ?_) ?_; rotate_left 1; (focus ((try go_simp); (try go_bits); (first | done | with_reducible rfl))); simp only [Act.put, List.setIfInBounds_toArray, List.set_cons_zero, List.set_cons_succ])
  iterate 3 (first | (refine' wpT_take_dddd rfl rfl (fun w' hc hl hsz => ?_) ?_; rotate_left 1; (focus ((try go_simp); (try go_bits); (first | done | with_reducible rfl))); simp only [Act.put, List.setIfInBounds_toArray, List.set_cons_zero, List.set_cons_succ]) | (refine' wpT_take_ddd rfl rfl (fun w' hc hl hsz => ?_) ?_; rotate_left 1; (focus ((try go_simp); (try go_bits); (first | done | with_reducible rfl))); simp only [Act.put, List.setIfInBounds_toArray, List.set_cons_zero, List.set_cons_succ]) | (refine' wpT_take_dd rfl rfl (fun w' hc hl hsz => ?_) ?_; rotate_left 1; (focus ((try go_simp); (try go_bits); (first | done | with_reducible rfl))); simp only [Act.put, List.setIfInBounds_toArray, List.set_cons_zero, List.set_cons_succ]) | (refine' wpT_take_d rfl rfl (fun w' hc hl hsz => ?_) ?_; rotate_left 1; (focus ((try go_simp); (try go_bits); (first | done | with_reducible rfl))); simp only [Act.put, List.setIfInBounds_toArray, List.set_cons_zero, List.set_cons_succ]))
  iterate 3 (refine' wpT_pure rfl rfl (fun w' => ?_) ?_; rotate_left 1; (focus ((try go_simp); (try go_bits); (first | done | with_reducible rfl))); simp only [Act.put, List.setIfInBounds_toArray, List.set_cons_zero, List.set_cons_succ])
  refine wpT_one rfl rfl (fun K hK => ?_)
  go_wp2
  refine hK _ _ ((Ext.refl _).alloc (Nat.le_refl _) _) ?_
  clear hK K
  refine wpT_writer rfl rfl (by decide) (fun K hK => ?_)
  go_wp2
  first | (refine hK _ _ ?_; clear hK K) | skip
  (refine' wpT_pure rfl rfl (fun w' => ?_) ?_; rotate_left 1; (focus ((try go_simp); (try go_bits); (first | done | with_reducible rfl))); simp only [Act.put, List.setIfInBounds_toArray, List.set_cons_zero, List.set_cons_succ])
  refine wpT_nil ?_
  go_wp2
  refine wp_fresh W ((Ext.refl W).alloc (Nat.le_refl _) _).drew (fun W2 hx2 => ?_)
  have HX2 := Lib.hid hx2
  clear hx2
  refine wp_region_T [] (.pure 0 (.pure 1 (.pure 2 (.pure 4 (.pure 5 (.take 3 (.take 6 (.one 7 (.pure 8 (.pure 9 .nil)))))))))) (by kernel_rfl) (by kernel_rfl) ?_
  iterate 2 (refine' wpT_pure rfl rfl (fun w' => ?_) ?_; rotate_left 1; (focus ((try go_simp); (try go_bits); (first | done | with_reducible rfl))); simp only [Act.put, List.setIfInBounds_toArray, List.set_cons_zero, List.set_cons_succ])
  iterate 3 (first | (refine' wpT_pure_on rfl rfl (fun w' => ?_) ?_; rotate_left 1; (focus ((try go_simp); (try go_bits); (first | done | with_reducible rfl))); simp only [Act.put, List.setIfInBounds_toArray, List.set_cons_zero, List.set_cons_succ]) | (refine wpT_pure_off rfl rfl ?_; simp only [Act.put, List.setIfInBounds_toArray, List.set_cons_zero, List.set_cons_succ]))
  iterate 2 (first | (refine' wpT_take_on_dddd rfl rfl (fun w' hc hl hsz => ?_) ?_; rotate_left 1; (focus ((try go_simp); (try go_bits); (first | done | with_reducible rfl))); simp only [Act.put, List.setIfInBounds_toArray, List.set_cons_zero, List.set_cons_succ]) | (refine' wpT_take_on_ddd rfl rfl (fun w' hc hl hsz => ?_) ?_; rotate_left 1; (focus ((try go_simp); (try go_bits); (first | done | with_reducible rfl))); simp only [Act.put, List.setIfInBounds_toArray, List.set_cons_zero, List.set_cons_succ]) | (refine' wpT_take_on_dd rfl rfl (fun w' hc hl hsz => ?_) ?_; rotate_left 1; (focus ((try go_simp); (try go_bits); (first | done | with_reducible rfl))); simp only [Act.put, List.setIfInBounds_toArray, List.set_cons_zero, List.set_cons_succ]) | (refine' wpT_take_on_d rfl rfl (fun w' hc hl hsz => ?_) ?_; rotate_left 1; (focus ((try go_simp); (try go_bits); (first | done | with_reducible rfl))); simp only [Act.put, List.setIfInBounds_toArray, List.set_cons_zero, List.set_cons_succ]) | (refine wpT_take_off rfl rfl ?_; simp only [Act.put, List.setIfInBounds_toArray, List.set_cons_zero, List.set_cons_succ]))
  refine wpT_one_off rfl rfl ?_
  simp only [Act.put, List.setIfInBounds_toArray, List.set_cons_zero, List.set_cons_succ]
  first | (refine' wpT_pure_on rfl rfl (fun w' => ?_) ?_; rotate_left 1; (focus ((try go_simp); (try go_bits); (first | done | with_reducible rfl))); simp only [Act.put, List.setIfInBounds_toArray, List.set_cons_zero, List.set_cons_succ]) | (refine wpT_pure_off rfl rfl ?_; simp only [Act.put, List.setIfInBounds_toArray, List.set_cons_zero, List.set_cons_succ])
  (refine' wpT_pure rfl rfl (fun w' => ?_) ?_; rotate_left 1; (focus ((try go_simp); (try go_bits); (first | done | with_reducible rfl))); simp only [Act.put, List.setIfInBounds_toArray, List.set_cons_zero, List.set_cons_succ])
  refine wpT_nil ?_
  go_wp2
  go_ret
  have he := HX2.out.trans (Ext.refl W2).drew
  refine ⟨L, ?_, ?_, Moves.of_ext (HX.out.trans he)⟩
  · rw [HF.out]; rfl
  · rw [HF.out]; exact HW.out.ext he

set_option maxRecDepth 100000 in
set_option maxHeartbeats 400000 in
theorem know_propose_alien (cb : Nat) (c : Core) (L : Lay) (frm slot view valid : Int) (value : Bytes) (vv : Value) (w : World) (hc : CoreAt w cb c L) (hv : BytesAt w vv value) (hlen : value.length ≤ 1000000) (hnum : Nums c) (hv0 : 0 ≤ view) (hv1 : view ≤ 1048576) (hd : (AL.get? c.props view).isSome = false) (hpr : (frm != c.proposer view) = true) :
    Calls Try.prog 39 #[.pointer (some ⟨cb, 0, none⟩), .agg (voteCells ⟨1, frm, slot, view, valid, value⟩ vv)] w (CorePost cb L w (c.know ⟨1, frm, slot, view, valid, value⟩).2 (.bool (c.know ⟨1, frm, slot, view, valid, value⟩).1)) := by
  have HF := Lib.hid (show c.know ⟨1, frm, slot, view, valid, value⟩ = (false, c) by simp [Core.know, hd, hpr])
  have hbox := boxed w (voteCells ⟨1, frm, slot, view, valid, value⟩ vv) 28; obtain ⟨W, hW⟩ : ∃ W, W = w.alloc (.cells (voteCells ⟨1, frm, slot, view, valid, value⟩ vv) 28) := ⟨_, rfl⟩; rw [← hW] at hbox; obtain ⟨hx, hcells, hsz⟩ := hbox; have hcW := hc.ext hx; have hvW := hv.ext hx; have hlt := hc.lt; have hlt2 := hcW.lt; have hvb : w.heap.size < W.heap.size := by omega
  have v1 : W.cell? ⟨w.heap.size, 1, none⟩ = some (.int .i64 frm) := hcells 1; have v3 : W.cell? ⟨w.heap.size, 3, none⟩ = some (.int .i64 view) := hcells 3; have v4 : W.cell? ⟨w.heap.size, 4, none⟩ = some (.int .i64 valid) := hcells 4; have v5 : W.cell? ⟨w.heap.size, 5, none⟩ = some vv := hcells 5
  have c7 := hcW.c7
  have hdl := hcW.props.lt
  obtain ⟨A, N, C, q, hx1, _⟩ := props_look hcW.props view
  rw [hd] at hx1
  have HNU := Lib.hid hnum
  have HVW := Lib.hid (And.intro hv0 hv1)
  have HW := Lib.hid hcW; have HV := Lib.hid hvW; have HL := Lib.hid hlen; have HX := Lib.hid hx; have HWE := Lib.hid hW; clear hlen hc hv hcW hvW hcells hx hsz hW
  clear hd hnum hv0 hv1
  go_enter Try.func39, Try.ntmps39
  unfold voteCells at *
  go_wp2
  rw [← HWE.out]
  refine wp_region_T [11] (.pure 0 (.pure 1 (.pure 2 (.pure 4 (.take 3 (.take 5 (.take 6 (.pure 7 (.pure 8 (.pure 9 (.one 10 (.one 11 (.pure 12 .nil))))))))))))) (by kernel_rfl) (by kernel_rfl) ?_
  iterate 4 (refine' wpT_pure rfl rfl (fun w' => ?_) ?_; rotate_left 1; (focus ((try go_simp); (try go_bits); (first | done | with_reducible rfl))); simp only [Act.put, List.setIfInBounds_toArray, List.set_cons_zero, List.set_cons_succ])
  iterate 3 (first | (refine' wpT_take_dddd rfl rfl (fun w' hc hl hsz => ?_) ?_; rotate_left 1; (focus ((try go_simp); (try go_bits); (first | done | with_reducible rfl))); simp only [Act.put, List.setIfInBounds_toArray, List.set_cons_zero, List.set_cons_succ]) | (refine' wpT_take_ddd rfl rfl (fun w' hc hl hsz => ?_) ?_; rotate_left 1; (focus ((try go_simp); (try go_bits); (first | done | with_reducible rfl))); simp only [Act.put, List.setIfInBounds_toArray, List.set_cons_zero, List.set_cons_succ]) | (refine' wpT_take_dd rfl rfl (fun w' hc hl hsz => ?_) ?_; rotate_left 1; (focus ((try go_simp); (try go_bits); (first | done | with_reducible rfl))); simp only [Act.put, List.setIfInBounds_toArray, List.set_cons_zero, List.set_cons_succ]) | (refine' wpT_take_d rfl rfl (fun w' hc hl hsz => ?_) ?_; rotate_left 1; (focus ((try go_simp); (try go_bits); (first | done | with_reducible rfl))); simp only [Act.put, List.setIfInBounds_toArray, List.set_cons_zero, List.set_cons_succ]))
  iterate 3 (refine' wpT_pure rfl rfl (fun w' => ?_) ?_; rotate_left 1; (focus ((try go_simp); (try go_bits); (first | done | with_reducible rfl))); simp only [Act.put, List.setIfInBounds_toArray, List.set_cons_zero, List.set_cons_succ])
  refine wpT_one rfl rfl (fun K hK => ?_)
  go_wp2
  refine hK _ _ ((Ext.refl _).alloc (Nat.le_refl _) _) ?_
  clear hK K
  refine wpT_writer rfl rfl (by decide) (fun K hK => ?_)
  go_wp2
  first | (refine hK _ _ ?_; clear hK K) | skip
  (refine' wpT_pure rfl rfl (fun w' => ?_) ?_; rotate_left 1; (focus ((try go_simp); (try go_bits); (first | done | with_reducible rfl))); simp only [Act.put, List.setIfInBounds_toArray, List.set_cons_zero, List.set_cons_succ])
  refine wpT_nil ?_
  go_wp2
  refine wp_fresh W ((Ext.refl W).alloc (Nat.le_refl _) _).drew (fun W2 hx2 => ?_)
  have w1 := hx2.at v1
  have w3 := hx2.at v3
  have hvb2 := Nat.lt_of_lt_of_le hvb hx2.size
  have HX2 := Lib.hid hx2
  clear hx2
  refine wp_region_T [] (.pure 0 (.pure 1 (.pure 2 (.pure 4 (.pure 5 (.take 3 (.take 6 (.one 7 (.pure 8 (.pure 9 .nil)))))))))) (by kernel_rfl) (by kernel_rfl) ?_
  iterate 2 (refine' wpT_pure rfl rfl (fun w' => ?_) ?_; rotate_left 1; (focus ((try go_simp); (try go_bits); (first | done | with_reducible rfl))); simp only [Act.put, List.setIfInBounds_toArray, List.set_cons_zero, List.set_cons_succ])
  iterate 3 (first | (refine' wpT_pure_on rfl rfl (fun w' => ?_) ?_; rotate_left 1; (focus ((try go_simp); (try go_bits); (first | done | with_reducible rfl))); simp only [Act.put, List.setIfInBounds_toArray, List.set_cons_zero, List.set_cons_succ]) | (refine wpT_pure_off rfl rfl ?_; simp only [Act.put, List.setIfInBounds_toArray, List.set_cons_zero, List.set_cons_succ]))
  iterate 2 (first | (refine' wpT_take_on_dddd rfl rfl (fun w' hc hl hsz => ?_) ?_; rotate_left 1; (focus ((try go_simp); (try go_bits); (first | done | with_reducible rfl))); simp only [Act.put, List.setIfInBounds_toArray, List.set_cons_zero, List.set_cons_succ]) | (refine' wpT_take_on_ddd rfl rfl (fun w' hc hl hsz => ?_) ?_; rotate_left 1; (focus ((try go_simp); (try go_bits); (first | done | with_reducible rfl))); simp only [Act.put, List.setIfInBounds_toArray, List.set_cons_zero, List.set_cons_succ]) | (refine' wpT_take_on_dd rfl rfl (fun w' hc hl hsz => ?_) ?_; rotate_left 1; (focus ((try go_simp); (try go_bits); (first | done | with_reducible rfl))); simp only [Act.put, List.setIfInBounds_toArray, List.set_cons_zero, List.set_cons_succ]) | (refine' wpT_take_on_d rfl rfl (fun w' hc hl hsz => ?_) ?_; rotate_left 1; (focus ((try go_simp); (try go_bits); (first | done | with_reducible rfl))); simp only [Act.put, List.setIfInBounds_toArray, List.set_cons_zero, List.set_cons_succ]) | (refine wpT_take_off rfl rfl ?_; simp only [Act.put, List.setIfInBounds_toArray, List.set_cons_zero, List.set_cons_succ]))
  refine wpT_one_on rfl rfl (fun K hK => ?_)
  go_wp2_with (go_at_call 63; refine (proposer_calls cb c L view _ (HW.out.ext (HX2.out.trans (Ext.refl W2).drew)) HNU.out.n4 HNU.out.n64 HNU.out.s0 HNU.out.s1 HVW.out.1 (by have := HVW.out.2; omega)).mono ?_; rintro e w1 ⟨rfl, he1⟩)
  refine hK _ _ he1 ?_
  clear hK K
  first | (refine' wpT_pure_on rfl rfl (fun w' => ?_) ?_; rotate_left 1; (focus ((try go_simp); (try go_bits); (first | done | with_reducible rfl))); simp only [Act.put, List.setIfInBounds_toArray, List.set_cons_zero, List.set_cons_succ]) | (refine wpT_pure_off rfl rfl ?_; simp only [Act.put, List.setIfInBounds_toArray, List.set_cons_zero, List.set_cons_succ])
  (refine' wpT_pure rfl rfl (fun w' => ?_) ?_; rotate_left 1; (focus ((try go_simp); (try go_bits); (first | done | with_reducible rfl))); simp only [Act.put, List.setIfInBounds_toArray, List.set_cons_zero, List.set_cons_succ])
  refine wpT_nil ?_
  go_wp2
  go_ret
  have he := HX2.out.trans (Ext.undrew he1)
  refine ⟨L, ?_, ?_, Moves.of_ext (HX.out.trans he)⟩
  · rw [HF.out]; rfl
  · rw [HF.out]; exact HW.out.ext he

set_option maxRecDepth 100000 in
set_option maxHeartbeats 400000 in
theorem know_propose_new (cb : Nat) (c : Core) (L : Lay) (frm slot view valid : Int) (value : Bytes) (vv : Value) (w : World) (hc : CoreAt w cb c L) (hv : BytesAt w vv value) (hlen : value.length ≤ 1000000) (hnum : Nums c) (hv0 : 0 ≤ view) (hv1 : view ≤ 1048576) (hd : (AL.get? c.props view).isSome = false) (hpr : (frm != c.proposer view) = false) :
    Calls Try.prog 39 #[.pointer (some ⟨cb, 0, none⟩), .agg (voteCells ⟨1, frm, slot, view, valid, value⟩ vv)] w (CorePost cb L w (c.know ⟨1, frm, slot, view, valid, value⟩).2 (.bool (c.know ⟨1, frm, slot, view, valid, value⟩).1)) := by
  have HF := Lib.hid (show c.know ⟨1, frm, slot, view, valid, value⟩ = (true, { c with props := AL.put c.props view (value, valid) }) by simp [Core.know, hd, hpr])
  have hbox := boxed w (voteCells ⟨1, frm, slot, view, valid, value⟩ vv) 28; obtain ⟨W, hW⟩ : ∃ W, W = w.alloc (.cells (voteCells ⟨1, frm, slot, view, valid, value⟩ vv) 28) := ⟨_, rfl⟩; rw [← hW] at hbox; obtain ⟨hx, hcells, hsz⟩ := hbox; have hcW := hc.ext hx; have hvW := hv.ext hx; have hlt := hc.lt; have hlt2 := hcW.lt; have hvb : w.heap.size < W.heap.size := by omega
  have v1 : W.cell? ⟨w.heap.size, 1, none⟩ = some (.int .i64 frm) := hcells 1; have v3 : W.cell? ⟨w.heap.size, 3, none⟩ = some (.int .i64 view) := hcells 3; have v4 : W.cell? ⟨w.heap.size, 4, none⟩ = some (.int .i64 valid) := hcells 4; have v5 : W.cell? ⟨w.heap.size, 5, none⟩ = some vv := hcells 5
  have c7 := hcW.c7
  have hdl := hcW.props.lt
  obtain ⟨A, N, C, q, hx1, _⟩ := props_look hcW.props view
  rw [hd] at hx1
  have HNU := Lib.hid hnum
  have HVW := Lib.hid (And.intro hv0 hv1)
  have HW := Lib.hid hcW; have HV := Lib.hid hvW; have HL := Lib.hid hlen; have HX := Lib.hid hx; have HWE := Lib.hid hW; clear hlen hc hv hcW hvW hcells hx hsz hW
  clear hd hnum hv0 hv1
  go_enter Try.func39, Try.ntmps39
  unfold voteCells at *
  go_wp2
  rw [← HWE.out]
  refine wp_region_T [11] (.pure 0 (.pure 1 (.pure 2 (.pure 4 (.take 3 (.take 5 (.take 6 (.pure 7 (.pure 8 (.pure 9 (.one 10 (.one 11 (.pure 12 .nil))))))))))))) (by kernel_rfl) (by kernel_rfl) ?_
  iterate 4 (refine' wpT_pure rfl rfl (fun w' => ?_) ?_; rotate_left 1; (focus ((try go_simp); (try go_bits); (first | done | with_reducible rfl))); simp only [Act.put, List.setIfInBounds_toArray, List.set_cons_zero, List.set_cons_succ])
  iterate 3 (first | (refine' wpT_take_dddd rfl rfl (fun w' hc hl hsz => ?_) ?_; rotate_left 1; (focus ((try go_simp); (try go_bits); (first | done | with_reducible rfl))); simp only [Act.put, List.setIfInBounds_toArray, List.set_cons_zero, List.set_cons_succ]) | (refine' wpT_take_ddd rfl rfl (fun w' hc hl hsz => ?_) ?_; rotate_left 1; (focus ((try go_simp); (try go_bits); (first | done | with_reducible rfl))); simp only [Act.put, List.setIfInBounds_toArray, List.set_cons_zero, List.set_cons_succ]) | (refine' wpT_take_dd rfl rfl (fun w' hc hl hsz => ?_) ?_; rotate_left 1; (focus ((try go_simp); (try go_bits); (first | done | with_reducible rfl))); simp only [Act.put, List.setIfInBounds_toArray, List.set_cons_zero, List.set_cons_succ]) | (refine' wpT_take_d rfl rfl (fun w' hc hl hsz => ?_) ?_; rotate_left 1; (focus ((try go_simp); (try go_bits); (first | done | with_reducible rfl))); simp only [Act.put, List.setIfInBounds_toArray, List.set_cons_zero, List.set_cons_succ]))
  iterate 3 (refine' wpT_pure rfl rfl (fun w' => ?_) ?_; rotate_left 1; (focus ((try go_simp); (try go_bits); (first | done | with_reducible rfl))); simp only [Act.put, List.setIfInBounds_toArray, List.set_cons_zero, List.set_cons_succ])
  refine wpT_one rfl rfl (fun K hK => ?_)
  go_wp2
  refine hK _ _ ((Ext.refl _).alloc (Nat.le_refl _) _) ?_
  clear hK K
  refine wpT_writer rfl rfl (by decide) (fun K hK => ?_)
  go_wp2
  first | (refine hK _ _ ?_; clear hK K) | skip
  (refine' wpT_pure rfl rfl (fun w' => ?_) ?_; rotate_left 1; (focus ((try go_simp); (try go_bits); (first | done | with_reducible rfl))); simp only [Act.put, List.setIfInBounds_toArray, List.set_cons_zero, List.set_cons_succ])
  refine wpT_nil ?_
  go_wp2
  refine wp_fresh W ((Ext.refl W).alloc (Nat.le_refl _) _).drew (fun W2 hx2 => ?_)
  have w1 := hx2.at v1
  have w3 := hx2.at v3
  have hvb2 := Nat.lt_of_lt_of_le hvb hx2.size
  have HX2 := Lib.hid hx2
  clear hx2
  refine wp_region_T [] (.pure 0 (.pure 1 (.pure 2 (.pure 4 (.pure 5 (.take 3 (.take 6 (.one 7 (.pure 8 (.pure 9 .nil)))))))))) (by kernel_rfl) (by kernel_rfl) ?_
  iterate 2 (refine' wpT_pure rfl rfl (fun w' => ?_) ?_; rotate_left 1; (focus ((try go_simp); (try go_bits); (first | done | with_reducible rfl))); simp only [Act.put, List.setIfInBounds_toArray, List.set_cons_zero, List.set_cons_succ])
  iterate 3 (first | (refine' wpT_pure_on rfl rfl (fun w' => ?_) ?_; rotate_left 1; (focus ((try go_simp); (try go_bits); (first | done | with_reducible rfl))); simp only [Act.put, List.setIfInBounds_toArray, List.set_cons_zero, List.set_cons_succ]) | (refine wpT_pure_off rfl rfl ?_; simp only [Act.put, List.setIfInBounds_toArray, List.set_cons_zero, List.set_cons_succ]))
  iterate 2 (first | (refine' wpT_take_on_dddd rfl rfl (fun w' hc hl hsz => ?_) ?_; rotate_left 1; (focus ((try go_simp); (try go_bits); (first | done | with_reducible rfl))); simp only [Act.put, List.setIfInBounds_toArray, List.set_cons_zero, List.set_cons_succ]) | (refine' wpT_take_on_ddd rfl rfl (fun w' hc hl hsz => ?_) ?_; rotate_left 1; (focus ((try go_simp); (try go_bits); (first | done | with_reducible rfl))); simp only [Act.put, List.setIfInBounds_toArray, List.set_cons_zero, List.set_cons_succ]) | (refine' wpT_take_on_dd rfl rfl (fun w' hc hl hsz => ?_) ?_; rotate_left 1; (focus ((try go_simp); (try go_bits); (first | done | with_reducible rfl))); simp only [Act.put, List.setIfInBounds_toArray, List.set_cons_zero, List.set_cons_succ]) | (refine' wpT_take_on_d rfl rfl (fun w' hc hl hsz => ?_) ?_; rotate_left 1; (focus ((try go_simp); (try go_bits); (first | done | with_reducible rfl))); simp only [Act.put, List.setIfInBounds_toArray, List.set_cons_zero, List.set_cons_succ]) | (refine wpT_take_off rfl rfl ?_; simp only [Act.put, List.setIfInBounds_toArray, List.set_cons_zero, List.set_cons_succ]))
  refine wpT_one_on rfl rfl (fun K hK => ?_)
  go_wp2_with (go_at_call 63; refine (proposer_calls cb c L view _ (HW.out.ext (HX2.out.trans (Ext.refl W2).drew)) HNU.out.n4 HNU.out.n64 HNU.out.s0 HNU.out.s1 HVW.out.1 (by have := HVW.out.2; omega)).mono ?_; rintro e w1 ⟨rfl, he1⟩)
  refine hK _ _ he1 ?_
  clear hK K
  first | (refine' wpT_pure_on rfl rfl (fun w' => ?_) ?_; rotate_left 1; (focus ((try go_simp); (try go_bits); (first | done | with_reducible rfl))); simp only [Act.put, List.setIfInBounds_toArray, List.set_cons_zero, List.set_cons_succ]) | (refine wpT_pure_off rfl rfl ?_; simp only [Act.put, List.setIfInBounds_toArray, List.set_cons_zero, List.set_cons_succ])
  (refine' wpT_pure rfl rfl (fun w' => ?_) ?_; rotate_left 1; (focus ((try go_simp); (try go_bits); (first | done | with_reducible rfl))); simp only [Act.put, List.setIfInBounds_toArray, List.set_cons_zero, List.set_cons_succ])
  refine wpT_nil ?_
  go_wp2
  refine wp_fresh W (HX2.out.trans (Ext.undrew he1)) (fun W3 hx3 => ?_)
  have u3 := hx3.at v3
  have u4 := hx3.at v4
  have u5 := hx3.at v5
  have u7 := hx3.at c7
  have hlt3 := Nat.lt_of_lt_of_le hlt2 hx3.size
  have hvb3 := Nat.lt_of_lt_of_le hvb hx3.size
  have HX3 := Lib.hid hx3
  clear hx3 he1
  refine wp_region_T [12] (.pure 0 (.pure 1 (.pure 2 (.pure 4 (.pure 6 (.pure 9 (.take 3 (.take 5 (.take 7 (.take 10 (.one 8 (.pure 11 (.one 12 .nil))))))))))))) (by kernel_rfl) (by kernel_rfl) ?_
  iterate 6 (refine' wpT_pure rfl rfl (fun w' => ?_) ?_; rotate_left 1; (focus ((try go_simp); (try go_bits); (first | done | with_reducible rfl))); simp only [Act.put, List.setIfInBounds_toArray, List.set_cons_zero, List.set_cons_succ])
  iterate 4 (first | (refine' wpT_take_dddd rfl rfl (fun w' hc hl hsz => ?_) ?_; rotate_left 1; (focus ((try go_simp); (try go_bits); (first | done | with_reducible rfl))); simp only [Act.put, List.setIfInBounds_toArray, List.set_cons_zero, List.set_cons_succ]) | (refine' wpT_take_ddd rfl rfl (fun w' hc hl hsz => ?_) ?_; rotate_left 1; (focus ((try go_simp); (try go_bits); (first | done | with_reducible rfl))); simp only [Act.put, List.setIfInBounds_toArray, List.set_cons_zero, List.set_cons_succ]) | (refine' wpT_take_dd rfl rfl (fun w' hc hl hsz => ?_) ?_; rotate_left 1; (focus ((try go_simp); (try go_bits); (first | done | with_reducible rfl))); simp only [Act.put, List.setIfInBounds_toArray, List.set_cons_zero, List.set_cons_succ]) | (refine' wpT_take_d rfl rfl (fun w' hc hl hsz => ?_) ?_; rotate_left 1; (focus ((try go_simp); (try go_bits); (first | done | with_reducible rfl))); simp only [Act.put, List.setIfInBounds_toArray, List.set_cons_zero, List.set_cons_succ]))
  refine wpT_one rfl rfl (fun K hK => ?_)
  go_wp2_with (go_at_call 41; refine (clone_calls _ _ _ (HV.out.ext (HX3.out.trans (Ext.refl W3).drew)) HL.out).mono ?_; rintro e w5 ⟨v', rfl, hb5, he5⟩; obtain ⟨A5, C5, rfl, _⟩ := id hb5)
  refine hK _ _ he5 ?_
  clear hK K
  (refine' wpT_pure rfl rfl (fun w' => ?_) ?_; rotate_left 1; (focus ((try go_simp); (try go_bits); (first | done | with_reducible rfl))); simp only [Act.put, List.setIfInBounds_toArray, List.set_cons_zero, List.set_cons_succ])
  refine wpT_writer rfl rfl (by decide) (fun K hK => ?_)
  obtain ⟨mm, hmm, hri, hrel⟩ := HW.out.props
  have he : Ext W w5 := HX3.out.trans (Ext.undrew he5)
  refine wp_mapUpdate _ 65 103 _ _ _ rfl Try.underlying65 L.props mm rfl (hmm.ext he) view rfl _ rfl ?_
  intro w6 hm6 hb6
  first | (refine hK _ _ ?_; clear hK K) | skip
  refine wpT_nil ?_
  go_wp2
  go_ret
  have he : Ext W w5 := HX3.out.trans (Ext.undrew he5)
  have hC := (HW.out.ext he).set_props (hmm.ext he) (hrel.mono fun _ _ _ _ _ ⟨x, h1, h2⟩ => ⟨x, h1, h2.ext he⟩) hri hb5 hm6 hb6
  refine ⟨L, ?_, ?_, (Moves.of_ext (HX.out.trans he)).trans hC.2⟩
  · rw [HF.out]; rfl
  · rw [HF.out]; exact hC.1

/-- 'know' -/
theorem know_calls (cb : Nat) (c : Core) (L : Lay) (v : Vote) (vv : Value) (w : World) (hc : CoreAt w cb c L) (hv : BytesAt w vv v.value) (hlen : v.value.length ≤ 1000000) (hnum : Nums c) (hk : 1 ≤ v.kind ∧ v.kind ≤ 5) (hv0 : 0 ≤ v.view) (hv1 : v.view ≤ 1048576) :
    Calls Try.prog 39 #[.pointer (some ⟨cb, 0, none⟩), .agg (voteCells v vv)] w (CorePost cb L w (c.know v).2 (.bool (c.know v).1)) := by
  obtain ⟨kind, frm, slot, view, valid, value⟩ := v
  simp only at hk hv0 hv1 hv hlen
  have : kind = 1 ∨ kind = 2 ∨ kind = 3 ∨ kind = 4 ∨ kind = 5 := by omega
  rcases this with rfl | rfl | rfl | rfl | rfl
  · cases hd : (AL.get? c.props view).isSome with
    | true => exact know_propose_old cb c L frm slot view valid value vv w hc hv hlen hd
    | false =>
      cases hpr : (frm != c.proposer view) with
      | true => exact know_propose_alien cb c L frm slot view valid value vv w hc hv hlen hnum hv0 hv1 hd hpr
      | false => exact know_propose_new cb c L frm slot view valid value vv w hc hv hlen hnum hv0 hv1 hd hpr
  · exact know_prepare cb c L frm slot view valid value vv w hc hv hlen
  · exact know_commit cb c L frm slot view valid value vv w hc hv hlen
  · cases hd : (AL.get? c.decs frm).isSome with
    | true => exact know_decided_old cb c L frm slot view valid value vv w hc hv hlen hd
    | false => exact know_decided_new cb c L frm slot view valid value vv w hc hv hlen hd
  · exact know_turn cb c L frm slot view valid value vv w hc hv hlen
end Go.Proofs.Ytkpllkjionegeaa
