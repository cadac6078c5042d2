/- Walks of the vote package, fifth part. -/
import Derived.Test.YtkpllkjionegeaaJ5
import Derived.Test.YtkpllkjionegeaaJ1
set_option linter.unusedVariables false
set_option linter.unusedSimpArgs false
/- Walks: votes that are appended; what a core says (Says). -/
namespace Go.Proofs.Ytkpllkjionegeaa
open Go Go.RowKit

/-- a vote is appended -/
theorem wp_append_vote {o : Oper} {a : Act} {w : World} {K : Act → World → Prop} {Q : Exit → Act → World → Prop} (s x : Operand)
    (ho : o.op = .call { callee := .builtin .append, args := #[s, x], argTypes := #[51, 51] }) (B : Nat) (v : Value) (l : List Vote) (hs : a.eval s = v) (hown : VotesOwn B w v l) (hB : B ≤ w.heap.size)
    (vt : Vote) (u : Value) (hu : w.ownsRow B 5 1 u vt.value.length (byteCells vt.value)) (p : Nat) (hx : a.eval x = .slice (some ⟨p, 0, none⟩) 1 1) (hn : w.heap[p]? = some (.cells (voteCells vt u) 28 (0, 0))) (hl : l.length ≤ 2000000)
    (h : ∀ v' w', VotesOwn B w' v' (l ++ [vt]) → Below B w w' → K (a.put o.dst v') w') : o.wp Try.prog a w K Q := by
  obtain ⟨i0, hi, hz0, hz1, hz2⟩ := info_parts info28
  obtain ⟨vs, h1, h2, h3⟩ := hown
  obtain ⟨A, C, rfl⟩ := own_slice hu
  refine wp_append s x 51 ho B 28 i0 _ 6 64 Try.underlying51 hi hz0 hz1 hz2 rfl (by decide) v l.length _ hs h2 ⟨p, 0, none⟩ 1 1 (voteCells vt (.slice A vt.value.length C)).toList hx rfl (World.news_of_block hn) (by simp [voteCells, Value.oneCell']) (by unfold maxLen; omega) (by omega) hB ?_
  intro v' w' hown' hgrow' _ _
  exact h v' w' (VotesOwn.more h1 h2 h3 hu hown' hgrow') ((Below.refl B w).grown hgrow' hB (fun k hk => (own_lt h2 k hk).1))

theorem votesCells_append (l l' : List Vote) (vs vs' : List Value) (h : vs.length = l.length) : votesCells (l ++ l') (vs ++ vs') = votesCells l vs ++ votesCells l' vs' := by
  unfold votesCells
  rw [List.zip_append h.symm, List.flatMap_append]

theorem votesCells_one {w : World} {B : Nat} {l : List Vote} {vs : List Value} (hs : ∀ p ∈ l.zip vs, w.ownsRow B 5 1 p.2 p.1.value.length (byteCells p.1.value)) : ∀ u ∈ votesCells l vs, u.oneCell' = true := fun u hu => by
  obtain ⟨p, hp, hu⟩ := List.mem_flatMap.1 hu
  obtain ⟨A, C, e⟩ := own_slice (hs p hp)
  rw [e] at hu
  simp [voteCells] at hu
  rcases hu with h | h | h | h | h | h <;> (subst h; rfl)

theorem run_append_zero51 {w : World} (base : Nat) (ty : TypeId) (i : TypeInfo) (size : Nat) (hi : Try.prog.info? 28 = some i)
    (v : Value) (n : Nat) (xs : List Value) (hown : w.ownsRow base 28 size v n xs) (c : Nat) :
    (Builtin.append_ #[51, 51] ty #[v, .slice none 0 c]).run Try.prog w = .ok v w := by
  rcases hown.2 with ⟨rfl, rfl⟩ | ⟨g, cap, cur, rfl, _, _, hnc, _⟩
  · simp [Builtin.append_, run_underlying Try.underlying51, sizeOf, typeInfo, hi, Builtin.lenOf, Builtin.firstCells]
  · simp [Builtin.append_, run_underlying Try.underlying51, sizeOf, typeInfo, hi, Builtin.lenOf, Builtin.firstCells, hnc, storeCells]

/-- votes are appended -/
theorem wpList_append_votes {ops : Array Oper} {rest : List Oper} {o : Oper} {a : Act} {w : World} {Q : Exit → Act → World → Prop} (hgd : o.guard = none) (s x : Operand)
    (ho : o.op = .call { callee := .builtin .append, args := #[s, x], argTypes := #[51, 51] }) (B : Nat) (v : Value) (l : List Vote) (hs : a.eval s = v) (hown : VotesOwn B w v l) (hB : B ≤ w.heap.size)
    (v2 : Value) (l2 : List Vote) (hx : a.eval x = v2) (hown2 : VotesOwn B w v2 l2) (hl : l.length + l2.length ≤ 4000000)
    (h : ∀ v' w', VotesOwn B w' v' (l ++ l2) → Below B w w' → wpList Try.prog ops Q rest (a.put o.dst v') w') : wpList Try.prog ops Q (o :: rest) a w := by
  refine wpList_plain hgd fun K hK => ?_
  obtain ⟨i0, hi, hz0, hz1, hz2⟩ := info_parts info28
  obtain ⟨vs, h1, h2, h3⟩ := hown
  obtain ⟨vs2, k1, k2, k3⟩ := hown2
  rcases k2.2 with ⟨rfl, hl0⟩ | ⟨g, cap, cur, rfl, hBg, hg, hcap, hm, hsz, ht⟩
  · have hl2 : l2 = [] := List.eq_nil_of_length_eq_zero hl0
    subst hl2
    unfold Oper.wp execOp
    simp only [ho, resolve, invoke, builtin, Sem.run_bind, Sem.run_pure, Result.andThen_ok, List.map_toArray, List.map_cons, List.map_nil, hs, hx]
    rw [run_append_zero51 B _ i0 6 hi v _ _ h2 0]
    exact hK _ _ (h v w (by rw [List.append_nil]; exact ⟨vs, h1, h2, h3⟩) (Below.refl _ _))
  · refine wp_append s x 51 ho B 28 i0 _ 6 64 Try.underlying51 hi hz0 hz1 hz2 rfl (by decide) v l.length _ hs h2 ⟨g, 0, none⟩ l2.length cap (votesCells l2 vs2) hx (votesCells_length l2 vs2 k1) ?_ (votesCells_one k3) (by unfold maxLen; omega) (by omega) hB ?_
    · intro j u hj
      have hjl : j < l2.length * 6 := by
        have := (List.getElem?_eq_some_iff.1 hj).1
        rw [votesCells_length l2 vs2 k1] at this; exact this
      have hc := World.ownsRow.cellAt ⟨k2.1, Or.inr ⟨g, cap, cur, rfl, hBg, hg, hcap, hm, hsz, ht⟩⟩ j hjl
      have hadd : (⟨g, 0, none⟩ : Addr).add j = ⟨g, j, none⟩ := by unfold Addr.add; split <;> simp_all
      rw [hadd, hc, hj]
    · intro v' w' hown' hgrow' _ _
      have keep : ∀ {p : Value} {m : Nat} {ys : List Value}, w.ownsRow B 5 1 p m ys → w'.ownsRow B 5 1 p m ys := fun h => own_extG h (fun k hk => hgrow'.block k (own_lt h k hk).2 (own_apart h2 h (by decide) k hk))
      refine hK _ _ (h v' w' ⟨vs ++ vs2, by simp [h1, k1], ?_, fun p hp => ?_⟩ ((Below.refl B w).grown hgrow' hB (fun k hk => (own_lt h2 k hk).1)))
      · rw [votesCells_append l l2 vs vs2 h1, List.length_append]; exact hown'
      · rw [List.zip_append h1.symm] at hp
        rcases List.mem_append.1 hp with hp | hp
        · exact keep (h3 p hp)
        · exact keep (k3 p hp)
end Go.Proofs.Ytkpllkjionegeaa

/- Walks: what a core says (Says). -/
namespace Go.Proofs.Ytkpllkjionegeaa
open Go Go.RowKit




theorem mine_len (c : Core) (kind : Int) (m : AL Told) : (c.mine kind m).length ≤ m.length := List.length_filterMap_le _ _



set_option maxRecDepth 100000 in
set_option maxHeartbeats 1600000 in
theorem says_decided (cb : Nat) (c : Core) (L : Lay) (w : World) (hc : CoreAt w cb c L) (hw : Wf c) (hd : c.decided = true) : Calls Try.prog 36 #[.pointer (some ⟨cb, 0, none⟩)] w (fun e w' => ∃ v, e = .returned v ∧ VotesOwn w.heap.size w' v c.says ∧ Ext w w') := by
  have HF : Hid (c.says = [⟨4, c.me, c.slot, 0, -1, c.value⟩] ++ c.mine 2 c.preps ++ c.mine 3 c.comms) := Lib.hid (by unfold Core.says; cases AL.get? c.props c.view <;> simp [hd])
  cases hps : (AL.get? c.props c.view).isSome with
  | true =>
    have hlt := hc.lt
    have c15 := hc.c15
    rw [hd] at c15
    have c1 := hc.c1
    have c2 := hc.c2
    have c4 := hc.c4
    have c16 := hc.c16
    have HC := Lib.hid hc
    have HW := Lib.hid hw
    have HVL := Lib.hid hw.valueL
    clear hc hw
    go_enter Try.func36, Try.ntmps36
    go_wp2
    refine wp_region_T [16] (.pure 0 (.pure 1 (.pure 2 (.pure 3 (.pure 5 (.pure 6 (.pure 7 (.pure 9 (.pure 10 (.pure 11 (.take 4 (.take 8 (.take 12 (.one 13 (.pure 14 (.one 15 (.one 16 (.pure 17 .nil)))))))))))))))))) (by kernel_rfl) (by kernel_rfl) ?_
    iterate 10 (refine' wpT_pure rfl rfl (fun w' => ?_) ?_; rotate_left 1; (focus ((try go_simp); (try go_bits); (first | done | with_reducible rfl))); simp only [Act.put, List.setIfInBounds_toArray, List.set_cons_zero, List.set_cons_succ])
    iterate 3 (first | (refine' wpT_take_dddd rfl rfl (fun w' hc hl hsz => ?_) ?_; rotate_left 1; (focus ((try go_simp); (try go_bits); (first | done | with_reducible rfl))); simp only [Act.put, List.setIfInBounds_toArray, List.set_cons_zero, List.set_cons_succ]) | (refine' wpT_take_ddd rfl rfl (fun w' hc hl hsz => ?_) ?_; rotate_left 1; (focus ((try go_simp); (try go_bits); (first | done | with_reducible rfl))); simp only [Act.put, List.setIfInBounds_toArray, List.set_cons_zero, List.set_cons_succ]) | (refine' wpT_take_dd rfl rfl (fun w' hc hl hsz => ?_) ?_; rotate_left 1; (focus ((try go_simp); (try go_bits); (first | done | with_reducible rfl))); simp only [Act.put, List.setIfInBounds_toArray, List.set_cons_zero, List.set_cons_succ]) | (refine' wpT_take_d rfl rfl (fun w' hc hl hsz => ?_) ?_; rotate_left 1; (focus ((try go_simp); (try go_bits); (first | done | with_reducible rfl))); simp only [Act.put, List.setIfInBounds_toArray, List.set_cons_zero, List.set_cons_succ]))
    refine wpT_one rfl rfl (fun K hK => ?_)
    go_wp2_with (go_at_call 41; refine (clone_own L.value c.value _ (HC.out.ext (Ext.refl w).dr).value (by have := HVL.out; omega)).mono ?_; rintro e w5 ⟨v5, rfl, ho5, hx5⟩; obtain ⟨A5, K5, rfl⟩ := own_slice ho5)
    refine hK _ _ hx5 ?_
    clear hK K
    (refine' wpT_pure rfl rfl (fun w' => ?_) ?_; rotate_left 1; (focus ((try go_simp); (try go_bits); (first | done | with_reducible rfl))); simp only [Act.put, List.setIfInBounds_toArray, List.set_cons_zero, List.set_cons_succ])
    refine wpT_one rfl rfl (fun K hK => ?_)
    go_wp2
    refine hK _ _ (Ext.al (Ext.refl _) _) ?_
    clear hK K
    refine wpT_writer rfl rfl (by decide) (fun K hK => ?_)
    have hs5 := (Ext.undrew hx5).size
    refine wp_append_vote _ _ rfl w.heap.size (.slice none 0 0) [] rfl (VotesOwn.nil _ _) (by simp; omega) ⟨4, c.me, c.slot, 0, -1, c.value⟩ (.slice A5 c.value.length K5) (own_mono (ho5.alloc _) (Nat.le_refl _)) w5.heap.size rfl (heap_alloc_new w5 _) (by simp) ?_
    intro v6 w6 hv6 hb6
    have hx6 : Ext w w6 := Below.trans (B := w.heap.size) (Ext.al (Ext.undrew hx5) _) hb6
    first | (refine hK _ _ ?_; clear hK K) | skip
    (refine' wpT_pure rfl rfl (fun w' => ?_) ?_; rotate_left 1; (focus ((try go_simp); (try go_bits); (first | done | with_reducible rfl))); simp only [Act.put, List.setIfInBounds_toArray, List.set_cons_zero, List.set_cons_succ])
    refine wpT_nil ?_
    go_wp2
    refine wp_named (fun W => VotesOwn w.heap.size W v6 [⟨4, c.me, c.slot, 0, -1, c.value⟩] ∧ Ext w W) ⟨hv6, hx6⟩ (fun W1 ⟨hv1, hx1⟩ => ?_)
    obtain ⟨A, N, K0, q, hp1, hp2⟩ := props_look (HC.out.ext hx1).props c.view
    rw [hps] at hp1
    have d7 := (HC.out.ext hx1).c7
    have d4 := (HC.out.ext hx1).c4
    have hlt1 := (HC.out.ext hx1).lt
    have hpl := (HC.out.ext hx1).props.lt
    have HV1 := Lib.hid hv1
    have HX1 := Lib.hid hx1
    have HP2 := Lib.hid hp2
    clear hv1 hx1 hp2 hv6 hx6 hb6
    refine wp_region_T [13] (.pure 0 (.pure 1 (.pure 2 (.pure 4 (.pure 5 (.pure 6 (.take 3 (.take 7 (.take 8 (.pure 9 (.pure 10 (.pure 11 (.one 12 (.one 13 (.pure 14 .nil))))))))))))))) (by kernel_rfl) (by kernel_rfl) ?_
    iterate 6 (refine' wpT_pure rfl rfl (fun w' => ?_) ?_; rotate_left 1; (focus ((try go_simp); (try go_bits); (first | done | with_reducible rfl))); simp only [Act.put, List.setIfInBounds_toArray, List.set_cons_zero, List.set_cons_succ])
    iterate 3 (first | (refine' wpT_take_dddd rfl rfl (fun w' hc hl hsz => ?_) ?_; rotate_left 1; (focus ((try go_simp); (try go_bits); (first | done | with_reducible rfl))); simp only [Act.put, List.setIfInBounds_toArray, List.set_cons_zero, List.set_cons_succ]) | (refine' wpT_take_ddd rfl rfl (fun w' hc hl hsz => ?_) ?_; rotate_left 1; (focus ((try go_simp); (try go_bits); (first | done | with_reducible rfl))); simp only [Act.put, List.setIfInBounds_toArray, List.set_cons_zero, List.set_cons_succ]) | (refine' wpT_take_dd rfl rfl (fun w' hc hl hsz => ?_) ?_; rotate_left 1; (focus ((try go_simp); (try go_bits); (first | done | with_reducible rfl))); simp only [Act.put, List.setIfInBounds_toArray, List.set_cons_zero, List.set_cons_succ]) | (refine' wpT_take_d rfl rfl (fun w' hc hl hsz => ?_) ?_; rotate_left 1; (focus ((try go_simp); (try go_bits); (first | done | with_reducible rfl))); simp only [Act.put, List.setIfInBounds_toArray, List.set_cons_zero, List.set_cons_succ]))
    iterate 3 (refine' wpT_pure rfl rfl (fun w' => ?_) ?_; rotate_left 1; (focus ((try go_simp); (try go_bits); (first | done | with_reducible rfl))); simp only [Act.put, List.setIfInBounds_toArray, List.set_cons_zero, List.set_cons_succ])
    refine wpT_one rfl rfl (fun K hK => ?_)
    go_wp2
    refine hK _ _ (Ext.al (Ext.refl _) _) ?_
    clear hK K
    refine wpT_writer rfl rfl (by decide) (fun K hK => ?_)
    go_wp2
    first | (refine hK _ _ ?_; clear hK K) | skip
    (refine' wpT_pure rfl rfl (fun w' => ?_) ?_; rotate_left 1; (focus ((try go_simp); (try go_bits); (first | done | with_reducible rfl))); simp only [Act.put, List.setIfInBounds_toArray, List.set_cons_zero, List.set_cons_succ])
    refine wpT_nil ?_
    go_wp2
    refine wp_fresh (W1.alloc (.cells #[.slice A N K0, (.int .i64 q)] 103)) (Ext.refl _).dr (fun W2 hx2 => ?_)
    have hbx := boxed W1 #[.slice A N K0, (.int .i64 q)] 103
    have b0 : W2.cell? ⟨W1.heap.size, 0, none⟩ = some (.slice A N K0) := hx2.at (hbx.2.1 0)
    have b1 : W2.cell? ⟨W1.heap.size, 1, none⟩ = some ((.int .i64 q)) := hx2.at (hbx.2.1 1)
    have hx12 : Ext W1 W2 := Ext.trans hbx.1 hx2
    have hbl : W1.heap.size < W2.heap.size := by have := hx2.size; rw [hbx.2.2] at this; omega
    have hc2 := HC.out.ext (Ext.trans HX1.out hx12)
    have hlt2 := hc2.lt
    have e15 := hc2.c15
    rw [hd] at e15
    have e4 := hc2.c4
    have e1 := hc2.c1
    have e2 := hc2.c2
    have HX12 := Lib.hid hx12
    clear hx12 hx2 hbx hc2 hp1 d7 d4
    refine wp_region_T [] (.pure 0 (.pure 1 (.pure 2 (.pure 3 (.pure 4 (.take 5 (.pure 6 (.pure 7 (.pure 8 (.pure 9 (.pure 10 (.pure 11 (.pure 12 (.pure 15 (.pure 16 (.pure 17 (.take 13 (.take 18 (.one 14 (.pure 19 (.pure 20 .nil))))))))))))))))))))) (by kernel_rfl) (by kernel_rfl) ?_
    iterate 2 (refine' wpT_pure rfl rfl (fun w' => ?_) ?_; rotate_left 1; (focus ((try go_simp); (try go_bits); (first | done | with_reducible rfl))); simp only [Act.put, List.setIfInBounds_toArray, List.set_cons_zero, List.set_cons_succ])
    iterate 3 (first | (refine' wpT_pure_on rfl rfl (fun w' => ?_) ?_; rotate_left 1; (focus ((try go_simp); (try go_bits); (first | done | with_reducible rfl))); simp only [Act.put, List.setIfInBounds_toArray, List.set_cons_zero, List.set_cons_succ]) | (refine wpT_pure_off rfl rfl ?_; simp only [Act.put, List.setIfInBounds_toArray, List.set_cons_zero, List.set_cons_succ]))
    first | (refine' wpT_take_on_dddd rfl rfl (fun w' hc hl hsz => ?_) ?_; rotate_left 1; (focus ((try go_simp); (try go_bits); (first | done | with_reducible rfl))); simp only [Act.put, List.setIfInBounds_toArray, List.set_cons_zero, List.set_cons_succ]) | (refine' wpT_take_on_ddd rfl rfl (fun w' hc hl hsz => ?_) ?_; rotate_left 1; (focus ((try go_simp); (try go_bits); (first | done | with_reducible rfl))); simp only [Act.put, List.setIfInBounds_toArray, List.set_cons_zero, List.set_cons_succ]) | (refine' wpT_take_on_dd rfl rfl (fun w' hc hl hsz => ?_) ?_; rotate_left 1; (focus ((try go_simp); (try go_bits); (first | done | with_reducible rfl))); simp only [Act.put, List.setIfInBounds_toArray, List.set_cons_zero, List.set_cons_succ]) | (refine' wpT_take_on_d rfl rfl (fun w' hc hl hsz => ?_) ?_; rotate_left 1; (focus ((try go_simp); (try go_bits); (first | done | with_reducible rfl))); simp only [Act.put, List.setIfInBounds_toArray, List.set_cons_zero, List.set_cons_succ]) | (refine wpT_take_off rfl rfl ?_; simp only [Act.put, List.setIfInBounds_toArray, List.set_cons_zero, List.set_cons_succ])
    first | (refine' wpT_pure_on rfl rfl (fun w' => ?_) ?_; rotate_left 1; (focus ((try go_simp); (try go_bits); (first | done | with_reducible rfl))); simp only [Act.put, List.setIfInBounds_toArray, List.set_cons_zero, List.set_cons_succ]) | (refine wpT_pure_off rfl rfl ?_; simp only [Act.put, List.setIfInBounds_toArray, List.set_cons_zero, List.set_cons_succ])
    iterate 2 (refine' wpT_pure rfl rfl (fun w' => ?_) ?_; rotate_left 1; (focus ((try go_simp); (try go_bits); (first | done | with_reducible rfl))); simp only [Act.put, List.setIfInBounds_toArray, List.set_cons_zero, List.set_cons_succ])
    iterate 7 (first | (refine' wpT_pure_on rfl rfl (fun w' => ?_) ?_; rotate_left 1; (focus ((try go_simp); (try go_bits); (first | done | with_reducible rfl))); simp only [Act.put, List.setIfInBounds_toArray, List.set_cons_zero, List.set_cons_succ]) | (refine wpT_pure_off rfl rfl ?_; simp only [Act.put, List.setIfInBounds_toArray, List.set_cons_zero, List.set_cons_succ]))
    iterate 2 (first | (refine' wpT_take_on_dddd rfl rfl (fun w' hc hl hsz => ?_) ?_; rotate_left 1; (focus ((try go_simp); (try go_bits); (first | done | with_reducible rfl))); simp only [Act.put, List.setIfInBounds_toArray, List.set_cons_zero, List.set_cons_succ]) | (refine' wpT_take_on_ddd rfl rfl (fun w' hc hl hsz => ?_) ?_; rotate_left 1; (focus ((try go_simp); (try go_bits); (first | done | with_reducible rfl))); simp only [Act.put, List.setIfInBounds_toArray, List.set_cons_zero, List.set_cons_succ]) | (refine' wpT_take_on_dd rfl rfl (fun w' hc hl hsz => ?_) ?_; rotate_left 1; (focus ((try go_simp); (try go_bits); (first | done | with_reducible rfl))); simp only [Act.put, List.setIfInBounds_toArray, List.set_cons_zero, List.set_cons_succ]) | (refine' wpT_take_on_d rfl rfl (fun w' hc hl hsz => ?_) ?_; rotate_left 1; (focus ((try go_simp); (try go_bits); (first | done | with_reducible rfl))); simp only [Act.put, List.setIfInBounds_toArray, List.set_cons_zero, List.set_cons_succ]) | (refine wpT_take_off rfl rfl ?_; simp only [Act.put, List.setIfInBounds_toArray, List.set_cons_zero, List.set_cons_succ]))
    refine wpT_one_off rfl rfl ?_
    simp only [Act.put, List.setIfInBounds_toArray, List.set_cons_zero, List.set_cons_succ]
    first | (refine' wpT_pure_on rfl rfl (fun w' => ?_) ?_; rotate_left 1; (focus ((try go_simp); (try go_bits); (first | done | with_reducible rfl))); simp only [Act.put, List.setIfInBounds_toArray, List.set_cons_zero, List.set_cons_succ]) | (refine wpT_pure_off rfl rfl ?_; simp only [Act.put, List.setIfInBounds_toArray, List.set_cons_zero, List.set_cons_succ])
    (refine' wpT_pure rfl rfl (fun w' => ?_) ?_; rotate_left 1; (focus ((try go_simp); (try go_bits); (first | done | with_reducible rfl))); simp only [Act.put, List.setIfInBounds_toArray, List.set_cons_zero, List.set_cons_succ])
    refine wpT_nil ?_
    have hv3 := HV1.out.ext (Ext.trans HX12.out (Ext.refl W2).dr)
    have hxb := Ext.trans HX1.out HX12.out
    have hx3 := Ext.trans HX1.out (Ext.trans HX12.out (Ext.refl W2).dr)
    have HK3 := Lib.hid (HC.out.ext hx3)
    have y8 := (HC.out.ext hxb).c8
    have hlt3 := (HC.out.ext hxb).lt
    clear hxb
    have HV3 := Lib.hid hv3
    have HX3 := Lib.hid hx3
    have hm2 : (c.mine 2 c.preps).length ≤ 1048577 := Nat.le_trans (mine_len _ _ _) HW.out.preps.keys.2
    have hm3 : (c.mine 3 c.comms).length ≤ 1048577 := Nat.le_trans (mine_len _ _ _) HW.out.comms.keys.2
    have HM23 := Lib.hid (And.intro hm2 hm3)
    clear hv3 hx3 hm2 hm3
    go_wp2_with (first
      | (go_at_call 49; refine (mine_calls cb c L 2 L.preps c.preps L.ip _ HK3.out HK3.out.preps HW.out.preps).mono ?_; rintro e w7 ⟨v7, rfl, hv7, hx7⟩; have HV4 := Lib.hid (HV3.out.ext hx7); have HM4 := Lib.hid (hv7.mono HX3.out.size); have HX4 := Lib.hid (Ext.trans HX3.out hx7); clear HK3 hv7 hx7)
      | (at_builtin; refine wpList_append_votes rfl _ _ rfl w.heap.size v6 _ rfl HV4.out HX4.out.size v7 _ rfl HM4.out (by simp; have := HM23.out.1; omega) ?_; intro v8 w8 hv8 hb8; have HX5 := Lib.hid (Below.trans (B := w.heap.size) HX4.out hb8); have HV5 := Lib.hid hv8; have HK5 := Lib.hid (HC.out.ext HX5.out); have y9 := HK5.out.c9; have hlt5 := HK5.out.lt; clear HV4 hv8 hb8)
      | (go_at_call 49; refine (mine_calls cb c L 3 L.comms c.comms L.ic _ HK5.out HK5.out.comms HW.out.comms).mono ?_; rintro e w9 ⟨v9, rfl, hv9, hx9⟩; have HV6 := Lib.hid (HV5.out.ext hx9); have HM6 := Lib.hid (hv9.mono HX5.out.size); have HX6 := Lib.hid (Ext.trans HX5.out hx9); clear HK5 hv9 hx9)
      | (at_builtin; refine wpList_append_votes rfl _ _ rfl w.heap.size v8 _ rfl HV6.out HX6.out.size v9 _ rfl HM6.out (by simp; have := HM23.out; omega) ?_; intro v10 w10 hv10 hb10; have HX7 := Lib.hid (Below.trans (B := w.heap.size) HX6.out hb10); have HV7 := Lib.hid hv10; clear HV6 hv10 hb10))
    go_ret
    exact ⟨_, rfl, by rw [HF.out]; exact HV7.out, HX7.out⟩
  | false =>
    have hlt := hc.lt
    have c15 := hc.c15
    rw [hd] at c15
    have c1 := hc.c1
    have c2 := hc.c2
    have c4 := hc.c4
    have c16 := hc.c16
    have HC := Lib.hid hc
    have HW := Lib.hid hw
    have HVL := Lib.hid hw.valueL
    clear hc hw
    go_enter Try.func36, Try.ntmps36
    go_wp2
    refine wp_region_T [16] (.pure 0 (.pure 1 (.pure 2 (.pure 3 (.pure 5 (.pure 6 (.pure 7 (.pure 9 (.pure 10 (.pure 11 (.take 4 (.take 8 (.take 12 (.one 13 (.pure 14 (.one 15 (.one 16 (.pure 17 .nil)))))))))))))))))) (by kernel_rfl) (by kernel_rfl) ?_
    iterate 10 (refine' wpT_pure rfl rfl (fun w' => ?_) ?_; rotate_left 1; (focus ((try go_simp); (try go_bits); (first | done | with_reducible rfl))); simp only [Act.put, List.setIfInBounds_toArray, List.set_cons_zero, List.set_cons_succ])
    iterate 3 (first | (refine' wpT_take_dddd rfl rfl (fun w' hc hl hsz => ?_) ?_; rotate_left 1; (focus ((try go_simp); (try go_bits); (first | done | with_reducible rfl))); simp only [Act.put, List.setIfInBounds_toArray, List.set_cons_zero, List.set_cons_succ]) | (refine' wpT_take_ddd rfl rfl (fun w' hc hl hsz => ?_) ?_; rotate_left 1; (focus ((try go_simp); (try go_bits); (first | done | with_reducible rfl))); simp only [Act.put, List.setIfInBounds_toArray, List.set_cons_zero, List.set_cons_succ]) | (refine' wpT_take_dd rfl rfl (fun w' hc hl hsz => ?_) ?_; rotate_left 1; (focus ((try go_simp); (try go_bits); (first | done | with_reducible rfl))); simp only [Act.put, List.setIfInBounds_toArray, List.set_cons_zero, List.set_cons_succ]) | (refine' wpT_take_d rfl rfl (fun w' hc hl hsz => ?_) ?_; rotate_left 1; (focus ((try go_simp); (try go_bits); (first | done | with_reducible rfl))); simp only [Act.put, List.setIfInBounds_toArray, List.set_cons_zero, List.set_cons_succ]))
    refine wpT_one rfl rfl (fun K hK => ?_)
    go_wp2_with (go_at_call 41; refine (clone_own L.value c.value _ (HC.out.ext (Ext.refl w).dr).value (by have := HVL.out; omega)).mono ?_; rintro e w5 ⟨v5, rfl, ho5, hx5⟩; obtain ⟨A5, K5, rfl⟩ := own_slice ho5)
    refine hK _ _ hx5 ?_
    clear hK K
    (refine' wpT_pure rfl rfl (fun w' => ?_) ?_; rotate_left 1; (focus ((try go_simp); (try go_bits); (first | done | with_reducible rfl))); simp only [Act.put, List.setIfInBounds_toArray, List.set_cons_zero, List.set_cons_succ])
    refine wpT_one rfl rfl (fun K hK => ?_)
    go_wp2
    refine hK _ _ (Ext.al (Ext.refl _) _) ?_
    clear hK K
    refine wpT_writer rfl rfl (by decide) (fun K hK => ?_)
    have hs5 := (Ext.undrew hx5).size
    refine wp_append_vote _ _ rfl w.heap.size (.slice none 0 0) [] rfl (VotesOwn.nil _ _) (by simp; omega) ⟨4, c.me, c.slot, 0, -1, c.value⟩ (.slice A5 c.value.length K5) (own_mono (ho5.alloc _) (Nat.le_refl _)) w5.heap.size rfl (heap_alloc_new w5 _) (by simp) ?_
    intro v6 w6 hv6 hb6
    have hx6 : Ext w w6 := Below.trans (B := w.heap.size) (Ext.al (Ext.undrew hx5) _) hb6
    first | (refine hK _ _ ?_; clear hK K) | skip
    (refine' wpT_pure rfl rfl (fun w' => ?_) ?_; rotate_left 1; (focus ((try go_simp); (try go_bits); (first | done | with_reducible rfl))); simp only [Act.put, List.setIfInBounds_toArray, List.set_cons_zero, List.set_cons_succ])
    refine wpT_nil ?_
    go_wp2
    refine wp_named (fun W => VotesOwn w.heap.size W v6 [⟨4, c.me, c.slot, 0, -1, c.value⟩] ∧ Ext w W) ⟨hv6, hx6⟩ (fun W1 ⟨hv1, hx1⟩ => ?_)
    obtain ⟨A, N, K0, q, hp1, hp2⟩ := props_look (HC.out.ext hx1).props c.view
    rw [hps] at hp1
    have d7 := (HC.out.ext hx1).c7
    have d4 := (HC.out.ext hx1).c4
    have hlt1 := (HC.out.ext hx1).lt
    have hpl := (HC.out.ext hx1).props.lt
    have HV1 := Lib.hid hv1
    have HX1 := Lib.hid hx1
    have HP2 := Lib.hid hp2
    clear hv1 hx1 hp2 hv6 hx6 hb6
    refine wp_region_T [13] (.pure 0 (.pure 1 (.pure 2 (.pure 4 (.pure 5 (.pure 6 (.take 3 (.take 7 (.take 8 (.pure 9 (.pure 10 (.pure 11 (.one 12 (.one 13 (.pure 14 .nil))))))))))))))) (by kernel_rfl) (by kernel_rfl) ?_
    iterate 6 (refine' wpT_pure rfl rfl (fun w' => ?_) ?_; rotate_left 1; (focus ((try go_simp); (try go_bits); (first | done | with_reducible rfl))); simp only [Act.put, List.setIfInBounds_toArray, List.set_cons_zero, List.set_cons_succ])
    iterate 3 (first | (refine' wpT_take_dddd rfl rfl (fun w' hc hl hsz => ?_) ?_; rotate_left 1; (focus ((try go_simp); (try go_bits); (first | done | with_reducible rfl))); simp only [Act.put, List.setIfInBounds_toArray, List.set_cons_zero, List.set_cons_succ]) | (refine' wpT_take_ddd rfl rfl (fun w' hc hl hsz => ?_) ?_; rotate_left 1; (focus ((try go_simp); (try go_bits); (first | done | with_reducible rfl))); simp only [Act.put, List.setIfInBounds_toArray, List.set_cons_zero, List.set_cons_succ]) | (refine' wpT_take_dd rfl rfl (fun w' hc hl hsz => ?_) ?_; rotate_left 1; (focus ((try go_simp); (try go_bits); (first | done | with_reducible rfl))); simp only [Act.put, List.setIfInBounds_toArray, List.set_cons_zero, List.set_cons_succ]) | (refine' wpT_take_d rfl rfl (fun w' hc hl hsz => ?_) ?_; rotate_left 1; (focus ((try go_simp); (try go_bits); (first | done | with_reducible rfl))); simp only [Act.put, List.setIfInBounds_toArray, List.set_cons_zero, List.set_cons_succ]))
    iterate 3 (refine' wpT_pure rfl rfl (fun w' => ?_) ?_; rotate_left 1; (focus ((try go_simp); (try go_bits); (first | done | with_reducible rfl))); simp only [Act.put, List.setIfInBounds_toArray, List.set_cons_zero, List.set_cons_succ])
    refine wpT_one rfl rfl (fun K hK => ?_)
    go_wp2
    refine hK _ _ (Ext.al (Ext.refl _) _) ?_
    clear hK K
    refine wpT_writer rfl rfl (by decide) (fun K hK => ?_)
    go_wp2
    first | (refine hK _ _ ?_; clear hK K) | skip
    (refine' wpT_pure rfl rfl (fun w' => ?_) ?_; rotate_left 1; (focus ((try go_simp); (try go_bits); (first | done | with_reducible rfl))); simp only [Act.put, List.setIfInBounds_toArray, List.set_cons_zero, List.set_cons_succ])
    refine wpT_nil ?_
    go_wp2
    refine wp_fresh (W1.alloc (.cells #[.slice A N K0, (.int .i64 q)] 103)) (Ext.refl _).dr (fun W2 hx2 => ?_)
    have hbx := boxed W1 #[.slice A N K0, (.int .i64 q)] 103
    have b0 : W2.cell? ⟨W1.heap.size, 0, none⟩ = some (.slice A N K0) := hx2.at (hbx.2.1 0)
    have b1 : W2.cell? ⟨W1.heap.size, 1, none⟩ = some ((.int .i64 q)) := hx2.at (hbx.2.1 1)
    have hx12 : Ext W1 W2 := Ext.trans hbx.1 hx2
    have hbl : W1.heap.size < W2.heap.size := by have := hx2.size; rw [hbx.2.2] at this; omega
    have hc2 := HC.out.ext (Ext.trans HX1.out hx12)
    have hlt2 := hc2.lt
    have e15 := hc2.c15
    rw [hd] at e15
    have e4 := hc2.c4
    have e1 := hc2.c1
    have e2 := hc2.c2
    have HX12 := Lib.hid hx12
    clear hx12 hx2 hbx hc2 hp1 d7 d4
    refine wp_region_T [] (.pure 0 (.pure 1 (.pure 2 (.pure 3 (.pure 4 (.take 5 (.pure 6 (.pure 7 (.pure 8 (.pure 9 (.pure 10 (.pure 11 (.pure 12 (.pure 15 (.pure 16 (.pure 17 (.take 13 (.take 18 (.one 14 (.pure 19 (.pure 20 .nil))))))))))))))))))))) (by kernel_rfl) (by kernel_rfl) ?_
    iterate 2 (refine' wpT_pure rfl rfl (fun w' => ?_) ?_; rotate_left 1; (focus ((try go_simp); (try go_bits); (first | done | with_reducible rfl))); simp only [Act.put, List.setIfInBounds_toArray, List.set_cons_zero, List.set_cons_succ])
    iterate 3 (first | (refine' wpT_pure_on rfl rfl (fun w' => ?_) ?_; rotate_left 1; (focus ((try go_simp); (try go_bits); (first | done | with_reducible rfl))); simp only [Act.put, List.setIfInBounds_toArray, List.set_cons_zero, List.set_cons_succ]) | (refine wpT_pure_off rfl rfl ?_; simp only [Act.put, List.setIfInBounds_toArray, List.set_cons_zero, List.set_cons_succ]))
    first | (refine' wpT_take_on_dddd rfl rfl (fun w' hc hl hsz => ?_) ?_; rotate_left 1; (focus ((try go_simp); (try go_bits); (first | done | with_reducible rfl))); simp only [Act.put, List.setIfInBounds_toArray, List.set_cons_zero, List.set_cons_succ]) | (refine' wpT_take_on_ddd rfl rfl (fun w' hc hl hsz => ?_) ?_; rotate_left 1; (focus ((try go_simp); (try go_bits); (first | done | with_reducible rfl))); simp only [Act.put, List.setIfInBounds_toArray, List.set_cons_zero, List.set_cons_succ]) | (refine' wpT_take_on_dd rfl rfl (fun w' hc hl hsz => ?_) ?_; rotate_left 1; (focus ((try go_simp); (try go_bits); (first | done | with_reducible rfl))); simp only [Act.put, List.setIfInBounds_toArray, List.set_cons_zero, List.set_cons_succ]) | (refine' wpT_take_on_d rfl rfl (fun w' hc hl hsz => ?_) ?_; rotate_left 1; (focus ((try go_simp); (try go_bits); (first | done | with_reducible rfl))); simp only [Act.put, List.setIfInBounds_toArray, List.set_cons_zero, List.set_cons_succ]) | (refine wpT_take_off rfl rfl ?_; simp only [Act.put, List.setIfInBounds_toArray, List.set_cons_zero, List.set_cons_succ])
    first | (refine' wpT_pure_on rfl rfl (fun w' => ?_) ?_; rotate_left 1; (focus ((try go_simp); (try go_bits); (first | done | with_reducible rfl))); simp only [Act.put, List.setIfInBounds_toArray, List.set_cons_zero, List.set_cons_succ]) | (refine wpT_pure_off rfl rfl ?_; simp only [Act.put, List.setIfInBounds_toArray, List.set_cons_zero, List.set_cons_succ])
    iterate 2 (refine' wpT_pure rfl rfl (fun w' => ?_) ?_; rotate_left 1; (focus ((try go_simp); (try go_bits); (first | done | with_reducible rfl))); simp only [Act.put, List.setIfInBounds_toArray, List.set_cons_zero, List.set_cons_succ])
    iterate 7 (first | (refine' wpT_pure_on rfl rfl (fun w' => ?_) ?_; rotate_left 1; (focus ((try go_simp); (try go_bits); (first | done | with_reducible rfl))); simp only [Act.put, List.setIfInBounds_toArray, List.set_cons_zero, List.set_cons_succ]) | (refine wpT_pure_off rfl rfl ?_; simp only [Act.put, List.setIfInBounds_toArray, List.set_cons_zero, List.set_cons_succ]))
    iterate 2 (first | (refine' wpT_take_on_dddd rfl rfl (fun w' hc hl hsz => ?_) ?_; rotate_left 1; (focus ((try go_simp); (try go_bits); (first | done | with_reducible rfl))); simp only [Act.put, List.setIfInBounds_toArray, List.set_cons_zero, List.set_cons_succ]) | (refine' wpT_take_on_ddd rfl rfl (fun w' hc hl hsz => ?_) ?_; rotate_left 1; (focus ((try go_simp); (try go_bits); (first | done | with_reducible rfl))); simp only [Act.put, List.setIfInBounds_toArray, List.set_cons_zero, List.set_cons_succ]) | (refine' wpT_take_on_dd rfl rfl (fun w' hc hl hsz => ?_) ?_; rotate_left 1; (focus ((try go_simp); (try go_bits); (first | done | with_reducible rfl))); simp only [Act.put, List.setIfInBounds_toArray, List.set_cons_zero, List.set_cons_succ]) | (refine' wpT_take_on_d rfl rfl (fun w' hc hl hsz => ?_) ?_; rotate_left 1; (focus ((try go_simp); (try go_bits); (first | done | with_reducible rfl))); simp only [Act.put, List.setIfInBounds_toArray, List.set_cons_zero, List.set_cons_succ]) | (refine wpT_take_off rfl rfl ?_; simp only [Act.put, List.setIfInBounds_toArray, List.set_cons_zero, List.set_cons_succ]))
    refine wpT_one_off rfl rfl ?_
    simp only [Act.put, List.setIfInBounds_toArray, List.set_cons_zero, List.set_cons_succ]
    first | (refine' wpT_pure_on rfl rfl (fun w' => ?_) ?_; rotate_left 1; (focus ((try go_simp); (try go_bits); (first | done | with_reducible rfl))); simp only [Act.put, List.setIfInBounds_toArray, List.set_cons_zero, List.set_cons_succ]) | (refine wpT_pure_off rfl rfl ?_; simp only [Act.put, List.setIfInBounds_toArray, List.set_cons_zero, List.set_cons_succ])
    (refine' wpT_pure rfl rfl (fun w' => ?_) ?_; rotate_left 1; (focus ((try go_simp); (try go_bits); (first | done | with_reducible rfl))); simp only [Act.put, List.setIfInBounds_toArray, List.set_cons_zero, List.set_cons_succ])
    refine wpT_nil ?_
    have hv3 := HV1.out.ext (Ext.trans HX12.out (Ext.refl W2).dr)
    have hxb := Ext.trans HX1.out HX12.out
    have hx3 := Ext.trans HX1.out (Ext.trans HX12.out (Ext.refl W2).dr)
    have HK3 := Lib.hid (HC.out.ext hx3)
    have y8 := (HC.out.ext hxb).c8
    have hlt3 := (HC.out.ext hxb).lt
    clear hxb
    have HV3 := Lib.hid hv3
    have HX3 := Lib.hid hx3
    have hm2 : (c.mine 2 c.preps).length ≤ 1048577 := Nat.le_trans (mine_len _ _ _) HW.out.preps.keys.2
    have hm3 : (c.mine 3 c.comms).length ≤ 1048577 := Nat.le_trans (mine_len _ _ _) HW.out.comms.keys.2
    have HM23 := Lib.hid (And.intro hm2 hm3)
    clear hv3 hx3 hm2 hm3
    go_wp2_with (first
      | (go_at_call 49; refine (mine_calls cb c L 2 L.preps c.preps L.ip _ HK3.out HK3.out.preps HW.out.preps).mono ?_; rintro e w7 ⟨v7, rfl, hv7, hx7⟩; have HV4 := Lib.hid (HV3.out.ext hx7); have HM4 := Lib.hid (hv7.mono HX3.out.size); have HX4 := Lib.hid (Ext.trans HX3.out hx7); clear HK3 hv7 hx7)
      | (at_builtin; refine wpList_append_votes rfl _ _ rfl w.heap.size v6 _ rfl HV4.out HX4.out.size v7 _ rfl HM4.out (by simp; have := HM23.out.1; omega) ?_; intro v8 w8 hv8 hb8; have HX5 := Lib.hid (Below.trans (B := w.heap.size) HX4.out hb8); have HV5 := Lib.hid hv8; have HK5 := Lib.hid (HC.out.ext HX5.out); have y9 := HK5.out.c9; have hlt5 := HK5.out.lt; clear HV4 hv8 hb8)
      | (go_at_call 49; refine (mine_calls cb c L 3 L.comms c.comms L.ic _ HK5.out HK5.out.comms HW.out.comms).mono ?_; rintro e w9 ⟨v9, rfl, hv9, hx9⟩; have HV6 := Lib.hid (HV5.out.ext hx9); have HM6 := Lib.hid (hv9.mono HX5.out.size); have HX6 := Lib.hid (Ext.trans HX5.out hx9); clear HK5 hv9 hx9)
      | (at_builtin; refine wpList_append_votes rfl _ _ rfl w.heap.size v8 _ rfl HV6.out HX6.out.size v9 _ rfl HM6.out (by simp; have := HM23.out; omega) ?_; intro v10 w10 hv10 hb10; have HX7 := Lib.hid (Below.trans (B := w.heap.size) HX6.out hb10); have HV7 := Lib.hid hv10; clear HV6 hv10 hb10))
    go_ret
    exact ⟨_, rfl, by rw [HF.out]; exact HV7.out, HX7.out⟩


set_option maxRecDepth 100000 in
set_option maxHeartbeats 1600000 in
theorem says_none (cb : Nat) (c : Core) (L : Lay) (w : World) (hc : CoreAt w cb c L) (hw : Wf c) (hd : c.decided = false) (hps : (AL.get? c.props c.view).isSome = false) : Calls Try.prog 36 #[.pointer (some ⟨cb, 0, none⟩)] w (fun e w' => ∃ v, e = .returned v ∧ VotesOwn w.heap.size w' v c.says ∧ Ext w w') := by
  have HF : Hid (c.says = [⟨5, c.me, c.slot, c.view, -1, []⟩] ++ c.mine 2 c.preps ++ c.mine 3 c.comms) := Lib.hid (by unfold Core.says; cases h : AL.get? c.props c.view <;> simp_all)
  have hlt := hc.lt
  have c15 := hc.c15
  rw [hd] at c15
  have c1 := hc.c1
  have c2 := hc.c2
  have c4 := hc.c4
  have HC := Lib.hid hc
  have HW := Lib.hid hw
  clear hc hw
  go_enter Try.func36, Try.ntmps36
  go_wp2
  refine wp_region_T [15] (.pure 0 (.pure 1 (.pure 2 (.pure 3 (.pure 5 (.pure 6 (.pure 7 (.pure 9 (.pure 10 (.pure 11 (.take 4 (.take 8 (.take 12 (.pure 13 (.one 14 (.one 15 (.pure 16 .nil))))))))))))))))) (by kernel_rfl) (by kernel_rfl) ?_
  iterate 10 (refine' wpT_pure rfl rfl (fun w' => ?_) ?_; rotate_left 1; (focus ((try go_simp); (try go_bits); (first | done | with_reducible rfl))); simp only [Act.put, List.setIfInBounds_toArray, List.set_cons_zero, List.set_cons_succ])
  iterate 3 (first | (refine' wpT_take_dddd rfl rfl (fun w' hc hl hsz => ?_) ?_; rotate_left 1; (focus ((try go_simp); (try go_bits); (first | done | with_reducible rfl))); simp only [Act.put, List.setIfInBounds_toArray, List.set_cons_zero, List.set_cons_succ]) | (refine' wpT_take_ddd rfl rfl (fun w' hc hl hsz => ?_) ?_; rotate_left 1; (focus ((try go_simp); (try go_bits); (first | done | with_reducible rfl))); simp only [Act.put, List.setIfInBounds_toArray, List.set_cons_zero, List.set_cons_succ]) | (refine' wpT_take_dd rfl rfl (fun w' hc hl hsz => ?_) ?_; rotate_left 1; (focus ((try go_simp); (try go_bits); (first | done | with_reducible rfl))); simp only [Act.put, List.setIfInBounds_toArray, List.set_cons_zero, List.set_cons_succ]) | (refine' wpT_take_d rfl rfl (fun w' hc hl hsz => ?_) ?_; rotate_left 1; (focus ((try go_simp); (try go_bits); (first | done | with_reducible rfl))); simp only [Act.put, List.setIfInBounds_toArray, List.set_cons_zero, List.set_cons_succ]))
  (refine' wpT_pure rfl rfl (fun w' => ?_) ?_; rotate_left 1; (focus ((try go_simp); (try go_bits); (first | done | with_reducible rfl))); simp only [Act.put, List.setIfInBounds_toArray, List.set_cons_zero, List.set_cons_succ])
  refine wpT_one rfl rfl (fun K hK => ?_)
  go_wp2
  refine hK _ _ (Ext.al (Ext.refl _) _) ?_
  clear hK K
  refine wpT_writer rfl rfl (by decide) (fun K hK => ?_)
  refine wp_append_vote _ _ rfl w.heap.size (.slice none 0 0) [] rfl (VotesOwn.nil _ _) (by show w.heap.size ≤ (w.alloc _).heap.size; simp) ⟨5, c.me, c.slot, c.view, -1, []⟩ (.slice none 0 0) (World.ownsRow_nil _ _ _ _) w.heap.size rfl (heap_alloc_new w _) (by simp) ?_
  intro v6 w6 hv6 hb6
  have hx6 : Ext w w6 := Below.trans (B := w.heap.size) (Ext.dr (Ext.al (Ext.refl w) _)) hb6
  first | (refine hK _ _ ?_; clear hK K) | skip
  (refine' wpT_pure rfl rfl (fun w' => ?_) ?_; rotate_left 1; (focus ((try go_simp); (try go_bits); (first | done | with_reducible rfl))); simp only [Act.put, List.setIfInBounds_toArray, List.set_cons_zero, List.set_cons_succ])
  refine wpT_nil ?_
  go_wp2
  refine wp_named (fun W => VotesOwn w.heap.size W v6 [⟨5, c.me, c.slot, c.view, -1, []⟩] ∧ Ext w W) ⟨hv6, hx6⟩ (fun W1 ⟨hv1, hx1⟩ => ?_)
  obtain ⟨A, N, K0, q, hp1, hp2⟩ := props_look (HC.out.ext hx1).props c.view
  rw [hps] at hp1
  have d7 := (HC.out.ext hx1).c7
  have d4 := (HC.out.ext hx1).c4
  have hlt1 := (HC.out.ext hx1).lt
  have hpl := (HC.out.ext hx1).props.lt
  have HV1 := Lib.hid hv1
  have HX1 := Lib.hid hx1
  have HP2 := Lib.hid hp2
  clear hv1 hx1 hp2 hv6 hx6 hb6
  refine wp_region_T [13] (.pure 0 (.pure 1 (.pure 2 (.pure 4 (.pure 5 (.pure 6 (.take 3 (.take 7 (.take 8 (.pure 9 (.pure 10 (.pure 11 (.one 12 (.one 13 (.pure 14 .nil))))))))))))))) (by kernel_rfl) (by kernel_rfl) ?_
  iterate 6 (refine' wpT_pure rfl rfl (fun w' => ?_) ?_; rotate_left 1; (focus ((try go_simp); (try go_bits); (first | done | with_reducible rfl))); simp only [Act.put, List.setIfInBounds_toArray, List.set_cons_zero, List.set_cons_succ])
  iterate 3 (first | (refine' wpT_take_dddd rfl rfl (fun w' hc hl hsz => ?_) ?_; rotate_left 1; (focus ((try go_simp); (try go_bits); (first | done | with_reducible rfl))); simp only [Act.put, List.setIfInBounds_toArray, List.set_cons_zero, List.set_cons_succ]) | (refine' wpT_take_ddd rfl rfl (fun w' hc hl hsz => ?_) ?_; rotate_left 1; (focus ((try go_simp); (try go_bits); (first | done | with_reducible rfl))); simp only [Act.put, List.setIfInBounds_toArray, List.set_cons_zero, List.set_cons_succ]) | (refine' wpT_take_dd rfl rfl (fun w' hc hl hsz => ?_) ?_; rotate_left 1; (focus ((try go_simp); (try go_bits); (first | done | with_reducible rfl))); simp only [Act.put, List.setIfInBounds_toArray, List.set_cons_zero, List.set_cons_succ]) | (refine' wpT_take_d rfl rfl (fun w' hc hl hsz => ?_) ?_; rotate_left 1; (focus ((try go_simp); (try go_bits); (first | done | with_reducible rfl))); simp only [Act.put, List.setIfInBounds_toArray, List.set_cons_zero, List.set_cons_succ]))
  iterate 3 (refine' wpT_pure rfl rfl (fun w' => ?_) ?_; rotate_left 1; (focus ((try go_simp); (try go_bits); (first | done | with_reducible rfl))); simp only [Act.put, List.setIfInBounds_toArray, List.set_cons_zero, List.set_cons_succ])
  refine wpT_one rfl rfl (fun K hK => ?_)
  go_wp2
  refine hK _ _ (Ext.al (Ext.refl _) _) ?_
  clear hK K
  refine wpT_writer rfl rfl (by decide) (fun K hK => ?_)
  go_wp2
  first | (refine hK _ _ ?_; clear hK K) | skip
  (refine' wpT_pure rfl rfl (fun w' => ?_) ?_; rotate_left 1; (focus ((try go_simp); (try go_bits); (first | done | with_reducible rfl))); simp only [Act.put, List.setIfInBounds_toArray, List.set_cons_zero, List.set_cons_succ])
  refine wpT_nil ?_
  go_wp2
  refine wp_fresh (W1.alloc (.cells #[.slice A N K0, (.int .i64 q)] 103)) (Ext.refl _).dr (fun W2 hx2 => ?_)
  have hbx := boxed W1 #[.slice A N K0, (.int .i64 q)] 103
  have b0 : W2.cell? ⟨W1.heap.size, 0, none⟩ = some (.slice A N K0) := hx2.at (hbx.2.1 0)
  have b1 : W2.cell? ⟨W1.heap.size, 1, none⟩ = some ((.int .i64 q)) := hx2.at (hbx.2.1 1)
  have hx12 : Ext W1 W2 := Ext.trans hbx.1 hx2
  have hbl : W1.heap.size < W2.heap.size := by have := hx2.size; rw [hbx.2.2] at this; omega
  have hc2 := HC.out.ext (Ext.trans HX1.out hx12)
  have hlt2 := hc2.lt
  have e15 := hc2.c15
  rw [hd] at e15
  have e4 := hc2.c4
  have e1 := hc2.c1
  have e2 := hc2.c2
  have HX12 := Lib.hid hx12
  clear hx12 hx2 hbx hc2 hp1 d7 d4
  refine wp_region_T [] (.pure 0 (.pure 1 (.pure 2 (.pure 3 (.pure 4 (.take 5 (.pure 6 (.pure 7 (.pure 8 (.pure 9 (.pure 10 (.pure 11 (.pure 12 (.pure 15 (.pure 16 (.pure 17 (.take 13 (.take 18 (.one 14 (.pure 19 (.pure 20 .nil))))))))))))))))))))) (by kernel_rfl) (by kernel_rfl) ?_
  iterate 2 (refine' wpT_pure rfl rfl (fun w' => ?_) ?_; rotate_left 1; (focus ((try go_simp); (try go_bits); (first | done | with_reducible rfl))); simp only [Act.put, List.setIfInBounds_toArray, List.set_cons_zero, List.set_cons_succ])
  iterate 3 (first | (refine' wpT_pure_on rfl rfl (fun w' => ?_) ?_; rotate_left 1; (focus ((try go_simp); (try go_bits); (first | done | with_reducible rfl))); simp only [Act.put, List.setIfInBounds_toArray, List.set_cons_zero, List.set_cons_succ]) | (refine wpT_pure_off rfl rfl ?_; simp only [Act.put, List.setIfInBounds_toArray, List.set_cons_zero, List.set_cons_succ]))
  first | (refine' wpT_take_on_dddd rfl rfl (fun w' hc hl hsz => ?_) ?_; rotate_left 1; (focus ((try go_simp); (try go_bits); (first | done | with_reducible rfl))); simp only [Act.put, List.setIfInBounds_toArray, List.set_cons_zero, List.set_cons_succ]) | (refine' wpT_take_on_ddd rfl rfl (fun w' hc hl hsz => ?_) ?_; rotate_left 1; (focus ((try go_simp); (try go_bits); (first | done | with_reducible rfl))); simp only [Act.put, List.setIfInBounds_toArray, List.set_cons_zero, List.set_cons_succ]) | (refine' wpT_take_on_dd rfl rfl (fun w' hc hl hsz => ?_) ?_; rotate_left 1; (focus ((try go_simp); (try go_bits); (first | done | with_reducible rfl))); simp only [Act.put, List.setIfInBounds_toArray, List.set_cons_zero, List.set_cons_succ]) | (refine' wpT_take_on_d rfl rfl (fun w' hc hl hsz => ?_) ?_; rotate_left 1; (focus ((try go_simp); (try go_bits); (first | done | with_reducible rfl))); simp only [Act.put, List.setIfInBounds_toArray, List.set_cons_zero, List.set_cons_succ]) | (refine wpT_take_off rfl rfl ?_; simp only [Act.put, List.setIfInBounds_toArray, List.set_cons_zero, List.set_cons_succ])
  first | (refine' wpT_pure_on rfl rfl (fun w' => ?_) ?_; rotate_left 1; (focus ((try go_simp); (try go_bits); (first | done | with_reducible rfl))); simp only [Act.put, List.setIfInBounds_toArray, List.set_cons_zero, List.set_cons_succ]) | (refine wpT_pure_off rfl rfl ?_; simp only [Act.put, List.setIfInBounds_toArray, List.set_cons_zero, List.set_cons_succ])
  iterate 2 (refine' wpT_pure rfl rfl (fun w' => ?_) ?_; rotate_left 1; (focus ((try go_simp); (try go_bits); (first | done | with_reducible rfl))); simp only [Act.put, List.setIfInBounds_toArray, List.set_cons_zero, List.set_cons_succ])
  iterate 7 (first | (refine' wpT_pure_on rfl rfl (fun w' => ?_) ?_; rotate_left 1; (focus ((try go_simp); (try go_bits); (first | done | with_reducible rfl))); simp only [Act.put, List.setIfInBounds_toArray, List.set_cons_zero, List.set_cons_succ]) | (refine wpT_pure_off rfl rfl ?_; simp only [Act.put, List.setIfInBounds_toArray, List.set_cons_zero, List.set_cons_succ]))
  iterate 2 (first | (refine' wpT_take_on_dddd rfl rfl (fun w' hc hl hsz => ?_) ?_; rotate_left 1; (focus ((try go_simp); (try go_bits); (first | done | with_reducible rfl))); simp only [Act.put, List.setIfInBounds_toArray, List.set_cons_zero, List.set_cons_succ]) | (refine' wpT_take_on_ddd rfl rfl (fun w' hc hl hsz => ?_) ?_; rotate_left 1; (focus ((try go_simp); (try go_bits); (first | done | with_reducible rfl))); simp only [Act.put, List.setIfInBounds_toArray, List.set_cons_zero, List.set_cons_succ]) | (refine' wpT_take_on_dd rfl rfl (fun w' hc hl hsz => ?_) ?_; rotate_left 1; (focus ((try go_simp); (try go_bits); (first | done | with_reducible rfl))); simp only [Act.put, List.setIfInBounds_toArray, List.set_cons_zero, List.set_cons_succ]) | (refine' wpT_take_on_d rfl rfl (fun w' hc hl hsz => ?_) ?_; rotate_left 1; (focus ((try go_simp); (try go_bits); (first | done | with_reducible rfl))); simp only [Act.put, List.setIfInBounds_toArray, List.set_cons_zero, List.set_cons_succ]) | (refine wpT_take_off rfl rfl ?_; simp only [Act.put, List.setIfInBounds_toArray, List.set_cons_zero, List.set_cons_succ]))
  refine wpT_one_off rfl rfl ?_
  simp only [Act.put, List.setIfInBounds_toArray, List.set_cons_zero, List.set_cons_succ]
  first | (refine' wpT_pure_on rfl rfl (fun w' => ?_) ?_; rotate_left 1; (focus ((try go_simp); (try go_bits); (first | done | with_reducible rfl))); simp only [Act.put, List.setIfInBounds_toArray, List.set_cons_zero, List.set_cons_succ]) | (refine wpT_pure_off rfl rfl ?_; simp only [Act.put, List.setIfInBounds_toArray, List.set_cons_zero, List.set_cons_succ])
  (refine' wpT_pure rfl rfl (fun w' => ?_) ?_; rotate_left 1; (focus ((try go_simp); (try go_bits); (first | done | with_reducible rfl))); simp only [Act.put, List.setIfInBounds_toArray, List.set_cons_zero, List.set_cons_succ])
  refine wpT_nil ?_
  have hv3 := HV1.out.ext (Ext.trans HX12.out (Ext.refl W2).dr)
  have hxb := Ext.trans HX1.out HX12.out
  have hx3 := Ext.trans HX1.out (Ext.trans HX12.out (Ext.refl W2).dr)
  have HK3 := Lib.hid (HC.out.ext hx3)
  have y8 := (HC.out.ext hxb).c8
  have hlt3 := (HC.out.ext hxb).lt
  clear hxb
  have HV3 := Lib.hid hv3
  have HX3 := Lib.hid hx3
  have hm2 : (c.mine 2 c.preps).length ≤ 1048577 := Nat.le_trans (mine_len _ _ _) HW.out.preps.keys.2
  have hm3 : (c.mine 3 c.comms).length ≤ 1048577 := Nat.le_trans (mine_len _ _ _) HW.out.comms.keys.2
  have HM23 := Lib.hid (And.intro hm2 hm3)
  clear hv3 hx3 hm2 hm3
  go_wp2_with (first
    | (go_at_call 49; refine (mine_calls cb c L 2 L.preps c.preps L.ip _ HK3.out HK3.out.preps HW.out.preps).mono ?_; rintro e w7 ⟨v7, rfl, hv7, hx7⟩; have HV4 := Lib.hid (HV3.out.ext hx7); have HM4 := Lib.hid (hv7.mono HX3.out.size); have HX4 := Lib.hid (Ext.trans HX3.out hx7); clear HK3 hv7 hx7)
    | (at_builtin; refine wpList_append_votes rfl _ _ rfl w.heap.size v6 _ rfl HV4.out HX4.out.size v7 _ rfl HM4.out (by simp; have := HM23.out.1; omega) ?_; intro v8 w8 hv8 hb8; have HX5 := Lib.hid (Below.trans (B := w.heap.size) HX4.out hb8); have HV5 := Lib.hid hv8; have HK5 := Lib.hid (HC.out.ext HX5.out); have y9 := HK5.out.c9; have hlt5 := HK5.out.lt; clear HV4 hv8 hb8)
    | (go_at_call 49; refine (mine_calls cb c L 3 L.comms c.comms L.ic _ HK5.out HK5.out.comms HW.out.comms).mono ?_; rintro e w9 ⟨v9, rfl, hv9, hx9⟩; have HV6 := Lib.hid (HV5.out.ext hx9); have HM6 := Lib.hid (hv9.mono HX5.out.size); have HX6 := Lib.hid (Ext.trans HX5.out hx9); clear HK5 hv9 hx9)
    | (at_builtin; refine wpList_append_votes rfl _ _ rfl w.heap.size v8 _ rfl HV6.out HX6.out.size v9 _ rfl HM6.out (by simp; have := HM23.out; omega) ?_; intro v10 w10 hv10 hb10; have HX7 := Lib.hid (Below.trans (B := w.heap.size) HX6.out hb10); have HV7 := Lib.hid hv10; clear HV6 hv10 hb10))
  go_ret
  exact ⟨_, rfl, by rw [HF.out]; exact HV7.out, HX7.out⟩

set_option maxRecDepth 100000 in
set_option maxHeartbeats 1600000 in
theorem says_alien (cb : Nat) (c : Core) (L : Lay) (w : World) (hc : CoreAt w cb c L) (hw : Wf c) (hd : c.decided = false) (hps : (AL.get? c.props c.view).isSome = true) (hm : (c.proposer c.view == c.me) = false) : Calls Try.prog 36 #[.pointer (some ⟨cb, 0, none⟩)] w (fun e w' => ∃ v, e = .returned v ∧ VotesOwn w.heap.size w' v c.says ∧ Ext w w') := by
  have HF : Hid (c.says = [⟨5, c.me, c.slot, c.view, -1, []⟩] ++ c.mine 2 c.preps ++ c.mine 3 c.comms) := Lib.hid (by unfold Core.says; cases h : AL.get? c.props c.view <;> simp_all)
  have hlt := hc.lt
  have c15 := hc.c15
  rw [hd] at c15
  have c1 := hc.c1
  have c2 := hc.c2
  have c4 := hc.c4
  have HC := Lib.hid hc
  have HW := Lib.hid hw
  clear hc hw
  go_enter Try.func36, Try.ntmps36
  go_wp2
  refine wp_region_T [15] (.pure 0 (.pure 1 (.pure 2 (.pure 3 (.pure 5 (.pure 6 (.pure 7 (.pure 9 (.pure 10 (.pure 11 (.take 4 (.take 8 (.take 12 (.pure 13 (.one 14 (.one 15 (.pure 16 .nil))))))))))))))))) (by kernel_rfl) (by kernel_rfl) ?_
  iterate 10 (refine' wpT_pure rfl rfl (fun w' => ?_) ?_; rotate_left 1; (focus ((try go_simp); (try go_bits); (first | done | with_reducible rfl))); simp only [Act.put, List.setIfInBounds_toArray, List.set_cons_zero, List.set_cons_succ])
  iterate 3 (first | (refine' wpT_take_dddd rfl rfl (fun w' hc hl hsz => ?_) ?_; rotate_left 1; (focus ((try go_simp); (try go_bits); (first | done | with_reducible rfl))); simp only [Act.put, List.setIfInBounds_toArray, List.set_cons_zero, List.set_cons_succ]) | (refine' wpT_take_ddd rfl rfl (fun w' hc hl hsz => ?_) ?_; rotate_left 1; (focus ((try go_simp); (try go_bits); (first | done | with_reducible rfl))); simp only [Act.put, List.setIfInBounds_toArray, List.set_cons_zero, List.set_cons_succ]) | (refine' wpT_take_dd rfl rfl (fun w' hc hl hsz => ?_) ?_; rotate_left 1; (focus ((try go_simp); (try go_bits); (first | done | with_reducible rfl))); simp only [Act.put, List.setIfInBounds_toArray, List.set_cons_zero, List.set_cons_succ]) | (refine' wpT_take_d rfl rfl (fun w' hc hl hsz => ?_) ?_; rotate_left 1; (focus ((try go_simp); (try go_bits); (first | done | with_reducible rfl))); simp only [Act.put, List.setIfInBounds_toArray, List.set_cons_zero, List.set_cons_succ]))
  (refine' wpT_pure rfl rfl (fun w' => ?_) ?_; rotate_left 1; (focus ((try go_simp); (try go_bits); (first | done | with_reducible rfl))); simp only [Act.put, List.setIfInBounds_toArray, List.set_cons_zero, List.set_cons_succ])
  refine wpT_one rfl rfl (fun K hK => ?_)
  go_wp2
  refine hK _ _ (Ext.al (Ext.refl _) _) ?_
  clear hK K
  refine wpT_writer rfl rfl (by decide) (fun K hK => ?_)
  refine wp_append_vote _ _ rfl w.heap.size (.slice none 0 0) [] rfl (VotesOwn.nil _ _) (by show w.heap.size ≤ (w.alloc _).heap.size; simp) ⟨5, c.me, c.slot, c.view, -1, []⟩ (.slice none 0 0) (World.ownsRow_nil _ _ _ _) w.heap.size rfl (heap_alloc_new w _) (by simp) ?_
  intro v6 w6 hv6 hb6
  have hx6 : Ext w w6 := Below.trans (B := w.heap.size) (Ext.dr (Ext.al (Ext.refl w) _)) hb6
  first | (refine hK _ _ ?_; clear hK K) | skip
  (refine' wpT_pure rfl rfl (fun w' => ?_) ?_; rotate_left 1; (focus ((try go_simp); (try go_bits); (first | done | with_reducible rfl))); simp only [Act.put, List.setIfInBounds_toArray, List.set_cons_zero, List.set_cons_succ])
  refine wpT_nil ?_
  go_wp2
  refine wp_named (fun W => VotesOwn w.heap.size W v6 [⟨5, c.me, c.slot, c.view, -1, []⟩] ∧ Ext w W) ⟨hv6, hx6⟩ (fun W1 ⟨hv1, hx1⟩ => ?_)
  obtain ⟨A, N, K0, q, hp1, hp2⟩ := props_look (HC.out.ext hx1).props c.view
  rw [hps] at hp1
  have d7 := (HC.out.ext hx1).c7
  have d4 := (HC.out.ext hx1).c4
  have hlt1 := (HC.out.ext hx1).lt
  have hpl := (HC.out.ext hx1).props.lt
  have HV1 := Lib.hid hv1
  have HX1 := Lib.hid hx1
  have HP2 := Lib.hid hp2
  clear hv1 hx1 hp2 hv6 hx6 hb6
  refine wp_region_T [13] (.pure 0 (.pure 1 (.pure 2 (.pure 4 (.pure 5 (.pure 6 (.take 3 (.take 7 (.take 8 (.pure 9 (.pure 10 (.pure 11 (.one 12 (.one 13 (.pure 14 .nil))))))))))))))) (by kernel_rfl) (by kernel_rfl) ?_
  iterate 6 (refine' wpT_pure rfl rfl (fun w' => ?_) ?_; rotate_left 1; (focus ((try go_simp); (try go_bits); (first | done | with_reducible rfl))); simp only [Act.put, List.setIfInBounds_toArray, List.set_cons_zero, List.set_cons_succ])
  iterate 3 (first | (refine' wpT_take_dddd rfl rfl (fun w' hc hl hsz => ?_) ?_; rotate_left 1; (focus ((try go_simp); (try go_bits); (first | done | with_reducible rfl))); simp only [Act.put, List.setIfInBounds_toArray, List.set_cons_zero, List.set_cons_succ]) | (refine' wpT_take_ddd rfl rfl (fun w' hc hl hsz => ?_) ?_; rotate_left 1; (focus ((try go_simp); (try go_bits); (first | done | with_reducible rfl))); simp only [Act.put, List.setIfInBounds_toArray, List.set_cons_zero, List.set_cons_succ]) | (refine' wpT_take_dd rfl rfl (fun w' hc hl hsz => ?_) ?_; rotate_left 1; (focus ((try go_simp); (try go_bits); (first | done | with_reducible rfl))); simp only [Act.put, List.setIfInBounds_toArray, List.set_cons_zero, List.set_cons_succ]) | (refine' wpT_take_d rfl rfl (fun w' hc hl hsz => ?_) ?_; rotate_left 1; (focus ((try go_simp); (try go_bits); (first | done | with_reducible rfl))); simp only [Act.put, List.setIfInBounds_toArray, List.set_cons_zero, List.set_cons_succ]))
  iterate 3 (refine' wpT_pure rfl rfl (fun w' => ?_) ?_; rotate_left 1; (focus ((try go_simp); (try go_bits); (first | done | with_reducible rfl))); simp only [Act.put, List.setIfInBounds_toArray, List.set_cons_zero, List.set_cons_succ])
  refine wpT_one rfl rfl (fun K hK => ?_)
  go_wp2
  refine hK _ _ (Ext.al (Ext.refl _) _) ?_
  clear hK K
  refine wpT_writer rfl rfl (by decide) (fun K hK => ?_)
  go_wp2
  first | (refine hK _ _ ?_; clear hK K) | skip
  (refine' wpT_pure rfl rfl (fun w' => ?_) ?_; rotate_left 1; (focus ((try go_simp); (try go_bits); (first | done | with_reducible rfl))); simp only [Act.put, List.setIfInBounds_toArray, List.set_cons_zero, List.set_cons_succ])
  refine wpT_nil ?_
  go_wp2
  refine wp_fresh (W1.alloc (.cells #[.slice A N K0, (.int .i64 q)] 103)) (Ext.refl _).dr (fun W2 hx2 => ?_)
  have hbx := boxed W1 #[.slice A N K0, (.int .i64 q)] 103
  have b0 : W2.cell? ⟨W1.heap.size, 0, none⟩ = some (.slice A N K0) := hx2.at (hbx.2.1 0)
  have b1 : W2.cell? ⟨W1.heap.size, 1, none⟩ = some ((.int .i64 q)) := hx2.at (hbx.2.1 1)
  have hx12 : Ext W1 W2 := Ext.trans hbx.1 hx2
  have hbl : W1.heap.size < W2.heap.size := by have := hx2.size; rw [hbx.2.2] at this; omega
  have hc2 := HC.out.ext (Ext.trans HX1.out hx12)
  have hlt2 := hc2.lt
  have e15 := hc2.c15
  rw [hd] at e15
  have e4 := hc2.c4
  have e1 := hc2.c1
  have e2 := hc2.c2
  have HX12 := Lib.hid hx12
  clear hx12 hx2 hbx hc2 hp1 d7 d4
  refine wp_region_T [] (.pure 0 (.pure 1 (.pure 2 (.pure 3 (.pure 4 (.take 5 (.pure 6 (.pure 7 (.pure 8 (.pure 9 (.pure 10 (.pure 11 (.pure 12 (.pure 15 (.pure 16 (.pure 17 (.take 13 (.take 18 (.one 14 (.pure 19 (.pure 20 .nil))))))))))))))))))))) (by kernel_rfl) (by kernel_rfl) ?_
  iterate 2 (refine' wpT_pure rfl rfl (fun w' => ?_) ?_; rotate_left 1; (focus ((try go_simp); (try go_bits); (first | done | with_reducible rfl))); simp only [Act.put, List.setIfInBounds_toArray, List.set_cons_zero, List.set_cons_succ])
  iterate 3 (first | (refine' wpT_pure_on rfl rfl (fun w' => ?_) ?_; rotate_left 1; (focus ((try go_simp); (try go_bits); (first | done | with_reducible rfl))); simp only [Act.put, List.setIfInBounds_toArray, List.set_cons_zero, List.set_cons_succ]) | (refine wpT_pure_off rfl rfl ?_; simp only [Act.put, List.setIfInBounds_toArray, List.set_cons_zero, List.set_cons_succ]))
  first | (refine' wpT_take_on_dddd rfl rfl (fun w' hc hl hsz => ?_) ?_; rotate_left 1; (focus ((try go_simp); (try go_bits); (first | done | with_reducible rfl))); simp only [Act.put, List.setIfInBounds_toArray, List.set_cons_zero, List.set_cons_succ]) | (refine' wpT_take_on_ddd rfl rfl (fun w' hc hl hsz => ?_) ?_; rotate_left 1; (focus ((try go_simp); (try go_bits); (first | done | with_reducible rfl))); simp only [Act.put, List.setIfInBounds_toArray, List.set_cons_zero, List.set_cons_succ]) | (refine' wpT_take_on_dd rfl rfl (fun w' hc hl hsz => ?_) ?_; rotate_left 1; (focus ((try go_simp); (try go_bits); (first | done | with_reducible rfl))); simp only [Act.put, List.setIfInBounds_toArray, List.set_cons_zero, List.set_cons_succ]) | (refine' wpT_take_on_d rfl rfl (fun w' hc hl hsz => ?_) ?_; rotate_left 1; (focus ((try go_simp); (try go_bits); (first | done | with_reducible rfl))); simp only [Act.put, List.setIfInBounds_toArray, List.set_cons_zero, List.set_cons_succ]) | (refine wpT_take_off rfl rfl ?_; simp only [Act.put, List.setIfInBounds_toArray, List.set_cons_zero, List.set_cons_succ])
  first | (refine' wpT_pure_on rfl rfl (fun w' => ?_) ?_; rotate_left 1; (focus ((try go_simp); (try go_bits); (first | done | with_reducible rfl))); simp only [Act.put, List.setIfInBounds_toArray, List.set_cons_zero, List.set_cons_succ]) | (refine wpT_pure_off rfl rfl ?_; simp only [Act.put, List.setIfInBounds_toArray, List.set_cons_zero, List.set_cons_succ])
  iterate 2 (refine' wpT_pure rfl rfl (fun w' => ?_) ?_; rotate_left 1; (focus ((try go_simp); (try go_bits); (first | done | with_reducible rfl))); simp only [Act.put, List.setIfInBounds_toArray, List.set_cons_zero, List.set_cons_succ])
  iterate 7 (first | (refine' wpT_pure_on rfl rfl (fun w' => ?_) ?_; rotate_left 1; (focus ((try go_simp); (try go_bits); (first | done | with_reducible rfl))); simp only [Act.put, List.setIfInBounds_toArray, List.set_cons_zero, List.set_cons_succ]) | (refine wpT_pure_off rfl rfl ?_; simp only [Act.put, List.setIfInBounds_toArray, List.set_cons_zero, List.set_cons_succ]))
  iterate 2 (first | (refine' wpT_take_on_dddd rfl rfl (fun w' hc hl hsz => ?_) ?_; rotate_left 1; (focus ((try go_simp); (try go_bits); (first | done | with_reducible rfl))); simp only [Act.put, List.setIfInBounds_toArray, List.set_cons_zero, List.set_cons_succ]) | (refine' wpT_take_on_ddd rfl rfl (fun w' hc hl hsz => ?_) ?_; rotate_left 1; (focus ((try go_simp); (try go_bits); (first | done | with_reducible rfl))); simp only [Act.put, List.setIfInBounds_toArray, List.set_cons_zero, List.set_cons_succ]) | (refine' wpT_take_on_dd rfl rfl (fun w' hc hl hsz => ?_) ?_; rotate_left 1; (focus ((try go_simp); (try go_bits); (first | done | with_reducible rfl))); simp only [Act.put, List.setIfInBounds_toArray, List.set_cons_zero, List.set_cons_succ]) | (refine' wpT_take_on_d rfl rfl (fun w' hc hl hsz => ?_) ?_; rotate_left 1; (focus ((try go_simp); (try go_bits); (first | done | with_reducible rfl))); simp only [Act.put, List.setIfInBounds_toArray, List.set_cons_zero, List.set_cons_succ]) | (refine wpT_take_off rfl rfl ?_; simp only [Act.put, List.setIfInBounds_toArray, List.set_cons_zero, List.set_cons_succ]))
  refine wpT_one_on rfl rfl (fun K hK => ?_)
  go_wp2_with (go_at_call 63; refine (proposer_calls cb c L c.view _ (HC.out.ext (Ext.trans HX1.out (Ext.trans HX12.out (Ext.refl W2).dr))) HW.out.n4 HW.out.n64 HW.out.s0 HW.out.s1 HW.out.v0 (by have := HW.out.v1; omega)).mono ?_; rintro e w3 ⟨rfl, he3⟩; skip)
  refine hK _ _ he3 ?_
  clear hK K
  first | (refine' wpT_pure_on rfl rfl (fun w' => ?_) ?_; rotate_left 1; (focus ((try go_simp); (try go_bits); (first | done | with_reducible rfl))); simp only [Act.put, List.setIfInBounds_toArray, List.set_cons_zero, List.set_cons_succ]) | (refine wpT_pure_off rfl rfl ?_; simp only [Act.put, List.setIfInBounds_toArray, List.set_cons_zero, List.set_cons_succ])
  (refine' wpT_pure rfl rfl (fun w' => ?_) ?_; rotate_left 1; (focus ((try go_simp); (try go_bits); (first | done | with_reducible rfl))); simp only [Act.put, List.setIfInBounds_toArray, List.set_cons_zero, List.set_cons_succ])
  refine wpT_nil ?_
  have he := Ext.undrew he3
  have hv3 := HV1.out.ext (Ext.trans HX12.out he)
  have hxb := Ext.trans HX1.out (Ext.trans HX12.out he)
  have hx3 := hxb
  have HK3 := Lib.hid (HC.out.ext hx3)
  have y8 := (HC.out.ext hxb).c8
  have hlt3 := (HC.out.ext hxb).lt
  clear hxb
  have HV3 := Lib.hid hv3
  have HX3 := Lib.hid hx3
  have hm2 : (c.mine 2 c.preps).length ≤ 1048577 := Nat.le_trans (mine_len _ _ _) HW.out.preps.keys.2
  have hm3 : (c.mine 3 c.comms).length ≤ 1048577 := Nat.le_trans (mine_len _ _ _) HW.out.comms.keys.2
  have HM23 := Lib.hid (And.intro hm2 hm3)
  clear hv3 hx3 hm2 hm3
  go_wp2_with (first
    | (go_at_call 49; refine (mine_calls cb c L 2 L.preps c.preps L.ip _ HK3.out HK3.out.preps HW.out.preps).mono ?_; rintro e w7 ⟨v7, rfl, hv7, hx7⟩; have HV4 := Lib.hid (HV3.out.ext hx7); have HM4 := Lib.hid (hv7.mono HX3.out.size); have HX4 := Lib.hid (Ext.trans HX3.out hx7); clear HK3 hv7 hx7)
    | (at_builtin; refine wpList_append_votes rfl _ _ rfl w.heap.size v6 _ rfl HV4.out HX4.out.size v7 _ rfl HM4.out (by simp; have := HM23.out.1; omega) ?_; intro v8 w8 hv8 hb8; have HX5 := Lib.hid (Below.trans (B := w.heap.size) HX4.out hb8); have HV5 := Lib.hid hv8; have HK5 := Lib.hid (HC.out.ext HX5.out); have y9 := HK5.out.c9; have hlt5 := HK5.out.lt; clear HV4 hv8 hb8)
    | (go_at_call 49; refine (mine_calls cb c L 3 L.comms c.comms L.ic _ HK5.out HK5.out.comms HW.out.comms).mono ?_; rintro e w9 ⟨v9, rfl, hv9, hx9⟩; have HV6 := Lib.hid (HV5.out.ext hx9); have HM6 := Lib.hid (hv9.mono HX5.out.size); have HX6 := Lib.hid (Ext.trans HX5.out hx9); clear HK5 hv9 hx9)
    | (at_builtin; refine wpList_append_votes rfl _ _ rfl w.heap.size v8 _ rfl HV6.out HX6.out.size v9 _ rfl HM6.out (by simp; have := HM23.out; omega) ?_; intro v10 w10 hv10 hb10; have HX7 := Lib.hid (Below.trans (B := w.heap.size) HX6.out hb10); have HV7 := Lib.hid hv10; clear HV6 hv10 hb10))
  go_ret
  exact ⟨_, rfl, by rw [HF.out]; exact HV7.out, HX7.out⟩

set_option maxRecDepth 100000 in
set_option maxHeartbeats 1600000 in
theorem says_prop (cb : Nat) (c : Core) (L : Lay) (w : World) (hc : CoreAt w cb c L) (hw : Wf c) (hd : c.decided = false) (p : Bytes × Int) (hpp : AL.get? c.props c.view = some p) (hm : (c.proposer c.view == c.me) = true) : Calls Try.prog 36 #[.pointer (some ⟨cb, 0, none⟩)] w (fun e w' => ∃ v, e = .returned v ∧ VotesOwn w.heap.size w' v c.says ∧ Ext w w') := by
  have HF : Hid (c.says = [⟨5, c.me, c.slot, c.view, -1, []⟩] ++ [⟨1, c.me, c.slot, c.view, p.2, p.1⟩] ++ c.mine 2 c.preps ++ c.mine 3 c.comms) := Lib.hid (by unfold Core.says; rw [hpp]; simp [hd, hm])
  have hps : (AL.get? c.props c.view).isSome = true := by rw [hpp]; rfl
  have HPP := Lib.hid hpp
  clear hpp
  have hlt := hc.lt
  have c15 := hc.c15
  rw [hd] at c15
  have c1 := hc.c1
  have c2 := hc.c2
  have c4 := hc.c4
  have HC := Lib.hid hc
  have HW := Lib.hid hw
  clear hc hw
  go_enter Try.func36, Try.ntmps36
  go_wp2
  refine wp_region_T [15] (.pure 0 (.pure 1 (.pure 2 (.pure 3 (.pure 5 (.pure 6 (.pure 7 (.pure 9 (.pure 10 (.pure 11 (.take 4 (.take 8 (.take 12 (.pure 13 (.one 14 (.one 15 (.pure 16 .nil))))))))))))))))) (by kernel_rfl) (by kernel_rfl) ?_
  iterate 10 (refine' wpT_pure rfl rfl (fun w' => ?_) ?_; rotate_left 1; (focus ((try go_simp); (try go_bits); (first | done | with_reducible rfl))); simp only [Act.put, List.setIfInBounds_toArray, List.set_cons_zero, List.set_cons_succ])
  iterate 3 (first | (refine' wpT_take_dddd rfl rfl (fun w' hc hl hsz => ?_) ?_; rotate_left 1; (focus ((try go_simp); (try go_bits); (first | done | with_reducible rfl))); simp only [Act.put, List.setIfInBounds_toArray, List.set_cons_zero, List.set_cons_succ]) | (refine' wpT_take_ddd rfl rfl (fun w' hc hl hsz => ?_) ?_; rotate_left 1; (focus ((try go_simp); (try go_bits); (first | done | with_reducible rfl))); simp only [Act.put, List.setIfInBounds_toArray, List.set_cons_zero, List.set_cons_succ]) | (refine' wpT_take_dd rfl rfl (fun w' hc hl hsz => ?_) ?_; rotate_left 1; (focus ((try go_simp); (try go_bits); (first | done | with_reducible rfl))); simp only [Act.put, List.setIfInBounds_toArray, List.set_cons_zero, List.set_cons_succ]) | (refine' wpT_take_d rfl rfl (fun w' hc hl hsz => ?_) ?_; rotate_left 1; (focus ((try go_simp); (try go_bits); (first | done | with_reducible rfl))); simp only [Act.put, List.setIfInBounds_toArray, List.set_cons_zero, List.set_cons_succ]))
  (refine' wpT_pure rfl rfl (fun w' => ?_) ?_; rotate_left 1; (focus ((try go_simp); (try go_bits); (first | done | with_reducible rfl))); simp only [Act.put, List.setIfInBounds_toArray, List.set_cons_zero, List.set_cons_succ])
  refine wpT_one rfl rfl (fun K hK => ?_)
  go_wp2
  refine hK _ _ (Ext.al (Ext.refl _) _) ?_
  clear hK K
  refine wpT_writer rfl rfl (by decide) (fun K hK => ?_)
  refine wp_append_vote _ _ rfl w.heap.size (.slice none 0 0) [] rfl (VotesOwn.nil _ _) (by show w.heap.size ≤ (w.alloc _).heap.size; simp) ⟨5, c.me, c.slot, c.view, -1, []⟩ (.slice none 0 0) (World.ownsRow_nil _ _ _ _) w.heap.size rfl (heap_alloc_new w _) (by simp) ?_
  intro v6 w6 hv6 hb6
  have hx6 : Ext w w6 := Below.trans (B := w.heap.size) (Ext.dr (Ext.al (Ext.refl w) _)) hb6
  first | (refine hK _ _ ?_; clear hK K) | skip
  (refine' wpT_pure rfl rfl (fun w' => ?_) ?_; rotate_left 1; (focus ((try go_simp); (try go_bits); (first | done | with_reducible rfl))); simp only [Act.put, List.setIfInBounds_toArray, List.set_cons_zero, List.set_cons_succ])
  refine wpT_nil ?_
  go_wp2
  refine wp_named (fun W => VotesOwn w.heap.size W v6 [⟨5, c.me, c.slot, c.view, -1, []⟩] ∧ Ext w W) ⟨hv6, hx6⟩ (fun W1 ⟨hv1, hx1⟩ => ?_)
  obtain ⟨A, N, K0, q, hp1, hp2⟩ := props_look (HC.out.ext hx1).props c.view
  rw [hps] at hp1
  have d7 := (HC.out.ext hx1).c7
  have d4 := (HC.out.ext hx1).c4
  have hlt1 := (HC.out.ext hx1).lt
  have hpl := (HC.out.ext hx1).props.lt
  have HV1 := Lib.hid hv1
  have HX1 := Lib.hid hx1
  have HP2 := Lib.hid hp2
  clear hv1 hx1 hp2 hv6 hx6 hb6
  refine wp_region_T [13] (.pure 0 (.pure 1 (.pure 2 (.pure 4 (.pure 5 (.pure 6 (.take 3 (.take 7 (.take 8 (.pure 9 (.pure 10 (.pure 11 (.one 12 (.one 13 (.pure 14 .nil))))))))))))))) (by kernel_rfl) (by kernel_rfl) ?_
  iterate 6 (refine' wpT_pure rfl rfl (fun w' => ?_) ?_; rotate_left 1; (focus ((try go_simp); (try go_bits); (first | done | with_reducible rfl))); simp only [Act.put, List.setIfInBounds_toArray, List.set_cons_zero, List.set_cons_succ])
  iterate 3 (first | (refine' wpT_take_dddd rfl rfl (fun w' hc hl hsz => ?_) ?_; rotate_left 1; (focus ((try go_simp); (try go_bits); (first | done | with_reducible rfl))); simp only [Act.put, List.setIfInBounds_toArray, List.set_cons_zero, List.set_cons_succ]) | (refine' wpT_take_ddd rfl rfl (fun w' hc hl hsz => ?_) ?_; rotate_left 1; (focus ((try go_simp); (try go_bits); (first | done | with_reducible rfl))); simp only [Act.put, List.setIfInBounds_toArray, List.set_cons_zero, List.set_cons_succ]) | (refine' wpT_take_dd rfl rfl (fun w' hc hl hsz => ?_) ?_; rotate_left 1; (focus ((try go_simp); (try go_bits); (first | done | with_reducible rfl))); simp only [Act.put, List.setIfInBounds_toArray, List.set_cons_zero, List.set_cons_succ]) | (refine' wpT_take_d rfl rfl (fun w' hc hl hsz => ?_) ?_; rotate_left 1; (focus ((try go_simp); (try go_bits); (first | done | with_reducible rfl))); simp only [Act.put, List.setIfInBounds_toArray, List.set_cons_zero, List.set_cons_succ]))
  iterate 3 (refine' wpT_pure rfl rfl (fun w' => ?_) ?_; rotate_left 1; (focus ((try go_simp); (try go_bits); (first | done | with_reducible rfl))); simp only [Act.put, List.setIfInBounds_toArray, List.set_cons_zero, List.set_cons_succ])
  refine wpT_one rfl rfl (fun K hK => ?_)
  go_wp2
  refine hK _ _ (Ext.al (Ext.refl _) _) ?_
  clear hK K
  refine wpT_writer rfl rfl (by decide) (fun K hK => ?_)
  go_wp2
  first | (refine hK _ _ ?_; clear hK K) | skip
  (refine' wpT_pure rfl rfl (fun w' => ?_) ?_; rotate_left 1; (focus ((try go_simp); (try go_bits); (first | done | with_reducible rfl))); simp only [Act.put, List.setIfInBounds_toArray, List.set_cons_zero, List.set_cons_succ])
  refine wpT_nil ?_
  go_wp2
  refine wp_fresh (W1.alloc (.cells #[.slice A N K0, (.int .i64 q)] 103)) (Ext.refl _).dr (fun W2 hx2 => ?_)
  have hbx := boxed W1 #[.slice A N K0, (.int .i64 q)] 103
  have b0 : W2.cell? ⟨W1.heap.size, 0, none⟩ = some (.slice A N K0) := hx2.at (hbx.2.1 0)
  have b1 : W2.cell? ⟨W1.heap.size, 1, none⟩ = some ((.int .i64 q)) := hx2.at (hbx.2.1 1)
  have hx12 : Ext W1 W2 := Ext.trans hbx.1 hx2
  have hbl : W1.heap.size < W2.heap.size := by have := hx2.size; rw [hbx.2.2] at this; omega
  have hc2 := HC.out.ext (Ext.trans HX1.out hx12)
  have hlt2 := hc2.lt
  have e15 := hc2.c15
  rw [hd] at e15
  have e4 := hc2.c4
  have e1 := hc2.c1
  have e2 := hc2.c2
  have HX12 := Lib.hid hx12
  clear hx12 hx2 hbx hc2 hp1 d7 d4
  have hp3 := HP2.out p HPP.out
  obtain ⟨hq, hpb⟩ := hp3
  have hpl := (HW.out.props _ p HPP.out).2.1
  have hN : N = p.1.length := by obtain ⟨A', C', h1, _⟩ := id hpb; cases h1; rfl
  subst hN
  subst hq
  have HPB := Lib.hid hpb
  have HPL := Lib.hid hpl
  clear hpb hpl
  refine wp_region_T [] (.pure 0 (.pure 1 (.pure 2 (.pure 3 (.pure 4 (.take 5 (.pure 6 (.pure 7 (.pure 8 (.pure 9 (.pure 10 (.pure 11 (.pure 12 (.pure 15 (.pure 16 (.pure 17 (.take 13 (.take 18 (.one 14 (.pure 19 (.pure 20 .nil))))))))))))))))))))) (by kernel_rfl) (by kernel_rfl) ?_
  iterate 2 (refine' wpT_pure rfl rfl (fun w' => ?_) ?_; rotate_left 1; (focus ((try go_simp); (try go_bits); (first | done | with_reducible rfl))); simp only [Act.put, List.setIfInBounds_toArray, List.set_cons_zero, List.set_cons_succ])
  iterate 3 (first | (refine' wpT_pure_on rfl rfl (fun w' => ?_) ?_; rotate_left 1; (focus ((try go_simp); (try go_bits); (first | done | with_reducible rfl))); simp only [Act.put, List.setIfInBounds_toArray, List.set_cons_zero, List.set_cons_succ]) | (refine wpT_pure_off rfl rfl ?_; simp only [Act.put, List.setIfInBounds_toArray, List.set_cons_zero, List.set_cons_succ]))
  first | (refine' wpT_take_on_dddd rfl rfl (fun w' hc hl hsz => ?_) ?_; rotate_left 1; (focus ((try go_simp); (try go_bits); (first | done | with_reducible rfl))); simp only [Act.put, List.setIfInBounds_toArray, List.set_cons_zero, List.set_cons_succ]) | (refine' wpT_take_on_ddd rfl rfl (fun w' hc hl hsz => ?_) ?_; rotate_left 1; (focus ((try go_simp); (try go_bits); (first | done | with_reducible rfl))); simp only [Act.put, List.setIfInBounds_toArray, List.set_cons_zero, List.set_cons_succ]) | (refine' wpT_take_on_dd rfl rfl (fun w' hc hl hsz => ?_) ?_; rotate_left 1; (focus ((try go_simp); (try go_bits); (first | done | with_reducible rfl))); simp only [Act.put, List.setIfInBounds_toArray, List.set_cons_zero, List.set_cons_succ]) | (refine' wpT_take_on_d rfl rfl (fun w' hc hl hsz => ?_) ?_; rotate_left 1; (focus ((try go_simp); (try go_bits); (first | done | with_reducible rfl))); simp only [Act.put, List.setIfInBounds_toArray, List.set_cons_zero, List.set_cons_succ]) | (refine wpT_take_off rfl rfl ?_; simp only [Act.put, List.setIfInBounds_toArray, List.set_cons_zero, List.set_cons_succ])
  first | (refine' wpT_pure_on rfl rfl (fun w' => ?_) ?_; rotate_left 1; (focus ((try go_simp); (try go_bits); (first | done | with_reducible rfl))); simp only [Act.put, List.setIfInBounds_toArray, List.set_cons_zero, List.set_cons_succ]) | (refine wpT_pure_off rfl rfl ?_; simp only [Act.put, List.setIfInBounds_toArray, List.set_cons_zero, List.set_cons_succ])
  iterate 2 (refine' wpT_pure rfl rfl (fun w' => ?_) ?_; rotate_left 1; (focus ((try go_simp); (try go_bits); (first | done | with_reducible rfl))); simp only [Act.put, List.setIfInBounds_toArray, List.set_cons_zero, List.set_cons_succ])
  iterate 7 (first | (refine' wpT_pure_on rfl rfl (fun w' => ?_) ?_; rotate_left 1; (focus ((try go_simp); (try go_bits); (first | done | with_reducible rfl))); simp only [Act.put, List.setIfInBounds_toArray, List.set_cons_zero, List.set_cons_succ]) | (refine wpT_pure_off rfl rfl ?_; simp only [Act.put, List.setIfInBounds_toArray, List.set_cons_zero, List.set_cons_succ]))
  iterate 2 (first | (refine' wpT_take_on_dddd rfl rfl (fun w' hc hl hsz => ?_) ?_; rotate_left 1; (focus ((try go_simp); (try go_bits); (first | done | with_reducible rfl))); simp only [Act.put, List.setIfInBounds_toArray, List.set_cons_zero, List.set_cons_succ]) | (refine' wpT_take_on_ddd rfl rfl (fun w' hc hl hsz => ?_) ?_; rotate_left 1; (focus ((try go_simp); (try go_bits); (first | done | with_reducible rfl))); simp only [Act.put, List.setIfInBounds_toArray, List.set_cons_zero, List.set_cons_succ]) | (refine' wpT_take_on_dd rfl rfl (fun w' hc hl hsz => ?_) ?_; rotate_left 1; (focus ((try go_simp); (try go_bits); (first | done | with_reducible rfl))); simp only [Act.put, List.setIfInBounds_toArray, List.set_cons_zero, List.set_cons_succ]) | (refine' wpT_take_on_d rfl rfl (fun w' hc hl hsz => ?_) ?_; rotate_left 1; (focus ((try go_simp); (try go_bits); (first | done | with_reducible rfl))); simp only [Act.put, List.setIfInBounds_toArray, List.set_cons_zero, List.set_cons_succ]) | (refine wpT_take_off rfl rfl ?_; simp only [Act.put, List.setIfInBounds_toArray, List.set_cons_zero, List.set_cons_succ]))
  refine wpT_one_on rfl rfl (fun K hK => ?_)
  go_wp2_with (go_at_call 63; refine (proposer_calls cb c L c.view _ (HC.out.ext (Ext.trans HX1.out (Ext.trans HX12.out (Ext.refl W2).dr))) HW.out.n4 HW.out.n64 HW.out.s0 HW.out.s1 HW.out.v0 (by have := HW.out.v1; omega)).mono ?_; rintro e w3 ⟨rfl, he3⟩; skip)
  refine hK _ _ he3 ?_
  clear hK K
  first | (refine' wpT_pure_on rfl rfl (fun w' => ?_) ?_; rotate_left 1; (focus ((try go_simp); (try go_bits); (first | done | with_reducible rfl))); simp only [Act.put, List.setIfInBounds_toArray, List.set_cons_zero, List.set_cons_succ]) | (refine wpT_pure_off rfl rfl ?_; simp only [Act.put, List.setIfInBounds_toArray, List.set_cons_zero, List.set_cons_succ])
  (refine' wpT_pure rfl rfl (fun w' => ?_) ?_; rotate_left 1; (focus ((try go_simp); (try go_bits); (first | done | with_reducible rfl))); simp only [Act.put, List.setIfInBounds_toArray, List.set_cons_zero, List.set_cons_succ])
  refine wpT_nil ?_
  go_wp2
  refine wp_fresh W2 (Ext.undrew he3) (fun W3 hx3 => ?_)
  have f1 := hx3.at e1
  have f2 := hx3.at e2
  have f4 := hx3.at e4
  have g0 := hx3.at b0
  have g1 := hx3.at b1
  have hlt3 := Nat.lt_of_lt_of_le hlt2 hx3.size
  have hbl3 := Nat.lt_of_lt_of_le hbl hx3.size
  have HX3 := Lib.hid (Ext.trans HX12.out hx3)
  clear hx3 he3
  refine wp_region_T [20] (.pure 0 (.pure 1 (.pure 2 (.pure 3 (.pure 5 (.pure 6 (.pure 7 (.pure 9 (.pure 10 (.pure 11 (.pure 13 (.pure 15 (.take 4 (.take 8 (.take 12 (.take 14 (.take 16 (.one 17 (.pure 18 (.one 19 (.one 20 (.pure 21 .nil)))))))))))))))))))))) (by kernel_rfl) (by kernel_rfl) ?_
  iterate 12 (refine' wpT_pure rfl rfl (fun w' => ?_) ?_; rotate_left 1; (focus ((try go_simp); (try go_bits); (first | done | with_reducible rfl))); simp only [Act.put, List.setIfInBounds_toArray, List.set_cons_zero, List.set_cons_succ])
  iterate 5 (first | (refine' wpT_take_dddd rfl rfl (fun w' hc hl hsz => ?_) ?_; rotate_left 1; (focus ((try go_simp); (try go_bits); (first | done | with_reducible rfl))); simp only [Act.put, List.setIfInBounds_toArray, List.set_cons_zero, List.set_cons_succ]) | (refine' wpT_take_ddd rfl rfl (fun w' hc hl hsz => ?_) ?_; rotate_left 1; (focus ((try go_simp); (try go_bits); (first | done | with_reducible rfl))); simp only [Act.put, List.setIfInBounds_toArray, List.set_cons_zero, List.set_cons_succ]) | (refine' wpT_take_dd rfl rfl (fun w' hc hl hsz => ?_) ?_; rotate_left 1; (focus ((try go_simp); (try go_bits); (first | done | with_reducible rfl))); simp only [Act.put, List.setIfInBounds_toArray, List.set_cons_zero, List.set_cons_succ]) | (refine' wpT_take_d rfl rfl (fun w' hc hl hsz => ?_) ?_; rotate_left 1; (focus ((try go_simp); (try go_bits); (first | done | with_reducible rfl))); simp only [Act.put, List.setIfInBounds_toArray, List.set_cons_zero, List.set_cons_succ]))
  refine wpT_one rfl rfl (fun K hK => ?_)
  go_wp2_with (go_at_call 41; refine (clone_own _ p.1 _ (HPB.out.ext (Ext.trans HX3.out (Ext.refl W3).dr)) (by have := HPL.out; omega)).mono ?_; rintro e w5 ⟨v5, rfl, ho5, hx5⟩; obtain ⟨A5, K5, rfl⟩ := own_slice ho5)
  refine hK _ _ hx5 ?_
  clear hK K
  (refine' wpT_pure rfl rfl (fun w' => ?_) ?_; rotate_left 1; (focus ((try go_simp); (try go_bits); (first | done | with_reducible rfl))); simp only [Act.put, List.setIfInBounds_toArray, List.set_cons_zero, List.set_cons_succ])
  refine wpT_one rfl rfl (fun K hK => ?_)
  go_wp2
  refine hK _ _ (Ext.al (Ext.refl _) _) ?_
  clear hK K
  refine wpT_writer rfl rfl (by decide) (fun K hK => ?_)
  have hx15 : Ext W1 w5 := Ext.trans HX3.out (Ext.undrew hx5)
  have hbw : w.heap.size ≤ W3.heap.size := Nat.le_trans HX1.out.size HX3.out.size
  have hs5 := hx15.size
  refine wp_append_vote _ _ rfl w.heap.size v6 [⟨5, c.me, c.slot, c.view, -1, []⟩] rfl (HV1.out.ext (Ext.al hx15 _)) (by have := HX1.out.size; simp; omega) ⟨1, c.me, c.slot, c.view, p.2, p.1⟩ (.slice A5 p.1.length K5) (own_mono (ho5.alloc _) hbw) w5.heap.size rfl (heap_alloc_new w5 _) (by simp) ?_
  intro vq wq hv7 hb7
  have hx7 : Ext w wq := Below.trans (B := w.heap.size) (Ext.trans HX1.out (Ext.al hx15 _)) hb7
  first | (refine hK _ _ ?_; clear hK K) | skip
  (refine' wpT_pure rfl rfl (fun w' => ?_) ?_; rotate_left 1; (focus ((try go_simp); (try go_bits); (first | done | with_reducible rfl))); simp only [Act.put, List.setIfInBounds_toArray, List.set_cons_zero, List.set_cons_succ])
  refine wpT_nil ?_
  have hv3 := hv7
  have hxb := hx7
  have hx3 := hx7
  have HK3 := Lib.hid (HC.out.ext hx3)
  have y8 := (HC.out.ext hxb).c8
  have hlt3 := (HC.out.ext hxb).lt
  clear hxb
  have HV3 := Lib.hid hv3
  have HX3 := Lib.hid hx3
  have hm2 : (c.mine 2 c.preps).length ≤ 1048577 := Nat.le_trans (mine_len _ _ _) HW.out.preps.keys.2
  have hm3 : (c.mine 3 c.comms).length ≤ 1048577 := Nat.le_trans (mine_len _ _ _) HW.out.comms.keys.2
  have HM23 := Lib.hid (And.intro hm2 hm3)
  clear hv3 hx3 hm2 hm3
  go_wp2_with (first
    | (go_at_call 49; refine (mine_calls cb c L 2 L.preps c.preps L.ip _ HK3.out HK3.out.preps HW.out.preps).mono ?_; rintro e w7 ⟨v7, rfl, hv7, hx7⟩; have HV4 := Lib.hid (HV3.out.ext hx7); have HM4 := Lib.hid (hv7.mono HX3.out.size); have HX4 := Lib.hid (Ext.trans HX3.out hx7); clear HK3 hv7 hx7)
    | (at_builtin; refine wpList_append_votes rfl _ _ rfl w.heap.size vq _ rfl HV4.out HX4.out.size v7 _ rfl HM4.out (by simp; have := HM23.out.1; omega) ?_; intro v8 w8 hv8 hb8; have HX5 := Lib.hid (Below.trans (B := w.heap.size) HX4.out hb8); have HV5 := Lib.hid hv8; have HK5 := Lib.hid (HC.out.ext HX5.out); have y9 := HK5.out.c9; have hlt5 := HK5.out.lt; clear HV4 hv8 hb8)
    | (go_at_call 49; refine (mine_calls cb c L 3 L.comms c.comms L.ic _ HK5.out HK5.out.comms HW.out.comms).mono ?_; rintro e w9 ⟨v9, rfl, hv9, hx9⟩; have HV6 := Lib.hid (HV5.out.ext hx9); have HM6 := Lib.hid (hv9.mono HX5.out.size); have HX6 := Lib.hid (Ext.trans HX5.out hx9); clear HK5 hv9 hx9)
    | (at_builtin; refine wpList_append_votes rfl _ _ rfl w.heap.size v8 _ rfl HV6.out HX6.out.size v9 _ rfl HM6.out (by simp; have := HM23.out; omega) ?_; intro v10 w10 hv10 hb10; have HX7 := Lib.hid (Below.trans (B := w.heap.size) HX6.out hb10); have HV7 := Lib.hid hv10; clear HV6 hv10 hb10))
  go_ret
  exact ⟨_, rfl, by rw [HF.out]; exact HV7.out, HX7.out⟩

theorem says_calls (cb : Nat) (c : Core) (L : Lay) (w : World) (hc : CoreAt w cb c L) (hw : Wf c) : Calls Try.prog 36 #[.pointer (some ⟨cb, 0, none⟩)] w (fun e w' => ∃ v, e = .returned v ∧ VotesOwn w.heap.size w' v c.says ∧ Ext w w') := by
  cases hd : c.decided with
  | true => exact says_decided cb c L w hc hw hd
  | false =>
    cases hpp : AL.get? c.props c.view with
    | none => exact says_none cb c L w hc hw hd (by rw [hpp]; rfl)
    | some p =>
      cases hm : (c.proposer c.view == c.me) with
      | false => exact says_alien cb c L w hc hw hd (by rw [hpp]; rfl) hm
      | true => exact says_prop cb c L w hc hw hd p hpp hm
end Go.Proofs.Ytkpllkjionegeaa

/- Walks: what lasts of a core (Bytes). -/
namespace Go.Proofs.Ytkpllkjionegeaa
open Go Go.RowKit

/-- a row of bytes of one's own that grows: it lies in block g0, or beyond a world -/
structure Grows (B : Nat) (g0 : Nat) (w4 : World) (v : Value) (l : Bytes) (w : World) : Prop where
  row : w.ownsRow B 5 1 v l.length (byteCells l)
  kept : w4.grownBy w (some g0)
  at_ : ∀ k, v.ownBlock = some k → k = g0 ∨ w4.heap.size ≤ k

theorem Grows.step {B g0 : Nat} {w4 w w' : World} {v v' : Value} {l l' : Bytes} (h : Grows B g0 w4 v l w) (hr : w'.ownsRow B 5 1 v' l'.length (byteCells l')) (hg : w.grownBy w' v.ownBlock)
    (ha : ∀ k, v'.ownBlock = some k → v.ownBlock = some k ∨ w.heap.size ≤ k) : Grows B g0 w4 v' l' w' := by
  refine ⟨hr, ⟨hg.os.trans h.kept.os, hg.tape.trans h.kept.tape, hg.output.trans h.kept.output, Nat.le_trans h.kept.size hg.size, fun k hk hne => ?_⟩, fun k hk => ?_⟩
  · refine (hg.block k (Nat.lt_of_lt_of_le hk h.kept.size) (fun e => ?_)).trans (h.kept.block k hk hne)
    rcases h.at_ k e.symm with h1 | h1
    · exact hne (by rw [h1])
    · omega
  · rcases ha k hk with h1 | h1
    · exact h.at_ k h1
    · exact Or.inr (Nat.le_trans h.kept.size h1)

/-- memory has been made beside -/
theorem Grows.ext {B g0 : Nat} {w4 w w' : World} {v : Value} {l : Bytes} (h : Grows B g0 w4 v l w) (hx : Ext w w') : Grows B g0 w4 v l w' :=
  ⟨own_extG h.row (fun k hk => hx.block k (own_lt h.row k hk).2),
   ⟨hx.os.trans h.kept.os, hx.tape.trans h.kept.tape, hx.output.trans h.kept.output, Nat.le_trans h.kept.size hx.size, fun k hk hne => (hx.block k (Nat.lt_of_lt_of_le hk h.kept.size)).trans (h.kept.block k hk hne)⟩, h.at_⟩

/-- what lies in w4 in another block than g0 -/
theorem Grows.own {B B' g0 e s n : Nat} {w4 w : World} {v u : Value} {l : Bytes} {xs : List Value} (h : Grows B g0 w4 v l w) (hu : w4.ownsRow B' e s u n xs) (hne : ∀ k, u.ownBlock = some k → k ≠ g0) : w.ownsRow B' e s u n xs :=
  own_extG hu (fun k hk => h.kept.block k (own_lt hu k hk).2 (fun e => hne k hk (by cases e; rfl)))

theorem Grows.votes {B B' g0 : Nat} {w4 w : World} {v u : Value} {l : Bytes} {vl : List Vote} (h : Grows B g0 w4 v l w) (hu : VotesOwn B' w4 u vl) (hb : g0 < B') : VotesOwn B' w u vl := by
  obtain ⟨vs, h1, h2, h3⟩ := hu
  exact ⟨vs, h1, h.own h2 (fun k hk => by have := (own_lt h2 k hk).1; omega), fun p hp => h.own (h3 p hp) (fun k hk => by have := (own_lt (h3 p hp) k hk).1; omega)⟩

/-- 'four' as a step -/
theorem four_grows {B g0 : Nat} {w4 w : World} {v : Value} {l : Bytes} (h : Grows B g0 w4 v l w) (n : Int) (hB : B ≤ w4.heap.size) (hl : l.length ≤ 1000000) (h0 : 0 ≤ n) (h1 : n < 4294967296) :
    Calls Try.prog 48 #[v, .int .i64 n] w (fun e w' => ∃ v', e = .returned v' ∧ Grows B g0 w4 v' (l ++ four n) w' ∧ w.grownBy w' v.ownBlock) := by
  refine (four_calls B v l n w h.row (Nat.le_trans hB h.kept.size) hl h0 h1).mono ?_
  rintro e w' ⟨v', rfl, hr, hg, ha⟩
  exact ⟨v', rfl, h.step hr hg ha, hg⟩

theorem votesBytes_len {l : List Vote} (h : ∀ v ∈ l, v.value.length ≤ 4096) : (votesBytes l).length ≤ 4 + l.length * 4104 := by
  unfold votesBytes
  rw [List.length_append]
  have : (l.flatMap fun v => four v.view ++ four v.value.length ++ v.value).length ≤ l.length * 4104 := by
    induction l with
    | nil => simp
    | cons a l ih =>
      have h1 := h a (by simp)
      have h2 := ih (fun v hv => h v (by simp [hv]))
      simp only [List.flatMap_cons, List.length_append, List.length_cons, four, List.length_nil] at h2 ⊢
      omega
  simp [four]
  simp [four] at this
  omega
end Go.Proofs.Ytkpllkjionegeaa

/- Walks: what lasts of a core (Bytes). -/
namespace Go.Proofs.Ytkpllkjionegeaa
open Go Go.RowKit

theorem grown_ext {w w' : World} (h : w.grownBy w' none) : Ext w w' := ⟨h.os, h.tape, h.output, h.size, fun b hb => h.block b hb (by simp)⟩

theorem VotesOwn.slice {B : Nat} {w : World} {v : Value} {l : List Vote} (h : VotesOwn B w v l) : ∃ A C, v = .slice A l.length C := by
  obtain ⟨vs, _, h2, _⟩ := h
  exact own_slice h2

/-- one vote's cells -/
theorem VotesOwn.get {B : Nat} {w : World} {A : Option Addr} {C : Nat} {l : List Vote} (h : VotesOwn B w (.slice A l.length C) l) {i : Nat} (hi : i < l.length) :
    ∃ g A' C', A = some ⟨g, 0, none⟩ ∧ B ≤ g ∧ (∀ t, t < 6 → w.cell? ⟨g, i * 6 + t, none⟩ = (voteCells l[i] (.slice A' l[i].value.length C'))[t]?) ∧ w.ownsRow B 5 1 (.slice A' l[i].value.length C') l[i].value.length (byteCells l[i].value) := by
  obtain ⟨vs, h1, h2, h3⟩ := h
  have hget : ∀ (l : List Vote) (vs : List Value) (i t : Nat) (h1 : vs.length = l.length) (hi : i < l.length) (ht : t < 6), (votesCells l vs)[i * 6 + t]? = (voteCells l[i] (vs[i]'(by omega)))[t]? := by
    intro l
    induction l with
    | nil => intro vs i t h1 hi; simp at hi
    | cons a l ih =>
      intro vs i t h1 hi ht
      cases vs with
      | nil => simp at h1
      | cons u vs =>
        have e : votesCells (a :: l) (u :: vs) = (voteCells a u).toList ++ votesCells l vs := by simp [votesCells]
        have hlen : (voteCells a u).toList.length = 6 := by simp [voteCells]
        rw [e]
        cases i with
        | zero =>
          rw [List.getElem?_append_left (by rw [hlen]; omega)]
          simp
        | succ i =>
          rw [List.getElem?_append_right (by rw [hlen]; omega), hlen, show (i + 1) * 6 + t - 6 = i * 6 + t by omega, ih vs i t (by simpa using h1) (by simpa using hi) ht]
          simp
  rcases id h2.2 with ⟨e, h0⟩ | ⟨g, cap, cur, e, hB, hg, hcap, hm, hsz, htk⟩
  · omega
  · cases e
    have hz : (l[i], vs[i]'(by omega)) ∈ l.zip vs := by
      refine List.mem_iff_getElem?.2 ⟨i, ?_⟩
      rw [List.getElem?_zip_eq_some]
      exact ⟨by simp [hi], by simp [h1 ▸ hi, h1, hi]⟩
    have ho := h3 _ hz
    obtain ⟨A', C', e'⟩ := own_slice ho
    simp only at e' ho
    refine ⟨g, A', C', rfl, hB, fun t ht => ?_, e' ▸ ho⟩
    rw [World.ownsRow.cellAt h2 (i * 6 + t) (by omega), hget l vs i t h1 hi ht, e']

def encOne (v : Vote) : Bytes := four v.view ++ four v.value.length ++ v.value

theorem votesBytes_eq (l : List Vote) : votesBytes l = four l.length ++ l.flatMap encOne := rfl

theorem flatMap_take_le (m : List Vote) (i : Nat) : ((m.take i).flatMap encOne).length ≤ (m.flatMap encOne).length := by
  have : m.flatMap encOne = (m.take i).flatMap encOne ++ (m.drop i).flatMap encOne := by rw [← List.flatMap_append, List.take_append_drop]
  rw [this, List.length_append]; omega

theorem flatMap_take_succ (m : List Vote) {i : Nat} (hi : i < m.length) : (m.take (i + 1)).flatMap encOne = (m.take i).flatMap encOne ++ encOne m[i] := by
  rw [List.take_add_one, List.flatMap_append]
  simp [List.getElem?_eq_getElem hi]

theorem mine_ok {c : Core} {m : AL Told} (hw : TWf m) (kind : Int) : ∀ v ∈ c.mine kind m, 0 ≤ v.view ∧ v.view ≤ 1048576 ∧ v.value.length ≤ 4096 := fun v hv => by
  unfold Core.mine at hv
  obtain ⟨p, hp, e⟩ := List.mem_filterMap.1 hv
  obtain ⟨x, hx, rfl⟩ := Option.map_eq_some_iff.1 e
  have h1 := hw.2 p.1 p.2 (AL.get?_of_mem hw.1 hp)
  exact ⟨h1.1.1, h1.1.2, (h1.2.2 _ x hx).2⟩

theorem four_len (n : Int) : (four n).length = 4 := rfl

theorem votes_len (m : List Vote) : m.length ≤ (votesBytes m).length := by
  rw [votesBytes_eq, List.length_append]
  have : m.length ≤ (m.flatMap encOne).length := by
    induction m with
    | nil => simp
    | cons a l ih => simp only [List.flatMap_cons, List.length_append, List.length_cons, encOne, four_len]; omega
  omega


theorem Grows.behind {B g0 : Nat} {w w1 w4 wr : World} {v : Value} {l : Bytes} (h : Grows B g0 w4 v l wr) (hx : Ext w w4) (hg : w.heap.size ≤ g0) : Ext w wr :=
  ⟨h.kept.os.trans hx.os, h.kept.tape.trans hx.tape, h.kept.output.trans hx.output, Nat.le_trans hx.size h.kept.size, fun k hk => (h.kept.block k (Nat.lt_of_lt_of_le hk hx.size) (fun e => by cases e; omega)).trans (hx.block k hk)⟩

theorem byte_at {W : World} {p : Nat} {x : UInt8} {t : TypeId} (h : W.heap[p]? = some (.cells #[.int .u8 (x.toNat : Int)] t (0, 0))) : BytesAt W (.slice (some ⟨p, 0, none⟩) 1 1) [x] :=
  ⟨some ⟨p, 0, none⟩, 1, rfl, Nat.le_refl _, fun _ => ⟨p, 0, rfl, fun i hi => by
    have : i = 0 := by simpa using hi
    subst this
    simp [World.cell?, h]⟩⟩

set_option maxRecDepth 100000 in
set_option maxHeartbeats 4000000 in
theorem bytes_calls (cb : Nat) (c : Core) (L : Lay) (w : World) (hc : CoreAt w cb c L) (hw : Wf c) (hsmall : c.bytes.length ≤ 1000000) :
    Calls Try.prog 17 #[.pointer (some ⟨cb, 0, none⟩)] w (GivesBytes c.bytes w) := by
  have hlt := hc.lt
  have c4 := hc.c4
  have hv0 := hw.v0
  have hv1 := hw.v1
  obtain ⟨m2, hm2⟩ : ∃ m2, m2 = c.mine 2 c.preps := ⟨_, rfl⟩
  obtain ⟨m3, hm3⟩ : ∃ m3, m3 = c.mine 3 c.comms := ⟨_, rfl⟩
  have HC := Lib.hid hc
  have HW := Lib.hid hw
  have HS := Lib.hid hsmall
  have HM2 := Lib.hid hm2
  have HM3 := Lib.hid hm3
  have hlen : 4 + (votesBytes m2).length + (votesBytes m3).length + 5 + (if c.decided then c.value.length else 0) ≤ 1000000 := by
    have := hsmall
    unfold Core.bytes at this
    rw [hm2, hm3]
    simp only [List.length_append, four_len] at this
    cases hd : c.decided <;> simp [hd, four_len] at this ⊢ <;> omega
  have HLEN := Lib.hid hlen
  have HO2 := Lib.hid (mine_ok (c := c) hw.preps 2)
  have HO3 := Lib.hid (mine_ok (c := c) hw.comms 3)
  clear hc hw hsmall hm2 hm3 hlen
  go_enter Try.func17, Try.ntmps17
  go_wp2_with (go_at_call 48; refine (four_calls w.heap.size (.slice none 0 0) [] c.view _ (World.ownsRow_nil w _ _ _) (Nat.le_refl _) (by simp) hv0 (by omega)).mono ?_; rintro e w1 ⟨v1, rfl, hr1, hg1, ha1⟩)
  have hx1 := grown_ext hg1
  have hc1 := HC.out.ext hx1
  have c8 := hc1.c8
  have c9 := hc1.c9
  have hlt1 := hc1.lt
  have hr1' : w1.ownsRow w.heap.size 5 1 v1 (four c.view).length (byteCells (four c.view)) := hr1
  have hg0 : ∃ g0 cap, v1 = .slice (some ⟨g0, 0, none⟩) 4 cap ∧ w.heap.size ≤ g0 ∧ g0 < w1.heap.size := by
    rcases id hr1'.2 with ⟨_, h0⟩ | ⟨g, cap, cur, e, hB, hg, _⟩
    · simp [four] at h0
    · exact ⟨g, cap, by rw [e]; rfl, hB, (Array.getElem?_eq_some_iff.1 hg).1⟩
  obtain ⟨g0, cap0, rfl, hg0w, hg01⟩ := hg0
  have HR1 := Lib.hid hr1'
  have HX1 := Lib.hid hx1
  have HC1 := Lib.hid hc1
  clear hr1 hr1' hg1 ha1 hx1 hc1 c4
  refine wp_region_T [] (.pure 0 (.pure 1 (.pure 2 (.pure 3 (.pure 6 (.pure 7 (.pure 8 (.pure 9 (.pure 14 (.take 4 (.take 10 (.one 5 (.one 11 (.one 12 (.take 13 .nil))))))))))))))) (by kernel_rfl) (by kernel_rfl) ?_
  iterate 9 (refine' wpT_pure rfl rfl (fun w' => ?_) ?_; rotate_left 1; (focus ((try go_simp); (try go_bits); (first | done | with_reducible rfl))); simp only [Act.put, List.setIfInBounds_toArray, List.set_cons_zero, List.set_cons_succ])
  iterate 2 (first | (refine' wpT_take_dddd rfl rfl (fun w' hc hl hsz => ?_) ?_; rotate_left 1; (focus ((try go_simp); (try go_bits); (first | done | with_reducible rfl))); simp only [Act.put, List.setIfInBounds_toArray, List.set_cons_zero, List.set_cons_succ]) | (refine' wpT_take_ddd rfl rfl (fun w' hc hl hsz => ?_) ?_; rotate_left 1; (focus ((try go_simp); (try go_bits); (first | done | with_reducible rfl))); simp only [Act.put, List.setIfInBounds_toArray, List.set_cons_zero, List.set_cons_succ]) | (refine' wpT_take_dd rfl rfl (fun w' hc hl hsz => ?_) ?_; rotate_left 1; (focus ((try go_simp); (try go_bits); (first | done | with_reducible rfl))); simp only [Act.put, List.setIfInBounds_toArray, List.set_cons_zero, List.set_cons_succ]) | (refine' wpT_take_d rfl rfl (fun w' hc hl hsz => ?_) ?_; rotate_left 1; (focus ((try go_simp); (try go_bits); (first | done | with_reducible rfl))); simp only [Act.put, List.setIfInBounds_toArray, List.set_cons_zero, List.set_cons_succ]))
  refine wpT_one rfl rfl (fun K hK => ?_)
  go_wp2_with (go_at_call 49; refine (mine_calls cb c L 2 L.preps c.preps L.ip _ (HC1.out.ext (Ext.refl w1).dr) (HC1.out.ext (Ext.refl w1).dr).preps HW.out.preps).mono ?_; rw [← HM2.out]; rintro e w2 ⟨v2, rfl, hv2, hx2⟩)
  refine hK _ _ hx2 ?_
  clear hK K
  refine wpT_one rfl rfl (fun K hK => ?_)
  go_wp2_with (go_at_call 49; refine (mine_calls cb c L 3 L.comms c.comms L.ic _ (HC1.out.ext (Ext.undrew hx2)) (HC1.out.ext (Ext.undrew hx2)).comms HW.out.comms).mono ?_; rw [← HM3.out]; rintro e w3 ⟨v3, rfl, hv3, hx3⟩)
  refine hK _ _ hx3 ?_
  clear hK K
  refine wpT_one rfl rfl (fun K hK => ?_)
  obtain ⟨A2, C2, rfl⟩ := hv2.slice
  obtain ⟨A3, C3, rfl⟩ := hv3.slice
  go_wp2
  refine hK _ _ (Ext.al (Ext.refl _) _) ?_
  clear hK K
  (refine' wpT_take rfl rfl (fun w' hc hl hsz => ?_) ?_; rotate_left 1; (focus ((try go_simp); (try go_bits); (first | done | with_reducible rfl))); simp only [Act.put, List.setIfInBounds_toArray, List.set_cons_zero, List.set_cons_succ])
  refine wpT_nil ?_
  go_wp2
  have hx14 : Ext w1 (w3.alloc (Obj.cells #[.slice A2 m2.length C2, .slice A3 m3.length C3] 51)) := Ext.al (Ext.trans (Ext.undrew hx2) hx3) _
  have hblk : (w3.alloc (Obj.cells #[.slice A2 m2.length C2, .slice A3 m3.length C3] 51)).heap[w3.heap.size]? = some (.cells #[.slice A2 m2.length C2, .slice A3 m3.length C3] 51 (0, 0)) := heap_alloc_new w3 _
  have hs34 : (w3.alloc (Obj.cells #[.slice A2 m2.length C2, .slice A3 m3.length C3] 51)).heap.size = w3.heap.size + 1 := by simp
  have hv2' := (hv2.ext hx3).ext (Ext.al (Ext.refl w3) (Obj.cells #[.slice A2 m2.length C2, .slice A3 m3.length C3] 51))
  have hv3' := hv3.ext (Ext.al (Ext.refl w3) (Obj.cells #[.slice A2 m2.length C2, .slice A3 m3.length C3] 51))
  have hb2 : g0 < w1.drew.heap.size := hg01
  have hb3 : g0 < w2.heap.size := Nat.lt_of_lt_of_le hg01 (Ext.undrew hx2).size
  obtain ⟨W4, hW4⟩ : ∃ W4, W4 = w3.alloc (Obj.cells #[.slice A2 m2.length C2, .slice A3 m3.length C3] 51) := ⟨_, rfl⟩
  rw [← hW4] at hx14 hblk hs34 hv2' hv3' ⊢
  have hgr : Grows w.heap.size g0 W4 (.slice (some ⟨g0, 0, none⟩) 4 cap0) (four c.view) W4 :=
    ⟨own_extG HR1.out (fun k hk => hx14.block k (own_lt HR1.out k hk).2), ⟨rfl, rfl, rfl, Nat.le_refl _, fun _ _ _ => rfl⟩, fun k hk => Or.inl (by simpa [Value.ownBlock] using hk.symm)⟩
  have hW4s := hx14.size
  have hw1s := HX1.out.size
  have hpb : g0 ≠ w3.heap.size := by have := (Ext.trans (Ext.undrew hx2) hx3).size; omega
  have HX14 := Lib.hid hx14
  have HBLK := Lib.hid hblk
  have HV2 := Lib.hid hv2'
  have HV3 := Lib.hid hv3'
  have HGR := Lib.hid hgr
  clear hx14 hblk hv2' hv3' hgr hv2 hv3 hx2 hx3 hW4 c8 c9
  go_loopw [29, 3] (fun v vb wr => ∃ (k : Nat) (bs : Bytes), k ≤ 2 ∧ v = .int .i64 k ∧ bs = four c.view ++ ((if 1 ≤ k then votesBytes m2 else []) ++ (if 2 ≤ k then votesBytes m3 else [])) ∧ Grows w.heap.size g0 W4 vb bs wr) (fun v _ _ => 2 - (intOf v).toNat)
  case atStart => exact ⟨0, _, by omega, rfl, by simp, HGR.out⟩
  case round =>
    obtain ⟨k, bs, hk, rfl, hbs, hg⟩ := hrel
    have hblr : wr.heap[w3.heap.size]? = some (.cells #[.slice A2 m2.length C2, .slice A3 m3.length C3] 51 (0, 0)) := (hg.kept.block _ (by omega) (fun e => hpb (by cases e; rfl))).trans HBLK.out
    have q0 : wr.cell? ⟨w3.heap.size, 0, none⟩ = some (.slice A2 m2.length C2) := by simp [World.cell?, hblr]
    have q1 : wr.cell? ⟨w3.heap.size, 1, none⟩ = some (.slice A3 m3.length C3) := by simp [World.cell?, hblr]
    have hqs : w3.heap.size < wr.heap.size := by have := hg.kept.size; omega
    have HG := Lib.hid hg
    have HBS := Lib.hid hbs
    clear hg hbs hblr
    have h3 : k = 0 ∨ k = 1 ∨ k = 2 := by omega
    rcases h3 with rfl | rfl | rfl
    · have hb6 : bs.length + (votesBytes m2).length ≤ 1000000 := by have := HLEN.out; rw [HBS.out]; simp [four_len]; omega
      have hml : m2.length ≤ 1000000 := by have := votes_len m2; omega
      have HB6 := Lib.hid hb6
      clear hb6
      go_wp2_with (go_at_call 48; refine (four_grows HG.out (m2.length : Int) (by omega) (by have := HB6.out; omega) (by omega) (by omega)).mono ?_; rintro e w6 ⟨v6, rfl, hg6, _⟩)
      have HG6 := Lib.hid hg6
      clear hg6 q0 q1 hqs
      obtain ⟨wo, hwo⟩ : ∃ wo : World, wo = wr := ⟨_, rfl⟩
      subst hwo
      go_loopw [39, 3] (fun v vb wr => ∃ i : Nat, i ≤ m2.length ∧ v = .int .i64 i ∧ Grows w.heap.size g0 W4 vb (bs ++ four m2.length ++ (m2.take i).flatMap encOne) wr) (fun v _ _ => m2.length - (intOf v).toNat)
      case atStart => exact ⟨0, Nat.zero_le _, rfl, by simpa using HG6.out⟩
      case round =>
        obtain ⟨i, hi, rfl, hgi⟩ := hrel
        by_cases hlt2 : i < m2.length
        · obtain ⟨g, A', C', rfl, hBg, hcells4, hown⟩ := HV2.out.get hlt2
          have hg4 : g < W4.heap.size := World.block_lt_of_cell? W4 _ ((hcells4 0 (by omega)).trans rfl)
          have hgne : g ≠ g0 := by have := hb2; omega
          have hcells : ∀ t, t < 6 → wr.cell? ⟨g, i * 6 + t, none⟩ = (voteCells m2[i] (.slice A' m2[i].value.length C'))[t]? := fun t ht => (World.cell?_of_block (a := ⟨g, i * 6 + t, none⟩) (hgi.kept.block g hg4 (fun e => hgne (by cases e; rfl)))).trans (hcells4 t ht)
          have hune : ∀ k, (Value.slice A' m2[i].value.length C').ownBlock = some k → k ≠ g0 := fun k hk => by have h1 := (own_lt hown k hk).1; have h2 := hb2; omega
          have x0 : wr.cell? ⟨g, i * 6, none⟩ = some (.int .i64 m2[i].kind) := hcells 0 (by omega)
          have x1 : wr.cell? ⟨g, i * 6 + 1, none⟩ = some (.int .i64 m2[i].frm) := hcells 1 (by omega)
          have x2 : wr.cell? ⟨g, i * 6 + 2, none⟩ = some (.int .i64 m2[i].slot) := hcells 2 (by omega)
          have x3 : wr.cell? ⟨g, i * 6 + 3, none⟩ = some (.int .i64 m2[i].view) := hcells 3 (by omega)
          have x4 : wr.cell? ⟨g, i * 6 + 4, none⟩ = some (.int .i64 m2[i].valid) := hcells 4 (by omega)
          have x5 : wr.cell? ⟨g, i * 6 + 5, none⟩ = some (.slice A' m2[i].value.length C') := hcells 5 (by omega)
          have hmem : m2[i] ∈ m2 := List.getElem_mem hlt2
          have hok := HO2.out _ (by rw [← HM2.out]; exact hmem)
          have hsucc := flatMap_take_succ m2 hlt2
          obtain ⟨vt, hvt⟩ : ∃ vt, vt = m2[i] := ⟨_, rfl⟩
          rw [← hvt] at x0 x1 x2 x3 x4 x5 hown hok hsucc hune
          have hgl : g < wr.heap.size := World.block_lt_of_cell? wr _ x0
          have HOK := Lib.hid hok
          have HSU := Lib.hid hsucc
          have HOWN := Lib.hid hown
          have HGI := Lib.hid hgi
          have HUNE := Lib.hid hune
          clear hgi hcells hcells4 hown hvt hmem hok hsucc hune
          go_wp2
          have hbx := boxed wr #[.int .i64 vt.kind, .int .i64 vt.frm, .int .i64 vt.slot, .int .i64 vt.view, .int .i64 vt.valid, .slice A' vt.value.length C'] 28
          have hblT := heap_alloc_new wr (Obj.cells #[.int .i64 vt.kind, .int .i64 vt.frm, .int .i64 vt.slot, .int .i64 vt.view, .int .i64 vt.valid, .slice A' vt.value.length C'] 28)
          obtain ⟨W, hW⟩ : ∃ W, W = wr.alloc (Obj.cells #[.int .i64 vt.kind, .int .i64 vt.frm, .int .i64 vt.slot, .int .i64 vt.view, .int .i64 vt.valid, .slice A' vt.value.length C'] 28) := ⟨_, rfl⟩
          rw [← hW] at hbx hblT ⊢
          obtain ⟨hxT, hcT, hsT⟩ := hbx
          have y3 : W.cell? ⟨wr.heap.size, 3, none⟩ = some (.int .i64 vt.view) := hcT 3
          have y5 : W.cell? ⟨wr.heap.size, 5, none⟩ = some (.slice A' vt.value.length C') := hcT 5
          have hTl : wr.heap.size < W.heap.size := by omega
          have HGW := Lib.hid (HGI.out.ext (Ext.trans hxT (Ext.refl W).dr))
          have HBT := Lib.hid hblT
          clear hxT hcT hblT hW
          have hpl : bs.length + 4 + ((m2.take i).flatMap encOne).length + 8 + vt.value.length ≤ 1000000 := by
            have h1 := HB6.out
            have h2 := flatMap_take_le m2 (i + 1)
            rw [HSU.out] at h2
            rw [votesBytes_eq] at h1
            simp only [List.length_append, encOne, four_len] at h1 h2
            omega
          have HPL := Lib.hid hpl
          clear hpl
          refine DB.wp_region_T (wr.heap.size) [] (.pure 0 (.pure 1 (.pure 4 (.pure 8 (.take 2 (.take 5 (.pure 6 (.take 9 (.one 3 (.one 7 (.one 10 (.pure 11 .nil)))))))))))) (by kernel_rfl) (by kernel_rfl) ?_
          iterate 4 (refine' DB.wpT_pure rfl rfl (fun w' => ?_) ?_; rotate_left 1; (focus ((try go_simp); (try go_bits); (first | done | with_reducible rfl))); simp only [Act.put, List.setIfInBounds_toArray, List.set_cons_zero, List.set_cons_succ])
          iterate 2 (first | (refine' DB.wpT_take_dddd rfl rfl (fun w' hc hl hsz => ?_) ?_; rotate_left 1; (focus ((try go_simp); (try go_bits); (first | done | with_reducible rfl))); simp only [Act.put, List.setIfInBounds_toArray, List.set_cons_zero, List.set_cons_succ]) | (refine' DB.wpT_take_ddd rfl rfl (fun w' hc hl hsz => ?_) ?_; rotate_left 1; (focus ((try go_simp); (try go_bits); (first | done | with_reducible rfl))); simp only [Act.put, List.setIfInBounds_toArray, List.set_cons_zero, List.set_cons_succ]) | (refine' DB.wpT_take_dd rfl rfl (fun w' hc hl hsz => ?_) ?_; rotate_left 1; (focus ((try go_simp); (try go_bits); (first | done | with_reducible rfl))); simp only [Act.put, List.setIfInBounds_toArray, List.set_cons_zero, List.set_cons_succ]) | (refine' DB.wpT_take_d rfl rfl (fun w' hc hl hsz => ?_) ?_; rotate_left 1; (focus ((try go_simp); (try go_bits); (first | done | with_reducible rfl))); simp only [Act.put, List.setIfInBounds_toArray, List.set_cons_zero, List.set_cons_succ]))
          (refine' DB.wpT_pure rfl rfl (fun w' => ?_) ?_; rotate_left 1; (focus ((try go_simp); (try go_bits); (first | done | with_reducible rfl))); simp only [Act.put, List.setIfInBounds_toArray, List.set_cons_zero, List.set_cons_succ])
          first | (refine' DB.wpT_take_dddd rfl rfl (fun w' hc hl hsz => ?_) ?_; rotate_left 1; (focus ((try go_simp); (try go_bits); (first | done | with_reducible rfl))); simp only [Act.put, List.setIfInBounds_toArray, List.set_cons_zero, List.set_cons_succ]) | (refine' DB.wpT_take_ddd rfl rfl (fun w' hc hl hsz => ?_) ?_; rotate_left 1; (focus ((try go_simp); (try go_bits); (first | done | with_reducible rfl))); simp only [Act.put, List.setIfInBounds_toArray, List.set_cons_zero, List.set_cons_succ]) | (refine' DB.wpT_take_dd rfl rfl (fun w' hc hl hsz => ?_) ?_; rotate_left 1; (focus ((try go_simp); (try go_bits); (first | done | with_reducible rfl))); simp only [Act.put, List.setIfInBounds_toArray, List.set_cons_zero, List.set_cons_succ]) | (refine' DB.wpT_take_d rfl rfl (fun w' hc hl hsz => ?_) ?_; rotate_left 1; (focus ((try go_simp); (try go_bits); (first | done | with_reducible rfl))); simp only [Act.put, List.setIfInBounds_toArray, List.set_cons_zero, List.set_cons_succ])
          refine DB.wpT_one rfl rfl (fun K hK => ?_)
          skip
          go_wp2_with (go_at_call 48; refine (four_grows HGW.out vt.view (by omega) (by have := HPL.out; simp only [List.length_append, four_len]; omega) HOK.out.1 (by have := HOK.out.2.1; omega)).mono ?_; rintro e w7 ⟨v7, rfl, hg7, hr7⟩)
          refine hK _ _ ⟨hr7.block wr.heap.size hTl (own_ne HGW.out.row HBT.out (by decide)), hr7.size⟩ ?_
          clear hK K
          refine DB.wpT_one rfl rfl (fun K hK => ?_)
          have hT7 : w7.heap[wr.heap.size]? = _ := (hr7.block wr.heap.size hTl (own_ne HGW.out.row HBT.out (by decide))).trans HBT.out
          go_wp2_with (go_at_call 48; refine (four_grows hg7 (vt.value.length : Int) (by omega) (by have := HPL.out; simp only [List.length_append, four_len]; omega) (by omega) (by have := HOK.out.2.2; omega)).mono ?_; rintro e w8 ⟨v8, rfl, hg8, hr8⟩)
          refine hK _ _ ⟨hr8.block wr.heap.size (Array.getElem?_eq_some_iff.1 hT7).1 (own_ne hg7.row hT7 (by decide)), hr8.size⟩ ?_
          clear hK K
          refine DB.wpT_one rfl rfl (fun K hK => ?_)
          have hT8 : w8.heap[wr.heap.size]? = _ := (hr8.block wr.heap.size (Array.getElem?_eq_some_iff.1 hT7).1 (own_ne hg7.row hT7 (by decide))).trans hT7
          refine wp_append_bytes _ _ rfl w.heap.size v8 _ rfl hg8.row _ vt.value rfl (bytes_of_own (hg8.own HOWN.out HUNE.out)) (by have := HPL.out; simp only [List.length_append, four_len]; omega) (by have := hg8.kept.size; omega) ?_
          intro v9 w9 hr9 hgr9 hat9
          have hg9 := hg8.step hr9 hgr9 (fun k hk => by rcases hat9 with h | h; exact Or.inl (h ▸ hk); exact Or.inr (by rw [hk] at h; cases h; omega))
          refine hK _ _ ⟨hgr9.block wr.heap.size (Array.getElem?_eq_some_iff.1 hT8).1 (own_ne hg8.row hT8 (by decide)), hgr9.size⟩ ?_
          clear hK K
          (refine' DB.wpT_pure rfl rfl (fun w' => ?_) ?_; rotate_left 1; (focus ((try go_simp); (try go_bits); (first | done | with_reducible rfl))); simp only [Act.put, List.setIfInBounds_toArray, List.set_cons_zero, List.set_cons_succ])
          refine DB.wpT_nil ?_
          go_wp2
          refine ⟨⟨i + 1, by omega, by go_num, ?_⟩, by simp [intOf]; omega⟩
          rw [HSU.out]
          have e : bs ++ four m2.length ++ ((m2.take i).flatMap encOne ++ encOne vt) = bs ++ four m2.length ++ (m2.take i).flatMap encOne ++ four vt.view ++ four vt.value.length ++ vt.value := by simp [encOne]
          rw [e]
          exact hg9
        · have hie : i = m2.length := by omega
          rw [hie, List.take_length, List.append_assoc, ← votesBytes_eq] at hgi
          have HGI := Lib.hid hgi
          clear hgi
          go_wp2
          refine ⟨⟨1, _, by omega, rfl, ?_, HGI.out⟩, by simp [intOf]⟩
          rw [HBS.out]
          simp
    · have hb6 : bs.length + (votesBytes m3).length ≤ 1000000 := by have := HLEN.out; rw [HBS.out]; simp [four_len]; omega
      have hml : m3.length ≤ 1000000 := by have := votes_len m3; omega
      have HB6 := Lib.hid hb6
      clear hb6
      go_wp2_with (go_at_call 48; refine (four_grows HG.out (m3.length : Int) (by omega) (by have := HB6.out; omega) (by omega) (by omega)).mono ?_; rintro e w6 ⟨v6, rfl, hg6, _⟩)
      have HG6 := Lib.hid hg6
      clear hg6 q0 q1 hqs
      obtain ⟨wo, hwo⟩ : ∃ wo : World, wo = wr := ⟨_, rfl⟩
      subst hwo
      go_loopw [39, 3] (fun v vb wr => ∃ i : Nat, i ≤ m3.length ∧ v = .int .i64 i ∧ Grows w.heap.size g0 W4 vb (bs ++ four m3.length ++ (m3.take i).flatMap encOne) wr) (fun v _ _ => m3.length - (intOf v).toNat)
      case atStart => exact ⟨0, Nat.zero_le _, rfl, by simpa using HG6.out⟩
      case round =>
        obtain ⟨i, hi, rfl, hgi⟩ := hrel
        by_cases hlt2 : i < m3.length
        · obtain ⟨g, A', C', rfl, hBg, hcells4, hown⟩ := HV3.out.get hlt2
          have hg4 : g < W4.heap.size := World.block_lt_of_cell? W4 _ ((hcells4 0 (by omega)).trans rfl)
          have hgne : g ≠ g0 := by have := hb3; omega
          have hcells : ∀ t, t < 6 → wr.cell? ⟨g, i * 6 + t, none⟩ = (voteCells m3[i] (.slice A' m3[i].value.length C'))[t]? := fun t ht => (World.cell?_of_block (a := ⟨g, i * 6 + t, none⟩) (hgi.kept.block g hg4 (fun e => hgne (by cases e; rfl)))).trans (hcells4 t ht)
          have hune : ∀ k, (Value.slice A' m3[i].value.length C').ownBlock = some k → k ≠ g0 := fun k hk => by have h1 := (own_lt hown k hk).1; have h2 := hb3; omega
          have x0 : wr.cell? ⟨g, i * 6, none⟩ = some (.int .i64 m3[i].kind) := hcells 0 (by omega)
          have x1 : wr.cell? ⟨g, i * 6 + 1, none⟩ = some (.int .i64 m3[i].frm) := hcells 1 (by omega)
          have x2 : wr.cell? ⟨g, i * 6 + 2, none⟩ = some (.int .i64 m3[i].slot) := hcells 2 (by omega)
          have x3 : wr.cell? ⟨g, i * 6 + 3, none⟩ = some (.int .i64 m3[i].view) := hcells 3 (by omega)
          have x4 : wr.cell? ⟨g, i * 6 + 4, none⟩ = some (.int .i64 m3[i].valid) := hcells 4 (by omega)
          have x5 : wr.cell? ⟨g, i * 6 + 5, none⟩ = some (.slice A' m3[i].value.length C') := hcells 5 (by omega)
          have hmem : m3[i] ∈ m3 := List.getElem_mem hlt2
          have hok := HO3.out _ (by rw [← HM3.out]; exact hmem)
          have hsucc := flatMap_take_succ m3 hlt2
          obtain ⟨vt, hvt⟩ : ∃ vt, vt = m3[i] := ⟨_, rfl⟩
          rw [← hvt] at x0 x1 x2 x3 x4 x5 hown hok hsucc hune
          have hgl : g < wr.heap.size := World.block_lt_of_cell? wr _ x0
          have HOK := Lib.hid hok
          have HSU := Lib.hid hsucc
          have HOWN := Lib.hid hown
          have HGI := Lib.hid hgi
          have HUNE := Lib.hid hune
          clear hgi hcells hcells4 hown hvt hmem hok hsucc hune
          go_wp2
          have hbx := boxed wr #[.int .i64 vt.kind, .int .i64 vt.frm, .int .i64 vt.slot, .int .i64 vt.view, .int .i64 vt.valid, .slice A' vt.value.length C'] 28
          have hblT := heap_alloc_new wr (Obj.cells #[.int .i64 vt.kind, .int .i64 vt.frm, .int .i64 vt.slot, .int .i64 vt.view, .int .i64 vt.valid, .slice A' vt.value.length C'] 28)
          obtain ⟨W, hW⟩ : ∃ W, W = wr.alloc (Obj.cells #[.int .i64 vt.kind, .int .i64 vt.frm, .int .i64 vt.slot, .int .i64 vt.view, .int .i64 vt.valid, .slice A' vt.value.length C'] 28) := ⟨_, rfl⟩
          rw [← hW] at hbx hblT ⊢
          obtain ⟨hxT, hcT, hsT⟩ := hbx
          have y3 : W.cell? ⟨wr.heap.size, 3, none⟩ = some (.int .i64 vt.view) := hcT 3
          have y5 : W.cell? ⟨wr.heap.size, 5, none⟩ = some (.slice A' vt.value.length C') := hcT 5
          have hTl : wr.heap.size < W.heap.size := by omega
          have HGW := Lib.hid (HGI.out.ext (Ext.trans hxT (Ext.refl W).dr))
          have HBT := Lib.hid hblT
          clear hxT hcT hblT hW
          have hpl : bs.length + 4 + ((m3.take i).flatMap encOne).length + 8 + vt.value.length ≤ 1000000 := by
            have h1 := HB6.out
            have h2 := flatMap_take_le m3 (i + 1)
            rw [HSU.out] at h2
            rw [votesBytes_eq] at h1
            simp only [List.length_append, encOne, four_len] at h1 h2
            omega
          have HPL := Lib.hid hpl
          clear hpl
          refine DB.wp_region_T (wr.heap.size) [] (.pure 0 (.pure 1 (.pure 4 (.pure 8 (.take 2 (.take 5 (.pure 6 (.take 9 (.one 3 (.one 7 (.one 10 (.pure 11 .nil)))))))))))) (by kernel_rfl) (by kernel_rfl) ?_
          iterate 4 (refine' DB.wpT_pure rfl rfl (fun w' => ?_) ?_; rotate_left 1; (focus ((try go_simp); (try go_bits); (first | done | with_reducible rfl))); simp only [Act.put, List.setIfInBounds_toArray, List.set_cons_zero, List.set_cons_succ])
          iterate 2 (first | (refine' DB.wpT_take_dddd rfl rfl (fun w' hc hl hsz => ?_) ?_; rotate_left 1; (focus ((try go_simp); (try go_bits); (first | done | with_reducible rfl))); simp only [Act.put, List.setIfInBounds_toArray, List.set_cons_zero, List.set_cons_succ]) | (refine' DB.wpT_take_ddd rfl rfl (fun w' hc hl hsz => ?_) ?_; rotate_left 1; (focus ((try go_simp); (try go_bits); (first | done | with_reducible rfl))); simp only [Act.put, List.setIfInBounds_toArray, List.set_cons_zero, List.set_cons_succ]) | (refine' DB.wpT_take_dd rfl rfl (fun w' hc hl hsz => ?_) ?_; rotate_left 1; (focus ((try go_simp); (try go_bits); (first | done | with_reducible rfl))); simp only [Act.put, List.setIfInBounds_toArray, List.set_cons_zero, List.set_cons_succ]) | (refine' DB.wpT_take_d rfl rfl (fun w' hc hl hsz => ?_) ?_; rotate_left 1; (focus ((try go_simp); (try go_bits); (first | done | with_reducible rfl))); simp only [Act.put, List.setIfInBounds_toArray, List.set_cons_zero, List.set_cons_succ]))
          (refine' DB.wpT_pure rfl rfl (fun w' => ?_) ?_; rotate_left 1; (focus ((try go_simp); (try go_bits); (first | done | with_reducible rfl))); simp only [Act.put, List.setIfInBounds_toArray, List.set_cons_zero, List.set_cons_succ])
          first | (refine' DB.wpT_take_dddd rfl rfl (fun w' hc hl hsz => ?_) ?_; rotate_left 1; (focus ((try go_simp); (try go_bits); (first | done | with_reducible rfl))); simp only [Act.put, List.setIfInBounds_toArray, List.set_cons_zero, List.set_cons_succ]) | (refine' DB.wpT_take_ddd rfl rfl (fun w' hc hl hsz => ?_) ?_; rotate_left 1; (focus ((try go_simp); (try go_bits); (first | done | with_reducible rfl))); simp only [Act.put, List.setIfInBounds_toArray, List.set_cons_zero, List.set_cons_succ]) | (refine' DB.wpT_take_dd rfl rfl (fun w' hc hl hsz => ?_) ?_; rotate_left 1; (focus ((try go_simp); (try go_bits); (first | done | with_reducible rfl))); simp only [Act.put, List.setIfInBounds_toArray, List.set_cons_zero, List.set_cons_succ]) | (refine' DB.wpT_take_d rfl rfl (fun w' hc hl hsz => ?_) ?_; rotate_left 1; (focus ((try go_simp); (try go_bits); (first | done | with_reducible rfl))); simp only [Act.put, List.setIfInBounds_toArray, List.set_cons_zero, List.set_cons_succ])
          refine DB.wpT_one rfl rfl (fun K hK => ?_)
          skip
          go_wp2_with (go_at_call 48; refine (four_grows HGW.out vt.view (by omega) (by have := HPL.out; simp only [List.length_append, four_len]; omega) HOK.out.1 (by have := HOK.out.2.1; omega)).mono ?_; rintro e w7 ⟨v7, rfl, hg7, hr7⟩)
          refine hK _ _ ⟨hr7.block wr.heap.size hTl (own_ne HGW.out.row HBT.out (by decide)), hr7.size⟩ ?_
          clear hK K
          refine DB.wpT_one rfl rfl (fun K hK => ?_)
          have hT7 : w7.heap[wr.heap.size]? = _ := (hr7.block wr.heap.size hTl (own_ne HGW.out.row HBT.out (by decide))).trans HBT.out
          go_wp2_with (go_at_call 48; refine (four_grows hg7 (vt.value.length : Int) (by omega) (by have := HPL.out; simp only [List.length_append, four_len]; omega) (by omega) (by have := HOK.out.2.2; omega)).mono ?_; rintro e w8 ⟨v8, rfl, hg8, hr8⟩)
          refine hK _ _ ⟨hr8.block wr.heap.size (Array.getElem?_eq_some_iff.1 hT7).1 (own_ne hg7.row hT7 (by decide)), hr8.size⟩ ?_
          clear hK K
          refine DB.wpT_one rfl rfl (fun K hK => ?_)
          have hT8 : w8.heap[wr.heap.size]? = _ := (hr8.block wr.heap.size (Array.getElem?_eq_some_iff.1 hT7).1 (own_ne hg7.row hT7 (by decide))).trans hT7
          refine wp_append_bytes _ _ rfl w.heap.size v8 _ rfl hg8.row _ vt.value rfl (bytes_of_own (hg8.own HOWN.out HUNE.out)) (by have := HPL.out; simp only [List.length_append, four_len]; omega) (by have := hg8.kept.size; omega) ?_
          intro v9 w9 hr9 hgr9 hat9
          have hg9 := hg8.step hr9 hgr9 (fun k hk => by rcases hat9 with h | h; exact Or.inl (h ▸ hk); exact Or.inr (by rw [hk] at h; cases h; omega))
          refine hK _ _ ⟨hgr9.block wr.heap.size (Array.getElem?_eq_some_iff.1 hT8).1 (own_ne hg8.row hT8 (by decide)), hgr9.size⟩ ?_
          clear hK K
          (refine' DB.wpT_pure rfl rfl (fun w' => ?_) ?_; rotate_left 1; (focus ((try go_simp); (try go_bits); (first | done | with_reducible rfl))); simp only [Act.put, List.setIfInBounds_toArray, List.set_cons_zero, List.set_cons_succ])
          refine DB.wpT_nil ?_
          go_wp2
          refine ⟨⟨i + 1, by omega, by go_num, ?_⟩, by simp [intOf]; omega⟩
          rw [HSU.out]
          have e : bs ++ four m3.length ++ ((m3.take i).flatMap encOne ++ encOne vt) = bs ++ four m3.length ++ (m3.take i).flatMap encOne ++ four vt.view ++ four vt.value.length ++ vt.value := by simp [encOne]
          rw [e]
          exact hg9
        · have hie : i = m3.length := by omega
          rw [hie, List.take_length, List.append_assoc, ← votesBytes_eq] at hgi
          have HGI := Lib.hid hgi
          clear hgi
          go_wp2
          refine ⟨⟨2, _, by omega, rfl, ?_, HGI.out⟩, by simp [intOf]⟩
          rw [HBS.out]
          simp
    · have hxr : Ext w wr := HG.out.behind (w1 := w1) (Ext.trans HX1.out HX14.out) hg0w
      have hcr := HC.out.ext hxr
      have c15 := hcr.c15
      have c16 := hcr.c16
      have hltr := hcr.lt
      have hbs4 : bs = four c.view ++ votesBytes m2 ++ votesBytes m3 := by rw [HBS.out]; simp
      have HCR := Lib.hid hcr
      have HXR := Lib.hid hxr
      have HB4 := Lib.hid hbs4
      clear hcr hxr hbs4 q0 q1 hqs
      cases hd : c.decided with
      | false =>
        rw [hd] at c15
        have hfin : c.bytes = bs ++ [0] ++ four 0 := by unfold Core.bytes; rw [hd, HB4.out, HM2.out, HM3.out]; simp
        have hbl : bs.length ≤ 1000000 := by have := HLEN.out; rw [HB4.out]; simp [four_len]; omega
        have HFIN := Lib.hid hfin
        have HBL := Lib.hid hbl
        clear hfin hbl
        have hga := HG.out.ext (Ext.al (Ext.refl wr) (Obj.cells #[.int .u8 0] 5))
        have HGA := Lib.hid hga
        have hzs : w.heap.size ≤ (wr.alloc (Obj.cells #[.int .u8 0] 5)).heap.size := by have := HXR.out.size; simp; omega
        have HZS := Lib.hid hzs
        clear hga hzs
        go_wp2_with (first
          | (at_builtin; refine wpList_append_bytes rfl _ _ rfl w.heap.size u3 bs rfl HGA.out.row _ [0] rfl (byte_at (heap_alloc_new wr _)) (by simp; have := HBL.out; omega) HZS.out ?_; intro v8 w8 hr8 hg8 hat8; have hgg := HGA.out.step hr8 hg8 (fun k hk => by rcases hat8 with h | h; exact Or.inl (h ▸ hk); exact Or.inr (by rw [hk] at h; cases h; exact Nat.le_refl _)); have HGG := Lib.hid hgg; clear hgg hr8 hg8 hat8)
          | (go_at_call 48; refine (four_grows HGG.out 0 (by omega) (by simp; have := HLEN.out; rw [HB4.out]; simp [four_len]; omega) (by omega) (by omega)).mono ?_; rintro e w9 ⟨v9, rfl, hg9, _⟩))
        go_ret
        refine ⟨v9, rfl, ?_, hg9.behind (w1 := w1) (Ext.trans HX1.out HX14.out) hg0w⟩
        rw [HFIN.out]
        exact bytes_of_own hg9.row
      | true =>
        rw [hd] at c15
        obtain ⟨AV, KV, hLV, _⟩ := id HCR.out.value
        rw [hLV] at c16
        have hval : BytesAt wr (.slice AV c.value.length KV) c.value := by rw [← hLV]; exact HCR.out.value
        have hfin : c.bytes = bs ++ [1] ++ four c.value.length ++ c.value := by unfold Core.bytes; rw [hd, HB4.out, HM2.out, HM3.out]; simp
        have hbl : bs.length + 5 + c.value.length ≤ 1000000 := by have := HLEN.out; rw [hd] at this; rw [HB4.out]; simp [four_len] at this ⊢; omega
        have HFIN := Lib.hid hfin
        have HBL := Lib.hid hbl
        have HVAL := Lib.hid hval
        have hcbl := hltr
        have HLV := Lib.hid hLV
        have hga : Grows w.heap.size g0 W4 u3 bs (wr.alloc (Obj.cells #[.int .u8 1] 5)).drew := HG.out.ext (Ext.dr (Ext.al (Ext.refl wr) (Obj.cells #[.int .u8 1] 5)))
        have HGA := Lib.hid hga
        have hzs : w.heap.size ≤ (wr.alloc (Obj.cells #[.int .u8 1] 5)).drew.heap.size := by show w.heap.size ≤ (wr.alloc (Obj.cells #[.int .u8 1] 5)).heap.size; have := HXR.out.size; simp; omega
        have HZS := Lib.hid hzs
        have hcx := HCR.out.ext (Ext.al (Ext.refl wr) (Obj.cells #[.int .u8 1] 5))
        have hcb : (wr.alloc (Obj.cells #[.int .u8 1] 5)).drew.heap[cb]? = some (.cells (coreCells c L) 71 (0, 0)) ∧ (wr.alloc (Obj.cells #[.int .u8 1] 5)).drew.cell? ⟨cb, 16, none⟩ = some L.value := ⟨hcx.blk, hcx.c16⟩
        have HCB := Lib.hid hcb
        clear hfin hbl hval hLV hga hzs hcb hcx
        go_wp2
        refine DB.wp_region_T (cb) [] (.pure 0 (.pure 3 (.pure 4 (.pure 5 (.pure 9 (.pure 10 (.pure 11 (.take 6 (.pure 7 (.take 12 (.one 1 (.one 2 (.one 8 (.one 13 (.pure 14 .nil))))))))))))))) (by kernel_rfl) (by kernel_rfl) ?_
        iterate 7 (refine' DB.wpT_pure rfl rfl (fun w' => ?_) ?_; rotate_left 1; (focus ((try go_simp); (try go_bits); (first | done | with_reducible rfl))); simp only [Act.put, List.setIfInBounds_toArray, List.set_cons_zero, List.set_cons_succ])
        first | (refine' DB.wpT_take_dddd rfl rfl (fun w' hc hl hsz => ?_) ?_; rotate_left 1; (focus ((try go_simp); (try go_bits); (first | done | with_reducible rfl))); simp only [Act.put, List.setIfInBounds_toArray, List.set_cons_zero, List.set_cons_succ]) | (refine' DB.wpT_take_ddd rfl rfl (fun w' hc hl hsz => ?_) ?_; rotate_left 1; (focus ((try go_simp); (try go_bits); (first | done | with_reducible rfl))); simp only [Act.put, List.setIfInBounds_toArray, List.set_cons_zero, List.set_cons_succ]) | (refine' DB.wpT_take_dd rfl rfl (fun w' hc hl hsz => ?_) ?_; rotate_left 1; (focus ((try go_simp); (try go_bits); (first | done | with_reducible rfl))); simp only [Act.put, List.setIfInBounds_toArray, List.set_cons_zero, List.set_cons_succ]) | (refine' DB.wpT_take_d rfl rfl (fun w' hc hl hsz => ?_) ?_; rotate_left 1; (focus ((try go_simp); (try go_bits); (first | done | with_reducible rfl))); simp only [Act.put, List.setIfInBounds_toArray, List.set_cons_zero, List.set_cons_succ])
        (refine' DB.wpT_pure rfl rfl (fun w' => ?_) ?_; rotate_left 1; (focus ((try go_simp); (try go_bits); (first | done | with_reducible rfl))); simp only [Act.put, List.setIfInBounds_toArray, List.set_cons_zero, List.set_cons_succ])
        first | (refine' DB.wpT_take_dddd rfl rfl (fun w' hc hl hsz => ?_) ?_; rotate_left 1; (focus ((try go_simp); (try go_bits); (first | done | with_reducible rfl))); simp only [Act.put, List.setIfInBounds_toArray, List.set_cons_zero, List.set_cons_succ]) | (refine' DB.wpT_take_ddd rfl rfl (fun w' hc hl hsz => ?_) ?_; rotate_left 1; (focus ((try go_simp); (try go_bits); (first | done | with_reducible rfl))); simp only [Act.put, List.setIfInBounds_toArray, List.set_cons_zero, List.set_cons_succ]) | (refine' DB.wpT_take_dd rfl rfl (fun w' hc hl hsz => ?_) ?_; rotate_left 1; (focus ((try go_simp); (try go_bits); (first | done | with_reducible rfl))); simp only [Act.put, List.setIfInBounds_toArray, List.set_cons_zero, List.set_cons_succ]) | (refine' DB.wpT_take_d rfl rfl (fun w' hc hl hsz => ?_) ?_; rotate_left 1; (focus ((try go_simp); (try go_bits); (first | done | with_reducible rfl))); simp only [Act.put, List.setIfInBounds_toArray, List.set_cons_zero, List.set_cons_succ])
        refine DB.wpT_one rfl rfl (fun K hK => ?_)
        go_wp2
        refine hK _ _ ⟨Below.heap_alloc _ _ _ hcbl, by simp⟩ ?_
        clear hK K
        refine DB.wpT_one rfl rfl (fun K hK => ?_)
        refine wp_append_bytes _ _ rfl w.heap.size u3 bs rfl HGA.out.row _ [1] rfl (byte_at (heap_alloc_new wr _)) (by simp; have := HBL.out; omega) HZS.out ?_
        intro v8 w8 hr8 hg8 hat8
        have hgg := HGA.out.step hr8 hg8 (fun k hk => by rcases hat8 with h | h; exact Or.inl (h ▸ hk); exact Or.inr (by rw [hk] at h; cases h; exact Nat.le_refl _))
        have hcb8 : w8.heap[cb]? = _ := (hg8.block cb (World.block_lt_of_cell? _ ⟨cb, 16, none⟩ HCB.out.2) (own_ne HGA.out.row HCB.out.1 (by decide))).trans HCB.out.1
        refine hK _ _ ⟨hg8.block cb (World.block_lt_of_cell? _ ⟨cb, 16, none⟩ HCB.out.2) (own_ne HGA.out.row HCB.out.1 (by decide)), hg8.size⟩ ?_
        clear hK K
        refine DB.wpT_one rfl rfl (fun K hK => ?_)
        go_wp2_with (go_at_call 48; refine (four_grows hgg (c.value.length : Int) (by omega) (by have := HBL.out; simp; omega) (by omega) (by have := HBL.out; omega)).mono ?_; rintro e w9 ⟨v9, rfl, hg9, hr9⟩)
        refine hK _ _ ⟨hr9.block cb (Array.getElem?_eq_some_iff.1 hcb8).1 (own_ne hgg.row hcb8 (by decide)), hr9.size⟩ ?_
        clear hK K
        refine DB.wpT_one rfl rfl (fun K hK => ?_)
        have hcb9 : w9.heap[cb]? = _ := (hr9.block cb (Array.getElem?_eq_some_iff.1 hcb8).1 (own_ne hgg.row hcb8 (by decide))).trans hcb8
        have hval9 : BytesAt w9 (.slice AV c.value.length KV) c.value := by rw [← HLV.out]; exact HC.out.value.ext (hg9.behind (w1 := w1) (Ext.trans HX1.out HX14.out) hg0w)
        refine wp_append_bytes _ _ rfl w.heap.size v9 _ rfl hg9.row _ c.value rfl hval9 (by have := HBL.out; simp [four_len]; omega) (by have := hg9.kept.size; omega) ?_
        intro v10 w10 hr10 hg10 hat10
        have hgf := hg9.step hr10 hg10 (fun k hk => by rcases hat10 with h | h; exact Or.inl (h ▸ hk); exact Or.inr (by rw [hk] at h; cases h; exact Nat.le_refl _))
        refine hK _ _ ⟨hg10.block cb (Array.getElem?_eq_some_iff.1 hcb9).1 (own_ne hg9.row hcb9 (by decide)), hg10.size⟩ ?_
        clear hK K
        (refine' DB.wpT_pure rfl rfl (fun w' => ?_) ?_; rotate_left 1; (focus ((try go_simp); (try go_bits); (first | done | with_reducible rfl))); simp only [Act.put, List.setIfInBounds_toArray, List.set_cons_zero, List.set_cons_succ])
        refine DB.wpT_nil ?_
        go_wp2
        go_ret
        refine ⟨v10, rfl, ?_, hgf.behind (w1 := w1) (Ext.trans HX1.out HX14.out) hg0w⟩
        rw [HFIN.out]
        exact bytes_of_own hgf.row
end Go.Proofs.Ytkpllkjionegeaa

/- Walks: the reader of what lasted (take, four), where there is enough. -/
namespace Go.Proofs.Ytkpllkjionegeaa
open Go Go.RowKit

/-- a reader: these bytes are still to come -/
def RdAt (rb : Nat) (l : Bytes) (w : World) : Prop := ∃ v, w.heap[rb]? = some (.cells #[v, .bool false] 74 (0, 0)) ∧ BytesAt w v l

theorem RdAt.lt {rb : Nat} {l : Bytes} {w : World} (h : RdAt rb l w) : rb < w.heap.size := by
  obtain ⟨v, h1, _⟩ := h
  exact (Array.getElem?_eq_some_iff.1 h1).1

theorem take_bytes {w : World} {A : Option Addr} {C n : Nat} {l : Bytes} (hn : n ≤ l.length) (hc : l.length ≤ C) (h : l ≠ [] → ∃ b o, A = some ⟨b, o, none⟩ ∧ ∀ i (h : i < l.length), w.cell? ⟨b, o + i, none⟩ = some (.int .u8 (l[i].toNat : Int))) :
    BytesAt w (.slice A n C) (l.take n) := by
  refine ⟨A, C, by rw [List.length_take, Nat.min_eq_left hn], by rw [List.length_take]; omega, fun hne => ?_⟩
  obtain ⟨b, o, e, hc⟩ := h (fun e => hne (by rw [e]; simp))
  refine ⟨b, o, e, fun i hi => ?_⟩
  have hi' : i < l.length := by rw [List.length_take] at hi; omega
  rw [hc i hi', List.getElem_take]

theorem drop_bytes {w : World} {b o C n : Nat} {l : Bytes} (hn : n ≤ l.length) (hc : l.length ≤ C) (h : ∀ i (h : i < l.length), w.cell? ⟨b, o + i, none⟩ = some (.int .u8 (l[i].toNat : Int))) :
    BytesAt w (.slice (some ⟨b, o + n, none⟩) (l.length - n) (C - n)) (l.drop n) := by
  refine ⟨some ⟨b, o + n, none⟩, C - n, by rw [List.length_drop], by rw [List.length_drop]; omega, fun hne => ⟨b, o + n, rfl, fun i hi => ?_⟩⟩
  have hi' : n + i < l.length := by rw [List.length_drop] at hi; omega
  have := h (n + i) hi'
  rw [List.getElem_drop, Nat.add_assoc]
  exact this


set_option maxRecDepth 100000 in
set_option maxHeartbeats 2000000 in
theorem take_read (rb : Nat) (l : Bytes) (n : Nat) (w : World) (h : RdAt rb l w) (hn : n ≤ l.length) (hl : l.length ≤ 1000000) :
    Calls Try.prog 44 #[.pointer (some ⟨rb, 0, none⟩), .int .i64 n] w (fun e w' => ∃ v, e = .returned v ∧ BytesAt w' v (l.take n) ∧ RdAt rb (l.drop n) w' ∧ Turn (· = rb) w w') := by
  obtain ⟨v, hb, A, C, rfl, hc1, hc2⟩ := h
  cases A with
  | none =>
    have c0 : w.cell? ⟨rb, 0, none⟩ = some (.slice none l.length C) := by simp [World.cell?, hb]
    have hlt : rb < w.heap.size := (Array.getElem?_eq_some_iff.1 hb).1
    have htk := take_bytes hn hc1 hc2
    have hlong : decide ((l.length : Int) < (n : Int)) = false := by simp; omega
    have HB := Lib.hid hb
    have HC2 := Lib.hid hc2
    have HTK := Lib.hid htk
    have HTL : Hid ((l.take n).length ≤ 1000000) := Lib.hid (by rw [List.length_take]; omega)
    clear hb hc2 htk
    go_enter Try.func44, Try.ntmps44
    go_wp2_with (go_at_call 41; refine (clone_calls _ (l.take n) _ HTK.out HTL.out).mono ?_; rintro e w1 ⟨v1, rfl, hb1, hx1⟩; have hbl1 := (hx1.block rb hlt).trans HB.out; have d0 : w1.cell? ⟨rb, 0, none⟩ = some (.slice none l.length C) := (by simp [World.cell?, hbl1]); have f0 : w1.frozen? ⟨rb, 0, none⟩ = false := (by simp [World.frozen?, hbl1]); have hlt1 := Nat.lt_of_lt_of_le hlt hx1.size; have HB1 := Lib.hid hbl1; have HX1 := Lib.hid hx1; have HV1 := Lib.hid hb1; clear hbl1 hx1 hb1)
    go_ret
    have hnil : l = [] := by
      cases l with
      | nil => rfl
      | cons x r => obtain ⟨b, o, e, _⟩ := HC2.out (by simp); cases e
    subst hnil
    have ht := HX1.out
    have k1 := cells_store HB1.out (.slice none (([] : Bytes).length - n) (C - n)) (i := 0) (u := .slice none ([] : Bytes).length C) rfl (by intro x h; cases h)
    refine ⟨v1, rfl, HV1.out.turn k1.2, ⟨_, k1.1, ?_⟩, (Turn.of_ext HX1.out).trans k1.2 (fun _ _ h => h)⟩
    exact ⟨none, C - n, by simp, by simp, fun h => absurd (by simp) h⟩
  | some p =>
    by_cases hnil : l = []
    · have HNIL := Lib.hid hnil
      clear hnil
      by_cases hcn : C = n
      · obtain rfl : n = C := hcn.symm
        have c0 : w.cell? ⟨rb, 0, none⟩ = some (.slice (some p) l.length n) := by simp [World.cell?, hb]
        have hlt : rb < w.heap.size := (Array.getElem?_eq_some_iff.1 hb).1
        have htk := take_bytes hn hc1 hc2
        have hlong : decide ((l.length : Int) < (n : Int)) = false := by simp; omega
        have HB := Lib.hid hb
        have HC2 := Lib.hid hc2
        have HTK := Lib.hid htk
        have HTL : Hid ((l.take n).length ≤ 1000000) := Lib.hid (by rw [List.length_take]; omega)
        clear hb hc2 htk
        go_enter Try.func44, Try.ntmps44
        go_wp2_with (go_at_call 41; refine (clone_calls _ (l.take n) _ HTK.out HTL.out).mono ?_; rintro e w1 ⟨v1, rfl, hb1, hx1⟩; have hbl1 := (hx1.block rb hlt).trans HB.out; have d0 : w1.cell? ⟨rb, 0, none⟩ = some (.slice (some p) l.length n) := (by simp [World.cell?, hbl1]); have f0 : w1.frozen? ⟨rb, 0, none⟩ = false := (by simp [World.frozen?, hbl1]); have hlt1 := Nat.lt_of_lt_of_le hlt hx1.size; have HB1 := Lib.hid hbl1; have HX1 := Lib.hid hx1; have HV1 := Lib.hid hb1; clear hbl1 hx1 hb1)
        go_ret
        have hd0 : l.drop n = [] := List.drop_eq_nil_of_le hc1
        have k1 := cells_store HB1.out (.slice (some p) 0 0) (i := 0) (u := .slice (some p) l.length n) rfl (by intro x h; cases h)
        refine ⟨v1, rfl, HV1.out.turn k1.2, ⟨_, k1.1, ?_⟩, (Turn.of_ext HX1.out).trans k1.2 (fun _ _ h => h)⟩
        rw [hd0]
        exact ⟨(some p), 0, rfl, Nat.le_refl _, fun h => absurd rfl h⟩
      · have c0 : w.cell? ⟨rb, 0, none⟩ = some (.slice (some p) l.length C) := by simp [World.cell?, hb]
        have hlt : rb < w.heap.size := (Array.getElem?_eq_some_iff.1 hb).1
        have htk := take_bytes hn hc1 hc2
        have hlong : decide ((l.length : Int) < (n : Int)) = false := by simp; omega
        have HB := Lib.hid hb
        have HC2 := Lib.hid hc2
        have HTK := Lib.hid htk
        have HTL : Hid ((l.take n).length ≤ 1000000) := Lib.hid (by rw [List.length_take]; omega)
        clear hb hc2 htk
        go_enter Try.func44, Try.ntmps44
        go_wp2_with (go_at_call 41; refine (clone_calls _ (l.take n) _ HTK.out HTL.out).mono ?_; rintro e w1 ⟨v1, rfl, hb1, hx1⟩; have hbl1 := (hx1.block rb hlt).trans HB.out; have d0 : w1.cell? ⟨rb, 0, none⟩ = some (.slice (some p) l.length C) := (by simp [World.cell?, hbl1]); have f0 : w1.frozen? ⟨rb, 0, none⟩ = false := (by simp [World.frozen?, hbl1]); have hlt1 := Nat.lt_of_lt_of_le hlt hx1.size; have HB1 := Lib.hid hbl1; have HX1 := Lib.hid hx1; have HV1 := Lib.hid hb1; clear hbl1 hx1 hb1)
        go_wp2
        go_ret
        have k1 := cells_store HB1.out (.slice (some (p.add n)) (l.length - n) (C - n)) (i := 0) (u := .slice (some p) l.length C) rfl (by intro x h; cases h)
        refine ⟨v1, rfl, HV1.out.turn k1.2, ⟨_, k1.1, ?_⟩, (Turn.of_ext HX1.out).trans k1.2 (fun _ _ h => h)⟩
        exact ⟨some (p.add n), C - n, by rw [List.length_drop], by rw [HNIL.out]; simp, fun h => absurd (by rw [HNIL.out]; simp) h⟩
    · obtain ⟨b, o, e, hcc⟩ := hc2 hnil
      cases e
      by_cases hcn : C = n
      · have hcn2 : n = l.length := by omega
        obtain rfl : n = C := hcn.symm
        have HCN := Lib.hid hcn2
        clear hcn2
        have c0 : w.cell? ⟨rb, 0, none⟩ = some (.slice (some ⟨b, o, none⟩) l.length n) := by simp [World.cell?, hb]
        have hlt : rb < w.heap.size := (Array.getElem?_eq_some_iff.1 hb).1
        have htk := take_bytes hn hc1 hc2
        have hlong : decide ((l.length : Int) < (n : Int)) = false := by simp; omega
        have HB := Lib.hid hb
        have HC2 := Lib.hid hc2
        have HTK := Lib.hid htk
        have HTL : Hid ((l.take n).length ≤ 1000000) := Lib.hid (by rw [List.length_take]; omega)
        clear hb hc2 htk
        go_enter Try.func44, Try.ntmps44
        go_wp2_with (go_at_call 41; refine (clone_calls _ (l.take n) _ HTK.out HTL.out).mono ?_; rintro e w1 ⟨v1, rfl, hb1, hx1⟩; have hbl1 := (hx1.block rb hlt).trans HB.out; have d0 : w1.cell? ⟨rb, 0, none⟩ = some (.slice (some ⟨b, o, none⟩) l.length n) := (by simp [World.cell?, hbl1]); have f0 : w1.frozen? ⟨rb, 0, none⟩ = false := (by simp [World.frozen?, hbl1]); have hlt1 := Nat.lt_of_lt_of_le hlt hx1.size; have HB1 := Lib.hid hbl1; have HX1 := Lib.hid hx1; have HV1 := Lib.hid hb1; clear hbl1 hx1 hb1)
        go_ret
        have hd0 : l.drop n = [] := List.drop_eq_nil_of_le hc1
        have k1 := cells_store HB1.out (.slice (some ⟨b, o, none⟩) 0 0) (i := 0) (u := .slice (some ⟨b, o, none⟩) l.length n) rfl (by intro x h; cases h)
        refine ⟨v1, rfl, HV1.out.turn k1.2, ⟨_, k1.1, ?_⟩, (Turn.of_ext HX1.out).trans k1.2 (fun _ _ h => h)⟩
        rw [hd0]
        exact ⟨(some ⟨b, o, none⟩), 0, rfl, Nat.le_refl _, fun h => absurd rfl h⟩
      · have c0 : w.cell? ⟨rb, 0, none⟩ = some (.slice (some ⟨b, o, none⟩) l.length C) := by simp [World.cell?, hb]
        have hlt : rb < w.heap.size := (Array.getElem?_eq_some_iff.1 hb).1
        have htk := take_bytes hn hc1 hc2
        have hlong : decide ((l.length : Int) < (n : Int)) = false := by simp; omega
        have HB := Lib.hid hb
        have HC2 := Lib.hid hc2
        have HTK := Lib.hid htk
        have HTL : Hid ((l.take n).length ≤ 1000000) := Lib.hid (by rw [List.length_take]; omega)
        clear hb hc2 htk
        go_enter Try.func44, Try.ntmps44
        go_wp2_with (go_at_call 41; refine (clone_calls _ (l.take n) _ HTK.out HTL.out).mono ?_; rintro e w1 ⟨v1, rfl, hb1, hx1⟩; have hbl1 := (hx1.block rb hlt).trans HB.out; have d0 : w1.cell? ⟨rb, 0, none⟩ = some (.slice (some ⟨b, o, none⟩) l.length C) := (by simp [World.cell?, hbl1]); have f0 : w1.frozen? ⟨rb, 0, none⟩ = false := (by simp [World.frozen?, hbl1]); have hlt1 := Nat.lt_of_lt_of_le hlt hx1.size; have HB1 := Lib.hid hbl1; have HX1 := Lib.hid hx1; have HV1 := Lib.hid hb1; clear hbl1 hx1 hb1)
        go_ret
        have ht := HX1.out
        have k1 := cells_store HB1.out (.slice (some ⟨b, o + n, none⟩) (l.length - n) (C - n)) (i := 0) (u := .slice (some ⟨b, o, none⟩) l.length C) rfl (by intro x h; cases h)
        refine ⟨v1, rfl, HV1.out.turn k1.2, ⟨_, k1.1, ?_⟩, (Turn.of_ext HX1.out).trans k1.2 (fun _ _ h => h)⟩
        have hb0 := (drop_bytes hn hc1 hcc).ext HX1.out
        exact hb0.turn k1.2
end Go.Proofs.Ytkpllkjionegeaa

/- Walks: four bytes as a number. -/
namespace Go.Proofs.Ytkpllkjionegeaa
open Go Go.RowKit

/-- bytes as a number -/
def numOf (l : Bytes) : Int := l.foldl (fun n b => n * 256 + (b.toNat : Int)) 0

theorem numOf_snoc (l : Bytes) (x : UInt8) : numOf (l ++ [x]) = numOf l * 256 + (x.toNat : Int) := by simp [numOf]

theorem numOf_bound : ∀ (k : Nat) (l : Bytes), l.length = k → 0 ≤ numOf l ∧ numOf l < (256 : Int) ^ k
  | 0, l, h => by
    have : l = [] := List.eq_nil_of_length_eq_zero h
    subst this; simp [numOf]
  | k + 1, l, h => by
    have hne : l ≠ [] := by intro e; rw [e] at h; simp at h
    have e : l = l.dropLast ++ [l.getLast hne] := (List.dropLast_concat_getLast hne).symm
    have ih := numOf_bound k l.dropLast (by rw [List.length_dropLast]; omega)
    have hx := (l.getLast hne).toNat_lt
    rw [e, numOf_snoc, Int.pow_succ]
    omega

theorem i64_or_byte (a b : Nat) (ha : a < 16777216) (hb : b < 256) : bits .or .i64 ((a : Int) * 256) (b : Int) = (a : Int) * 256 + (b : Int) := by
  have e : ((a : Int) * 256) = ((a * 256 : Nat) : Int) := by omega
  rw [e]
  show IntKind.i64.wrap ((BitVec.ofInt 64 ((a * 256 : Nat) : Int) ||| BitVec.ofInt 64 (b : Int)).toNat : Int) = _
  have h1 : (BitVec.ofInt 64 ((a * 256 : Nat) : Int)).toNat = a * 256 := by rw [BitVec.ofInt_natCast, BitVec.toNat_ofNat]; exact Nat.mod_eq_of_lt (by omega)
  have h2 : (BitVec.ofInt 64 (b : Int)).toNat = b := by rw [BitVec.ofInt_natCast, BitVec.toNat_ofNat]; exact Nat.mod_eq_of_lt (by omega)
  have h3 : a * 256 ||| b = a * 256 + b := by
    have := Nat.two_pow_add_eq_or_of_lt (i := 8) (b := b) (by omega) a
    rw [Nat.mul_comm a 256]; exact this.symm
  rw [BitVec.toNat_or, h1, h2, h3]
  simp [IntKind.wrap, IntKind.bits, IntKind.signed]
  split <;> omega

set_option maxRecDepth 100000 in
set_option maxHeartbeats 2000000 in
theorem four_read (rb : Nat) (l : Bytes) (w : World) (h : RdAt rb l w) (hn : 4 ≤ l.length) (hl : l.length ≤ 1000000) :
    Calls Try.prog 42 #[.pointer (some ⟨rb, 0, none⟩)] w (fun e w' => e = .returned (.int .i64 (numOf (l.take 4))) ∧ RdAt rb (l.drop 4) w' ∧ Turn (· = rb) w w') := by
  obtain ⟨l4, hl4⟩ : ∃ l4, l4 = l.take 4 := ⟨_, rfl⟩
  have hl44 : l4.length = 4 := by rw [hl4, List.length_take]; omega
  have HL4 := Lib.hid hl4
  have HH := Lib.hid h
  rw [← hl4]
  clear h hl4
  go_enter Try.func42, Try.ntmps42
  go_wp2_with (go_at_call 44; refine (take_read rb l 4 _ HH.out hn hl).mono ?_; rw [← HL4.out]; rintro e w1 ⟨v1, rfl, hb1, hr1, ht1⟩; obtain ⟨A1, C1, rfl, hcc, hcb⟩ := hb1; have HR1 := Lib.hid hr1; have HT1 := Lib.hid ht1; have HCB := Lib.hid hcb; clear hr1 ht1 hcb)
  go_loopw [9, 3] (fun v vn wr => ∃ k : Nat, k ≤ 4 ∧ v = .int .i64 k ∧ vn = .int .i64 (numOf (l4.take k)) ∧ wr = w1) (fun v _ _ => 4 - (intOf v).toNat)
  case atStart => exact ⟨0, by omega, rfl, rfl, rfl⟩
  case round =>
    obtain ⟨k, hk, rfl, rfl, rfl⟩ := hrel
    by_cases hlt : k < 4
    · obtain ⟨b, o, rfl, hcell⟩ := HCB.out (by intro e; rw [e] at hl44; simp at hl44)
      have hck := hcell k (by omega)
      obtain ⟨x, hx⟩ : ∃ x, x = l4[k]'(by omega) := ⟨_, rfl⟩
      obtain ⟨n, hnn⟩ : ∃ n, n = numOf (l4.take k) := ⟨_, rfl⟩
      rw [← hx] at hck
      rw [← hnn]
      have HX := Lib.hid hx
      have HN := Lib.hid hnn
      have hn0 : 0 ≤ n ∧ n < 16777216 := by
        have := numOf_bound k (l4.take k) (by rw [List.length_take]; omega)
        rw [← hnn] at this
        have h4 : k = 0 ∨ k = 1 ∨ k = 2 ∨ k = 3 := by omega
        rcases h4 with rfl | rfl | rfl | rfl <;> simp at this <;> omega
      have hx1 := x.toNat_lt
      clear hx hnn hcell
      go_wp2
      refine ⟨⟨k + 1, by omega, by go_num, ?_, trivial⟩, by simp [intOf]; omega⟩
      obtain ⟨nn, rfl⟩ := Int.eq_ofNat_of_zero_le hn0.1
      rw [i64_or_byte nn x.toNat (by omega) (by omega), List.take_add_one, List.getElem?_eq_getElem (show k < l4.length by omega), Option.toList_some, numOf_snoc, ← HN.out, ← HX.out]
    · have : k = 4 := by omega
      subst this
      go_wp2
      go_ret
      refine ⟨?_, HR1.out, HT1.out⟩
      rw [← hl44, List.take_length]
      rfl
end Go.Proofs.Ytkpllkjionegeaa
