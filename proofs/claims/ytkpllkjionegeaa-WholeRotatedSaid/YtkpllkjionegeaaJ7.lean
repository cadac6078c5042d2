/- Walks: a core that begins anew, two cores alike. -/
import Derived.Test.YtkpllkjionegeaaJ6
import Derived.Test.YtkpllkjionegeaaJ1
import Derived.ChangeKeysEq
set_option linter.unusedVariables false
set_option linter.unusedSimpArgs false
/- Walks: a new core (New). -/
namespace Go.Proofs.Ytkpllkjionegeaa
open Go Go.RowKit

theorem eql_func_nil (k : FuncId) (caps : Array Value) (w : World) : (binOp .eql 32 (.func (.func k) #[] caps) .nilFunc).run Try.prog w = .ok (.bool false) w := by kernel_rfl

attribute [local go_sem] eql_func_nil

set_option maxRecDepth 100000 in
set_option maxHeartbeats 2000000 in
theorem new_calls (n me slot : Int) (k : FuncId) (caps : Array Value) (w : World) (hok : Core.newOk n me slot = true) :
    Calls Try.prog 11 #[.int .i64 n, .int .i64 me, .int .i64 slot, .func (.func k) #[] caps] w
      (fun e w' => ∃ cb L, e = .returned (.pointer (some ⟨cb, 0, none⟩)) ∧ w.heap.size ≤ cb ∧ (∀ b ∈ L.maps, w.heap.size ≤ b) ∧ L.acc = .func (.func k) #[] caps ∧ CoreAt w' cb (Core.make n me slot) L ∧ Ext w w') := by
  have hb := hok
  unfold Core.newOk at hb
  simp only [decide_eq_true_eq] at hb
  obtain ⟨h1, h2, h3, h4, h5, h6⟩ := hb
  have t1 : decide (n < 4) = false := by simp; omega
  have t2 : decide (64 < n) = false := by simp; omega
  have t3 : decide (me < 1) = false := by simp; omega
  have t4 : decide (n < me) = false := by simp; omega
  have t5 : decide (slot < 0) = false := by simp; omega
  have t6 : decide (256 < slot) = false := by simp; omega
  have HOK := Lib.hid hok
  clear hok h1 h2 h3 h4 h5 h6
  have hmk := @run_makeMap Try.prog
  go_enter Try.func11, Try.ntmps11
  go_wp2
  go_ret
  obtain ⟨W1, h1⟩ : ∃ W1, W1 = w.alloc (Obj.map #[] 0) := ⟨_, rfl⟩
  obtain ⟨W2, h2⟩ : ∃ W2, W2 = W1.alloc (Obj.map #[] 0) := ⟨_, rfl⟩
  obtain ⟨W3, h3⟩ : ∃ W3, W3 = W2.alloc (Obj.map #[] 0) := ⟨_, rfl⟩
  obtain ⟨W4, h4⟩ : ∃ W4, W4 = W3.alloc (Obj.map #[] 0) := ⟨_, rfl⟩
  obtain ⟨W5, h5⟩ : ∃ W5, W5 = W4.alloc (Obj.map #[] 0) := ⟨_, rfl⟩
  obtain ⟨W6, h6⟩ : ∃ W6, W6 = W5.alloc (Obj.map #[] 0) := ⟨_, rfl⟩
  have s1 : W1.heap.size = w.heap.size + 1 := by rw [h1]; simp
  have s2 : W2.heap.size = w.heap.size + 1 + 1 := by rw [h2]; simp [s1]
  have s3 : W3.heap.size = w.heap.size + 1 + 1 + 1 := by rw [h3]; simp [s2]
  have s4 : W4.heap.size = w.heap.size + 1 + 1 + 1 + 1 := by rw [h4]; simp [s3]
  have s5 : W5.heap.size = w.heap.size + 1 + 1 + 1 + 1 + 1 := by rw [h5]; simp [s4]
  have s6 : W6.heap.size = w.heap.size + 1 + 1 + 1 + 1 + 1 + 1 := by rw [h6]; simp [s5]
  have x1 : Ext w W1 := by rw [h1]; exact Ext.al (Ext.refl _) _
  have x2 : Ext W1 W2 := by rw [h2]; exact Ext.al (Ext.refl _) _
  have x3 : Ext W2 W3 := by rw [h3]; exact Ext.al (Ext.refl _) _
  have x4 : Ext W3 W4 := by rw [h4]; exact Ext.al (Ext.refl _) _
  have x5 : Ext W4 W5 := by rw [h5]; exact Ext.al (Ext.refl _) _
  have x6 : Ext W5 W6 := by rw [h6]; exact Ext.al (Ext.refl _) _
  have m1 : MapAt W1 w.heap.size [] := by rw [h1]; exact MapAt.made w
  have m2 : MapAt W2 (w.heap.size + 1) [] := by rw [h2, ← s1]; exact MapAt.made W1
  have m3 : MapAt W3 (w.heap.size + 1 + 1) [] := by rw [h3, ← s2]; exact MapAt.made W2
  have m4 : MapAt W4 (w.heap.size + 1 + 1 + 1) [] := by rw [h4, ← s3]; exact MapAt.made W3
  have m5 : MapAt W5 (w.heap.size + 1 + 1 + 1 + 1) [] := by rw [h5, ← s4]; exact MapAt.made W4
  have m6 : MapAt W6 (w.heap.size + 1 + 1 + 1 + 1 + 1) [] := by rw [h6, ← s5]; exact MapAt.made W5
  rw [← h1, ← h2, ← h3, ← h4, ← h5, ← h6]
  obtain ⟨cells, hcells⟩ : ∃ cells : Array Value, cells = #[Value.int IntKind.i64 n, Value.int IntKind.i64 me, Value.int IntKind.i64 slot,
          Value.func (Fn.func k) #[] caps, Value.int IntKind.i64 0, Value.slice none 0 0, Value.bool false,
          Value.map (some w.heap.size), Value.map (some (w.heap.size + 1)), Value.map (some (w.heap.size + 1 + 1)),
          Value.map (some (w.heap.size + 1 + 1 + 1)), Value.map (some (w.heap.size + 1 + 1 + 1 + 1)),
          Value.map (some (w.heap.size + 1 + 1 + 1 + 1 + 1)), Value.int IntKind.i64 (-1), Value.slice none 0 0,
          Value.bool false, Value.slice none 0 0] := ⟨_, rfl⟩
  rw [← hcells]
  have x7 : Ext W6 (W6.alloc (.cells cells 71)) := Ext.al (Ext.refl _) _
  have hblk := heap_alloc_new W6 (.cells cells 71)
  obtain ⟨W7, h7⟩ : ∃ W7, W7 = W6.alloc (.cells cells 71) := ⟨_, rfl⟩
  rw [← h7] at x7 hblk ⊢
  have k1 := m1.kept ((Ext.trans x2 (Ext.trans x3 (Ext.trans x4 (Ext.trans x5 (Ext.trans x6 x7))))).block _ m1.lt)
  have k2 := m2.kept ((Ext.trans x3 (Ext.trans x4 (Ext.trans x5 (Ext.trans x6 x7)))).block _ m2.lt)
  have k3 := m3.kept ((Ext.trans x4 (Ext.trans x5 (Ext.trans x6 x7))).block _ m3.lt)
  have k4 := m4.kept ((Ext.trans x5 (Ext.trans x6 x7)).block _ m4.lt)
  have k5 := m5.kept ((Ext.trans x6 x7).block _ m5.lt)
  have k6 := m6.kept (x7.block _ m6.lt)
  have tmap : ∀ r, MapAt W7 r [] → TMapAt W7 r [] [] := fun r h => ⟨h, AL.rising_nil, AL.rising_nil, ARel.empty⟩
  refine ⟨w.heap.size + 1 + 1 + 1 + 1 + 1 + 1, ⟨.func (.func k) #[] caps, .slice none 0 0, .slice none 0 0, .slice none 0 0, w.heap.size, w.heap.size + 1, w.heap.size + 1 + 1, w.heap.size + 1 + 1 + 1, w.heap.size + 1 + 1 + 1 + 1, w.heap.size + 1 + 1 + 1 + 1 + 1, [], [], []⟩, rfl, by omega, ?_, rfl, ?_, Ext.trans x1 (Ext.trans x2 (Ext.trans x3 (Ext.trans x4 (Ext.trans x5 (Ext.trans x6 x7)))))⟩
  · intro b hb
    simp [Lay.maps, AL.vals] at hb
    omega
  · refine ⟨?_, BytesAt.nil _, BytesAt.nil _, BytesAt.nil _, ⟨[], k1, AL.rising_nil, ARel.empty⟩, tmap _ k2, tmap _ k3, tmap _ k4, ⟨k5, AL.rising_nil⟩, ⟨[], k6, AL.rising_nil, ARel.empty⟩, ?_, fun x h => by cases h⟩
    · rw [← s6, hblk, hcells]; rfl
    · simp [Lay.maps, AL.vals]
      omega
end Go.Proofs.Ytkpllkjionegeaa

/- Walks: welcome; a vote as it is (voteAs). -/
namespace Go.Proofs.Ytkpllkjionegeaa
open Go Go.RowKit

/-- the values that are accepted: they do not begin with '!' -/
def welcomed (l : Bytes) : Bool := match l with | [] => true | x :: _ => x != 33

set_option maxRecDepth 100000 in
theorem welcome_calls (v : Value) (l : Bytes) (w : World) (hv : BytesAt w v l) (hl : l.length ≤ 1000000) :
    Calls Try.prog 12 #[v] w (fun e w' => e = .returned (.bool (welcomed l)) ∧ Ext w w') := by
  obtain ⟨A, C, rfl, hc1, hc2⟩ := hv
  cases l with
  | nil =>
    clear hc2
    go_enter Try.func12, Try.ntmps12
    go_wp2
    go_ret
    exact ⟨rfl, Ext.refl w⟩
  | cons x r =>
    obtain ⟨b, o, rfl, hc⟩ := hc2 (by simp)
    have h0 : w.cell? ⟨b, o, none⟩ = some (.int .u8 (x.toNat : Int)) := hc 0 (by simp)
    have hne : (((x.toNat : Int)) != 33) = (x != 33) := by
      rw [Bool.eq_iff_iff]
      simp only [bne_iff_ne, ne_eq]
      constructor
      · intro h e; subst e; exact h rfl
      · intro h e
        apply h
        have : x.toNat = 33 := by omega
        exact UInt8.toNat_inj.1 this
    have hz : ((((x :: r).length : Nat) : Int) == 0) = false := by simp; omega
    have HNE := Lib.hid hne
    clear hc hc2 hne
    go_enter Try.func12, Try.ntmps12
    go_wp2
    go_ret
    refine ⟨?_, Ext.refl w⟩
    show Ending.returned (.bool ((x.toNat : Int) != 33)) = _
    rw [HNE.out]; rfl

theorem welcome_acc (w : World) : AccAt w (.func (.func 12) #[] #[]) welcomed [] 12 #[] :=
  ⟨rfl, fun b hb => by simp at hb, enters_of Try.func12 (by kernel_rfl) rfl, fun w' _ _ v l hb hl => by
    have := welcome_calls v l w' hb (by omega)
    simpa using this⟩
end Go.Proofs.Ytkpllkjionegeaa

/- Walks: are two votes the same (Same). -/
namespace Go.Proofs.Ytkpllkjionegeaa
open Go Go.RowKit

def sameVote (a b : Vote) : Bool := a.kind == b.kind && a.frm == b.frm && a.slot == b.slot && a.view == b.view && a.valid == b.valid && a.value == b.value

theorem sameVote_iff (a b : Vote) : sameVote a b = true ↔ a = b := by
  cases a; cases b
  simp [sameVote, and_assoc]


set_option maxRecDepth 100000 in
set_option maxHeartbeats 2000000 in
theorem same_calls (a b : Vote) (A A' : Option Addr) (C C' : Nat) (w : World) (ha : BytesAt w (.slice A a.value.length C) a.value) (hb : BytesAt w (.slice A' b.value.length C') b.value) :
    Calls Try.prog 38 #[.agg (voteCells a (.slice A a.value.length C)), .agg (voteCells b (.slice A' b.value.length C'))] w (GivesBool (sameVote a b) w) := by
  cases h0 : (a.kind == b.kind) with
  | false =>
    have HF := Lib.hid (show sameVote a b = false by simp [sameVote, h0])
    have hx1 : Ext w (w.alloc (.cells (voteCells a (.slice A a.value.length C)) 28)) := Ext.al (Ext.refl w) _
    have hx2 := Ext.al hx1 (.cells (voteCells b (.slice A' b.value.length C')) 28)
    have HA := Lib.hid (ha.ext hx2)
    have HB := Lib.hid (hb.ext hx2)
    have HX := Lib.hid hx2
    clear ha hb hx1 hx2
    unfold voteCells at *
    go_enter Try.func38, Try.ntmps38
    go_wp2
    go_ret
    exact ⟨by rw [HF.out]; rfl, HX.out⟩
  | true =>
    cases h1 : (a.frm == b.frm) with
    | false =>
      have HF := Lib.hid (show sameVote a b = false by simp [sameVote, h0, h1])
      have hx1 : Ext w (w.alloc (.cells (voteCells a (.slice A a.value.length C)) 28)) := Ext.al (Ext.refl w) _
      have hx2 := Ext.al hx1 (.cells (voteCells b (.slice A' b.value.length C')) 28)
      have HA := Lib.hid (ha.ext hx2)
      have HB := Lib.hid (hb.ext hx2)
      have HX := Lib.hid hx2
      clear ha hb hx1 hx2
      unfold voteCells at *
      go_enter Try.func38, Try.ntmps38
      go_wp2
      go_ret
      exact ⟨by rw [HF.out]; rfl, HX.out⟩
    | true =>
      cases h2 : (a.slot == b.slot) with
      | false =>
        have HF := Lib.hid (show sameVote a b = false by simp [sameVote, h0, h1, h2])
        have hx1 : Ext w (w.alloc (.cells (voteCells a (.slice A a.value.length C)) 28)) := Ext.al (Ext.refl w) _
        have hx2 := Ext.al hx1 (.cells (voteCells b (.slice A' b.value.length C')) 28)
        have HA := Lib.hid (ha.ext hx2)
        have HB := Lib.hid (hb.ext hx2)
        have HX := Lib.hid hx2
        clear ha hb hx1 hx2
        unfold voteCells at *
        go_enter Try.func38, Try.ntmps38
        go_wp2
        go_ret
        exact ⟨by rw [HF.out]; rfl, HX.out⟩
      | true =>
        cases h3 : (a.view == b.view) with
        | false =>
          have HF := Lib.hid (show sameVote a b = false by simp [sameVote, h0, h1, h2, h3])
          have hx1 : Ext w (w.alloc (.cells (voteCells a (.slice A a.value.length C)) 28)) := Ext.al (Ext.refl w) _
          have hx2 := Ext.al hx1 (.cells (voteCells b (.slice A' b.value.length C')) 28)
          have HA := Lib.hid (ha.ext hx2)
          have HB := Lib.hid (hb.ext hx2)
          have HX := Lib.hid hx2
          clear ha hb hx1 hx2
          unfold voteCells at *
          go_enter Try.func38, Try.ntmps38
          go_wp2
          go_ret
          exact ⟨by rw [HF.out]; rfl, HX.out⟩
        | true =>
          cases h4 : (a.valid == b.valid) with
          | false =>
            have HF := Lib.hid (show sameVote a b = false by simp [sameVote, h0, h1, h2, h3, h4])
            have hx1 : Ext w (w.alloc (.cells (voteCells a (.slice A a.value.length C)) 28)) := Ext.al (Ext.refl w) _
            have hx2 := Ext.al hx1 (.cells (voteCells b (.slice A' b.value.length C')) 28)
            have HA := Lib.hid (ha.ext hx2)
            have HB := Lib.hid (hb.ext hx2)
            have HX := Lib.hid hx2
            clear ha hb hx1 hx2
            unfold voteCells at *
            go_enter Try.func38, Try.ntmps38
            go_wp2
            go_ret
            exact ⟨by rw [HF.out]; rfl, HX.out⟩
          | true =>
            have HF := Lib.hid (show sameVote a b = (a.value == b.value) by simp [sameVote, h0, h1, h2, h3, h4])
            have hx1 : Ext w (w.alloc (.cells (voteCells a (.slice A a.value.length C)) 28)) := Ext.al (Ext.refl w) _
            have hx2 := Ext.al hx1 (.cells (voteCells b (.slice A' b.value.length C')) 28)
            have HA := Lib.hid (ha.ext hx2)
            have HB := Lib.hid (hb.ext hx2)
            have HX := Lib.hid hx2
            clear ha hb hx1 hx2
            unfold voteCells at *
            go_enter Try.func38, Try.ntmps38
            go_wp2_with (go_at_call 47; refine (equal_calls _ _ a.value b.value _ HA.out HB.out).mono ?_; rintro e w7 ⟨rfl, rfl⟩)
            go_ret
            exact ⟨by rw [HF.out]; rfl, HX.out⟩
end Go.Proofs.Ytkpllkjionegeaa

/- Walks: a vote as it is (voteAs). -/
namespace Go.Proofs.Ytkpllkjionegeaa
open Go Go.RowKit

set_option maxRecDepth 100000 in
set_option maxHeartbeats 800000 in
theorem voteAs_calls (v : Vote) (A : Option Addr) (n C : Nat) (w : World) :
    Calls Try.prog 19 #[.agg (voteCells v (.slice A n C))] w (fun e w' => e = .returned (.agg (voteCells v (.slice A n C))) ∧ Ext w w') := by
  unfold voteCells
  go_enter Try.func19, Try.ntmps19
  go_wp2
  have hx : Ext w ((w.alloc (Obj.cells #[.int .i64 v.kind, .int .i64 v.frm, .int .i64 v.slot, .int .i64 v.view, .int .i64 v.valid, .slice A n C] 28)).alloc (Obj.cells #[.int .i64 v.kind, .int .i64 v.frm, .int .i64 v.slot, .int .i64 v.view, .int .i64 v.valid, .slice A n C] 28)) := Ext.al (Ext.al (Ext.refl w) _) _
  have hb := boxed (w.alloc (Obj.cells #[.int .i64 v.kind, .int .i64 v.frm, .int .i64 v.slot, .int .i64 v.view, .int .i64 v.valid, .slice A n C] 28)) #[.int .i64 v.kind, .int .i64 v.frm, .int .i64 v.slot, .int .i64 v.view, .int .i64 v.valid, .slice A n C] 28
  obtain ⟨W, hW⟩ : ∃ W, W = (w.alloc (Obj.cells #[.int .i64 v.kind, .int .i64 v.frm, .int .i64 v.slot, .int .i64 v.view, .int .i64 v.valid, .slice A n C] 28)).alloc (Obj.cells #[.int .i64 v.kind, .int .i64 v.frm, .int .i64 v.slot, .int .i64 v.view, .int .i64 v.valid, .slice A n C] 28) := ⟨_, rfl⟩
  rw [← hW] at hx hb ⊢
  obtain ⟨_, hc, _⟩ := hb
  simp only [World.size_alloc] at hc
  have g0 : W.cell? ⟨w.heap.size + 1, 0, none⟩ = some (.int .i64 v.kind) := hc 0
  have g1 : W.cell? ⟨w.heap.size + 1, 1, none⟩ = some (.int .i64 v.frm) := hc 1
  have g2 : W.cell? ⟨w.heap.size + 1, 2, none⟩ = some (.int .i64 v.slot) := hc 2
  have g3 : W.cell? ⟨w.heap.size + 1, 3, none⟩ = some (.int .i64 v.view) := hc 3
  have g4 : W.cell? ⟨w.heap.size + 1, 4, none⟩ = some (.int .i64 v.valid) := hc 4
  have g5 : W.cell? ⟨w.heap.size + 1, 5, none⟩ = some (.slice A n C) := hc 5
  clear hW hc
  refine bodyPost_ret (v := .agg #[.int .i64 v.kind, .int .i64 v.frm, .int .i64 v.slot, .int .i64 v.view, .int .i64 v.valid, .slice A n C]) ?_ rfl ⟨rfl, hx⟩
  simp [results, Try.f19, go_sem, g0, g1, g2, g3, g4, g5]

/-- the value asV is a function that tells a vote otherwise; C: the blocks that it looks at -/
structure AsAt (w : World) (asV : Value) (asF : Vote → Vote) (C : List Nat) (k : FuncId) (caps : Array Value) : Prop where
  val : asV = .func (.func k) #[] caps
  lt : ∀ b ∈ C, b < w.heap.size
  ent : ∀ args w, (callFunc k args).run Try.prog w = .ok (.enter k args) w
  same : ∀ v, (asF v).value = v.value
  calls : ∀ w', w.heap.size ≤ w'.heap.size → (∀ b ∈ C, w'.heap[b]? = w.heap[b]?) → ∀ v A n c, Calls Try.prog k (#[.agg (voteCells v (.slice A n c))] ++ caps) w' (fun e w'' => e = .returned (.agg (voteCells (asF v) (.slice A n c))) ∧ Ext w' w'')

theorem AsAt.turn {S : Nat → Prop} {w w' : World} {asV : Value} {asF : Vote → Vote} {C : List Nat} {k : FuncId} {caps : Array Value} (h : AsAt w asV asF C k caps) (ht : Turn S w w') (hs : ∀ b ∈ C, ¬ S b) : AsAt w' asV asF C k caps :=
  ⟨h.val, fun b hb => Nat.lt_of_lt_of_le (h.lt b hb) ht.size, h.ent, h.same, fun w2 hsz hk => h.calls w2 (Nat.le_trans ht.size hsz) (fun b hb => (hk b hb).trans (ht.block b (h.lt b hb) (hs b hb)))⟩

theorem AsAt.ext {w w' : World} {asV : Value} {asF : Vote → Vote} {C : List Nat} {k : FuncId} {caps : Array Value} (h : AsAt w asV asF C k caps) (hx : Ext w w') : AsAt w' asV asF C k caps :=
  h.turn (Turn.of_ext (S := fun _ => False) hx) (fun _ _ h => h)

theorem voteAs_at (w : World) : AsAt w (.func (.func 19) #[] #[]) id [] 19 #[] :=
  ⟨rfl, fun b hb => by simp at hb, enters_of Try.func19 (by kernel_rfl) rfl, fun _ => rfl, fun w' _ _ v A n c => by
    have := voteAs_calls v A n c w'
    simpa using this⟩
end Go.Proofs.Ytkpllkjionegeaa

/- Walks: a core's own votes, read again (votes). -/
namespace Go.Proofs.Ytkpllkjionegeaa
open Go Go.RowKit

theorem numOf_four (n : Int) (h0 : 0 ≤ n) (h1 : n < 4294967296) : numOf (four n) = n := by
  have key : ∀ x : Int, 0 ≤ x → x < 256 → (((UInt8.ofNat x.toNat).toNat : Nat) : Int) = x := fun x a b => by
    simp only [UInt8.toNat_ofNat']
    omega
  simp only [numOf, four, List.foldl_cons, List.foldl_nil]
  rw [key _ (by omega) (by omega), key _ (by omega) (by omega), key _ (by omega) (by omega), key _ (by omega) (by omega)]
  omega

/-- 'four' where a number was written -/
theorem four_again (rb : Nat) (n : Int) (r : Bytes) (w : World) (h : RdAt rb (four n ++ r) w) (h0 : 0 ≤ n) (h1 : n < 4294967296) (hl : r.length ≤ 900000) :
    Calls Try.prog 42 #[.pointer (some ⟨rb, 0, none⟩)] w (fun e w' => e = .returned (.int .i64 n) ∧ RdAt rb r w' ∧ Turn (· = rb) w w') := by
  refine (four_read rb (four n ++ r) w h (by simp [four_len]) (by simp [four_len]; omega)).mono ?_
  rintro e w' ⟨rfl, h2, h3⟩
  have e1 : (four n ++ r).take 4 = four n := by rw [List.take_append_of_le_length (by simp [four_len])]; exact List.take_of_length_le (by simp [four_len])
  have e2 : (four n ++ r).drop 4 = r := by rw [List.drop_append_of_le_length (by simp [four_len]), List.drop_of_length_le (by simp [four_len])]; rfl
  rw [e1, numOf_four n h0 h1]
  rw [e2] at h2
  exact ⟨rfl, h2, h3⟩

/-- 'take' where bytes were written -/
theorem take_again (rb : Nat) (l r : Bytes) (w : World) (h : RdAt rb (l ++ r) w) (hl : l.length + r.length ≤ 900000) :
    Calls Try.prog 44 #[.pointer (some ⟨rb, 0, none⟩), .int .i64 l.length] w (fun e w' => ∃ v, e = .returned v ∧ BytesAt w' v l ∧ RdAt rb r w' ∧ Turn (· = rb) w w') := by
  refine (take_read rb (l ++ r) l.length w h (by simp) (by simp; omega)).mono ?_
  rintro e w' ⟨v, rfl, h1, h2, h3⟩
  rw [List.take_left] at h1
  rw [List.drop_left] at h2
  exact ⟨v, rfl, h1, h2, h3⟩
end Go.Proofs.Ytkpllkjionegeaa

/- Walks: a core's own votes, read again (votes). -/
namespace Go.Proofs.Ytkpllkjionegeaa
open Go Go.RowKit

/-- a core has moved, and a reader beside it -/
structure RMoves (cb : Nat) (L L' : Lay) (rb : Nat) (w w' : World) : Prop where
  turn : Turn (fun b => Own cb L b ∨ b = rb) w w'
  new : ∀ b, b ∈ L'.maps → b ∈ L.maps ∨ w.heap.size ≤ b
  acc : L'.acc = L.acc

theorem RMoves.refl (cb : Nat) (L : Lay) (rb : Nat) (w : World) : RMoves cb L L rb w w := ⟨Turn.refl _ w, fun b hb => Or.inl hb, rfl⟩

theorem RMoves.core {cb : Nat} {L L1 L2 : Lay} {rb : Nat} {a b c : World} (h : RMoves cb L L1 rb a b) (k : Moves cb L1 L2 b c) : RMoves cb L L2 rb a c :=
  ⟨h.turn.trans k.turn (fun x hx hs => by
    rcases hs with h1 | h1
    · exact Or.inl (Or.inl h1)
    · rcases h.new x h1 with h2 | h2
      · exact Or.inl (Or.inr h2)
      · omega),
   fun x hx => by
    rcases k.new x hx with h1 | h1
    · exact h.new x h1
    · exact Or.inr (Nat.le_trans h.turn.size h1),
   k.acc.trans h.acc⟩

theorem RMoves.read {cb : Nat} {L L1 : Lay} {rb : Nat} {a b c : World} (h : RMoves cb L L1 rb a b) (k : Turn (· = rb) b c) : RMoves cb L L1 rb a c :=
  ⟨h.turn.trans k (fun x hx hs => Or.inr hs), h.new, h.acc⟩

theorem RMoves.apart {cb : Nat} {L L1 : Lay} {rb : Nat} {a b : World} (h : RMoves cb L L1 rb a b) (hn : ¬ Own cb L rb) (hl : rb < a.heap.size) : ¬ Own cb L1 rb := fun ho => by
  rcases ho with h1 | h1
  · exact hn (Or.inl h1)
  · rcases h.new rb h1 with h2 | h2
    · exact hn (Or.inr h2)
    · omega

theorem CoreAt.set_preps_at {w w' : World} {cb : Nat} {c : Core} {L : Lay} {view who : Int} {v : Bytes} (h : CoreAt w cb c L) {e : Ending} (hp : SetPost L.preps c.preps L.ip view who v w e w') :
    ∃ L', e = .returned (.bool (setTold c.preps view who v).1) ∧ CoreAt w' cb { c with preps := (setTold c.preps view who v).2 } L' ∧ Moves cb L L' w w' ∧ L'.preps = L.preps := by
  obtain ⟨L', he, hc, hm⟩ := h.set_preps hp
  refine ⟨L', he, hc, hm, ?_⟩
  obtain ⟨_, _, _, ht, _⟩ := hp
  have n1 : ¬ (cb = L.preps ∨ cb ∈ AL.vals L.ip) := fun hb => h.maps_ne (by rcases hb with hb | hb <;> simp [Lay.maps, hb])
  have e8 := World.cell?_of_block (a := ⟨cb, 8, none⟩) (ht.block cb h.lt n1)
  rw [hc.c8, h.c8] at e8
  simpa using e8

theorem CoreAt.set_comms_at {w w' : World} {cb : Nat} {c : Core} {L : Lay} {view who : Int} {v : Bytes} (h : CoreAt w cb c L) {e : Ending} (hp : SetPost L.comms c.comms L.ic view who v w e w') :
    ∃ L', e = .returned (.bool (setTold c.comms view who v).1) ∧ CoreAt w' cb { c with comms := (setTold c.comms view who v).2 } L' ∧ Moves cb L L' w w' ∧ L'.comms = L.comms := by
  obtain ⟨L', he, hc, hm⟩ := h.set_comms hp
  refine ⟨L', he, hc, hm, ?_⟩
  obtain ⟨_, _, _, ht, _⟩ := hp
  have n1 : ¬ (cb = L.comms ∨ cb ∈ AL.vals L.ic) := fun hb => h.maps_ne (by rcases hb with hb | hb <;> simp [Lay.maps, hb])
  have e9 := World.cell?_of_block (a := ⟨cb, 9, none⟩) (ht.block cb h.lt n1)
  rw [hc.c9, h.c9] at e9
  simpa using e9

def setAll (me : Int) (m : AL Told) (l : List Vote) : AL Told := l.foldl (fun m v => (setTold m v.view me v.value).2) m

theorem setAll_succ (me : Int) (m : AL Told) (l : List Vote) {k : Nat} (hk : k < l.length) : setAll me m (l.take (k + 1)) = (setTold (setAll me m (l.take k)) l[k].view me l[k].value).2 := by
  unfold setAll
  rw [List.take_add_one, List.foldl_append, List.getElem?_eq_getElem hk]
  rfl

def lastOf (l : List Vote) (k : Nat) : Int := match k with | 0 => -1 | k + 1 => (l[k]?.map (·.view)).getD (-1)


set_option maxRecDepth 100000 in
set_option maxHeartbeats 2000000 in
theorem votes_preps (rb cb : Nat) (c : Core) (L : Lay) (l : List Vote) (rest : Bytes) (w : World) (hc : CoreAt w cb c L) (hr : RdAt rb (votesBytes l ++ rest) w) (hn : ¬ Own cb L rb) (hlen : (votesBytes l).length + rest.length ≤ 900000)
    (hrise : ∀ k (h : k < l.length), lastOf l k < l[k].view) (hview : ∀ v ∈ l, 0 ≤ v.view ∧ v.view ≤ c.view ∧ v.value.length ≤ 4096) (hv1 : c.view ≤ 1048576) :
    Calls Try.prog 43 #[.pointer (some ⟨rb, 0, none⟩), .pointer (some ⟨cb, 0, none⟩), .map (some L.preps)] w
      (fun e w' => (∃ v, e = .returned v) ∧ ∃ L', CoreAt w' cb { c with preps := setAll c.me c.preps l } L' ∧ RdAt rb rest w' ∧ RMoves cb L L' rb w w') := by
  have hrl := hr.lt
  have HC := Lib.hid hc
  have HN := Lib.hid hn
  have HLEN := Lib.hid hlen
  have HRI := Lib.hid hrise
  have HVW := Lib.hid hview
  rw [votesBytes_eq, List.append_assoc] at hr
  have HR := Lib.hid hr
  have hml := votes_len l
  have hl9 : l.length ≤ 900000 := by omega
  clear hc hr hn hrise hview hlen
  go_enter Try.func43, Try.ntmps43
  go_wp2_with (go_at_call 42; refine (four_again rb (l.length : Int) (l.flatMap encOne ++ rest) _ HR.out (by omega) (by have := HLEN.out; omega) (by have := HLEN.out; rw [votesBytes_eq, List.length_append] at this; rw [List.length_append]; omega)).mono ?_; rintro e w1 ⟨rfl, hr1, ht1⟩)
  have HR1 := Lib.hid hr1
  have HT1 := Lib.hid ht1
  have hrl1 := hr1.lt
  clear hr1 ht1
  go_loopw [11, 6] (fun v vl wr => ∃ (k : Nat) (L' : Lay), k ≤ l.length ∧ v = .int .i64 k ∧ vl = .int .i64 (lastOf l k) ∧ CoreAt wr cb { c with preps := setAll c.me c.preps (l.take k) } L' ∧ L'.preps = L.preps ∧ RdAt rb ((l.drop k).flatMap encOne ++ rest) wr ∧ RMoves cb L L' rb w wr) (fun v _ _ => l.length - (intOf v).toNat)
  case atStart =>
    exact ⟨0, L, Nat.zero_le _, rfl, rfl, HC.out.turn HT1.out (fun b hb e => HN.out (e ▸ hb)), rfl, by simpa using HR1.out, (RMoves.refl cb L rb w).read HT1.out⟩
  case round =>
    obtain ⟨k, L', hk, rfl, rfl, hck, hLp, hrk, hmk⟩ := hrel
    have hap := hmk.apart HN.out hrl
    by_cases hlt : k < l.length
    · have hlast : lastOf l k < l[k].view := HRI.out k hlt
      have hvv := HVW.out l[k] (List.getElem_mem hlt)
      have hdrop : (l.drop k).flatMap encOne ++ rest = four l[k].view ++ (four l[k].value.length ++ (l[k].value ++ ((l.drop (k + 1)).flatMap encOne ++ rest))) := by
        rw [List.drop_eq_getElem_cons hlt, List.flatMap_cons]; simp [encOne]
      have hln : (four l[k].view ++ (four l[k].value.length ++ (l[k].value ++ ((l.drop (k + 1)).flatMap encOne ++ rest)))).length ≤ 900000 := by
        rw [← hdrop]
        have := HLEN.out
        rw [votesBytes_eq] at this
        have e : l.flatMap encOne = (l.take k).flatMap encOne ++ (l.drop k).flatMap encOne := by rw [← List.flatMap_append, List.take_append_drop]
        rw [e] at this
        simp only [List.length_append] at this ⊢
        omega
      have hnext : lastOf l (k + 1) = l[k].view := by simp [lastOf, hlt]
      have hsucc := setAll_succ c.me c.preps l hlt
      obtain ⟨vt, hvt⟩ : ∃ vt, vt = l[k] := ⟨_, rfl⟩
      rw [← hvt] at hlast hvv hdrop hln hnext hsucc
      rw [hdrop] at hrk
      simp only [List.length_append, four_len] at hln
      have HRK := Lib.hid hrk
      have HCK := Lib.hid hck
      have HMK := Lib.hid hmk
      have HAP := Lib.hid hap
      have HLN := Lib.hid hln
      have HNX := Lib.hid hnext
      have HSU := Lib.hid hsucc
      have HLP := Lib.hid hLp
      have hvv1 := hvv.1
      have hvv2 := hvv.2.1
      have hvv3 := hvv.2.2
      clear hrk hck hmk hap hln hnext hsucc hvt hdrop hvv hLp
      go_wp2_with (first
        | (go_at_call 42; refine (four_again rb vt.view _ _ HRK.out hvv1 (by omega) (by have := HLN.out; simp only [List.length_append, four_len]; omega)).mono ?_; rintro e w2 ⟨rfl, hr2, ht2⟩; have HR2 := Lib.hid hr2; have HT2 := Lib.hid ht2; clear HRK hr2 ht2)
        | (go_at_call 42; refine (four_again rb (vt.value.length : Int) _ _ HR2.out (by omega) (by omega) (by have := HLN.out; simp only [List.length_append]; omega)).mono ?_; rintro e w3 ⟨rfl, hr3, ht3⟩; have HR3 := Lib.hid hr3; have HT3 := Lib.hid ht3; clear HR2 hr3 ht3)
        | (go_at_call 44; refine (take_again rb vt.value _ _ HR3.out (by have := HLN.out; simp only [List.length_append]; omega)).mono ?_; rintro e w4 ⟨v4, rfl, hb4, hr4, ht4⟩; obtain ⟨A4, C4, rfl, hcc4, hcb4⟩ := id hb4; have ht := (HT2.out.trans HT3.out (fun _ _ h => h)).trans ht4 (fun _ _ h => h); have hc4 := HCK.out.turn ht (fun b hb e => HAP.out (e ▸ hb)); have d1 := hc4.c1; have d4 := hc4.c4; have dl := hc4.lt; obtain ⟨vv, hbl4, _⟩ := id hr4; have r1 : w4.cell? ⟨rb, 1, none⟩ = some (.bool false) := (by simp [World.cell?, hbl4]); have rl : rb < w4.heap.size := hr4.lt; have HT4 := Lib.hid ht; have HC4 := Lib.hid hc4; have HR4 := Lib.hid hr4; have HB4 := Lib.hid hb4; clear HR3 ht hc4 hr4 hb4 ht4 hcb4 hbl4 hcc4)
        | (go_at_call 64; refine (show Calls Try.prog 64 #[.map (some L.preps), .int .i64 vt.view, .int .i64 c.me, .slice A4 vt.value.length C4] w4 (SetPost L'.preps (setAll c.me c.preps (l.take k)) L'.ip vt.view c.me vt.value w4) from (by rw [← HLP.out]; exact set_calls L'.preps _ L'.ip vt.view c.me _ vt.value w4 HC4.out.preps HC4.out.nodup_preps HB4.out (by omega))).mono ?_; intro e w5 hp5; obtain ⟨L5, rfl, hc5, hm5, hp5e⟩ := HC4.out.set_preps_at hp5; have hr5 := HR4.out; have HC5 := Lib.hid hc5; have HM5 := Lib.hid hm5; have HP5 := Lib.hid hp5e; clear hc5 hm5 hp5 hp5e hr5))
      refine ⟨⟨k + 1, L5, by omega, by go_num, by rw [HNX.out], by have := HC5.out; rw [← HSU.out] at this; exact this, HP5.out.trans HLP.out, ?_, (HMK.out.read HT4.out).core HM5.out⟩, by simp [intOf]; omega⟩
      obtain ⟨vx, hx1, hx2⟩ := HR4.out
      exact ⟨vx, (HM5.out.turn.block rb rl HAP.out).trans hx1, hx2.turn HM5.out.turn⟩
    · go_wp2
      go_end0
      have hke : k = l.length := by omega
      subst hke
      rw [List.take_length] at hck
      rw [List.drop_length] at hrk
      exact ⟨⟨_, rfl⟩, L', hck, by simpa using hrk, hmk⟩

set_option maxRecDepth 100000 in
set_option maxHeartbeats 2000000 in
theorem votes_comms (rb cb : Nat) (c : Core) (L : Lay) (l : List Vote) (rest : Bytes) (w : World) (hc : CoreAt w cb c L) (hr : RdAt rb (votesBytes l ++ rest) w) (hn : ¬ Own cb L rb) (hlen : (votesBytes l).length + rest.length ≤ 900000)
    (hrise : ∀ k (h : k < l.length), lastOf l k < l[k].view) (hview : ∀ v ∈ l, 0 ≤ v.view ∧ v.view ≤ c.view ∧ v.value.length ≤ 4096) (hv1 : c.view ≤ 1048576) :
    Calls Try.prog 43 #[.pointer (some ⟨rb, 0, none⟩), .pointer (some ⟨cb, 0, none⟩), .map (some L.comms)] w
      (fun e w' => (∃ v, e = .returned v) ∧ ∃ L', CoreAt w' cb { c with comms := setAll c.me c.comms l } L' ∧ RdAt rb rest w' ∧ RMoves cb L L' rb w w') := by
  have hrl := hr.lt
  have HC := Lib.hid hc
  have HN := Lib.hid hn
  have HLEN := Lib.hid hlen
  have HRI := Lib.hid hrise
  have HVW := Lib.hid hview
  rw [votesBytes_eq, List.append_assoc] at hr
  have HR := Lib.hid hr
  have hml := votes_len l
  have hl9 : l.length ≤ 900000 := by omega
  clear hc hr hn hrise hview hlen
  go_enter Try.func43, Try.ntmps43
  go_wp2_with (go_at_call 42; refine (four_again rb (l.length : Int) (l.flatMap encOne ++ rest) _ HR.out (by omega) (by have := HLEN.out; omega) (by have := HLEN.out; rw [votesBytes_eq, List.length_append] at this; rw [List.length_append]; omega)).mono ?_; rintro e w1 ⟨rfl, hr1, ht1⟩)
  have HR1 := Lib.hid hr1
  have HT1 := Lib.hid ht1
  have hrl1 := hr1.lt
  clear hr1 ht1
  go_loopw [11, 6] (fun v vl wr => ∃ (k : Nat) (L' : Lay), k ≤ l.length ∧ v = .int .i64 k ∧ vl = .int .i64 (lastOf l k) ∧ CoreAt wr cb { c with comms := setAll c.me c.comms (l.take k) } L' ∧ L'.comms = L.comms ∧ RdAt rb ((l.drop k).flatMap encOne ++ rest) wr ∧ RMoves cb L L' rb w wr) (fun v _ _ => l.length - (intOf v).toNat)
  case atStart =>
    exact ⟨0, L, Nat.zero_le _, rfl, rfl, HC.out.turn HT1.out (fun b hb e => HN.out (e ▸ hb)), rfl, by simpa using HR1.out, (RMoves.refl cb L rb w).read HT1.out⟩
  case round =>
    obtain ⟨k, L', hk, rfl, rfl, hck, hLp, hrk, hmk⟩ := hrel
    have hap := hmk.apart HN.out hrl
    by_cases hlt : k < l.length
    · have hlast : lastOf l k < l[k].view := HRI.out k hlt
      have hvv := HVW.out l[k] (List.getElem_mem hlt)
      have hdrop : (l.drop k).flatMap encOne ++ rest = four l[k].view ++ (four l[k].value.length ++ (l[k].value ++ ((l.drop (k + 1)).flatMap encOne ++ rest))) := by
        rw [List.drop_eq_getElem_cons hlt, List.flatMap_cons]; simp [encOne]
      have hln : (four l[k].view ++ (four l[k].value.length ++ (l[k].value ++ ((l.drop (k + 1)).flatMap encOne ++ rest)))).length ≤ 900000 := by
        rw [← hdrop]
        have := HLEN.out
        rw [votesBytes_eq] at this
        have e : l.flatMap encOne = (l.take k).flatMap encOne ++ (l.drop k).flatMap encOne := by rw [← List.flatMap_append, List.take_append_drop]
        rw [e] at this
        simp only [List.length_append] at this ⊢
        omega
      have hnext : lastOf l (k + 1) = l[k].view := by simp [lastOf, hlt]
      have hsucc := setAll_succ c.me c.comms l hlt
      obtain ⟨vt, hvt⟩ : ∃ vt, vt = l[k] := ⟨_, rfl⟩
      rw [← hvt] at hlast hvv hdrop hln hnext hsucc
      rw [hdrop] at hrk
      simp only [List.length_append, four_len] at hln
      have HRK := Lib.hid hrk
      have HCK := Lib.hid hck
      have HMK := Lib.hid hmk
      have HAP := Lib.hid hap
      have HLN := Lib.hid hln
      have HNX := Lib.hid hnext
      have HSU := Lib.hid hsucc
      have HLP := Lib.hid hLp
      have hvv1 := hvv.1
      have hvv2 := hvv.2.1
      have hvv3 := hvv.2.2
      clear hrk hck hmk hap hln hnext hsucc hvt hdrop hvv hLp
      go_wp2_with (first
        | (go_at_call 42; refine (four_again rb vt.view _ _ HRK.out hvv1 (by omega) (by have := HLN.out; simp only [List.length_append, four_len]; omega)).mono ?_; rintro e w2 ⟨rfl, hr2, ht2⟩; have HR2 := Lib.hid hr2; have HT2 := Lib.hid ht2; clear HRK hr2 ht2)
        | (go_at_call 42; refine (four_again rb (vt.value.length : Int) _ _ HR2.out (by omega) (by omega) (by have := HLN.out; simp only [List.length_append]; omega)).mono ?_; rintro e w3 ⟨rfl, hr3, ht3⟩; have HR3 := Lib.hid hr3; have HT3 := Lib.hid ht3; clear HR2 hr3 ht3)
        | (go_at_call 44; refine (take_again rb vt.value _ _ HR3.out (by have := HLN.out; simp only [List.length_append]; omega)).mono ?_; rintro e w4 ⟨v4, rfl, hb4, hr4, ht4⟩; obtain ⟨A4, C4, rfl, hcc4, hcb4⟩ := id hb4; have ht := (HT2.out.trans HT3.out (fun _ _ h => h)).trans ht4 (fun _ _ h => h); have hc4 := HCK.out.turn ht (fun b hb e => HAP.out (e ▸ hb)); have d1 := hc4.c1; have d4 := hc4.c4; have dl := hc4.lt; obtain ⟨vv, hbl4, _⟩ := id hr4; have r1 : w4.cell? ⟨rb, 1, none⟩ = some (.bool false) := (by simp [World.cell?, hbl4]); have rl : rb < w4.heap.size := hr4.lt; have HT4 := Lib.hid ht; have HC4 := Lib.hid hc4; have HR4 := Lib.hid hr4; have HB4 := Lib.hid hb4; clear HR3 ht hc4 hr4 hb4 ht4 hcb4 hbl4 hcc4)
        | (go_at_call 64; refine (show Calls Try.prog 64 #[.map (some L.comms), .int .i64 vt.view, .int .i64 c.me, .slice A4 vt.value.length C4] w4 (SetPost L'.comms (setAll c.me c.comms (l.take k)) L'.ic vt.view c.me vt.value w4) from (by rw [← HLP.out]; exact set_calls L'.comms _ L'.ic vt.view c.me _ vt.value w4 HC4.out.comms HC4.out.nodup_comms HB4.out (by omega))).mono ?_; intro e w5 hp5; obtain ⟨L5, rfl, hc5, hm5, hp5e⟩ := HC4.out.set_comms_at hp5; have hr5 := HR4.out; have HC5 := Lib.hid hc5; have HM5 := Lib.hid hm5; have HP5 := Lib.hid hp5e; clear hc5 hm5 hp5 hp5e hr5))
      refine ⟨⟨k + 1, L5, by omega, by go_num, by rw [HNX.out], by have := HC5.out; rw [← HSU.out] at this; exact this, HP5.out.trans HLP.out, ?_, (HMK.out.read HT4.out).core HM5.out⟩, by simp [intOf]; omega⟩
      obtain ⟨vx, hx1, hx2⟩ := HR4.out
      exact ⟨vx, (HM5.out.turn.block rb rl HAP.out).trans hx1, hx2.turn HM5.out.turn⟩
    · go_wp2
      go_end0
      have hke : k = l.length := by omega
      subst hke
      rw [List.take_length] at hck
      rw [List.drop_length] at hrk
      exact ⟨⟨_, rfl⟩, L', hck, by simpa using hrk, hmk⟩
end Go.Proofs.Ytkpllkjionegeaa

/- Walks: a core that begins anew (Of), from what another one's bytes say. -/
namespace Go.Proofs.Ytkpllkjionegeaa
open Go Go.RowKit Go.Maps Go.Sort Go.Shelf
open Go.WideElems (Fit rd rg)

/-! ### what the bytes say -/

theorem put_end {α : Type} : ∀ {m : AL α} {x : Int} {u : α}, (∀ p ∈ m, p.1 < x) → AL.put m x u = m ++ [(x, u)]
  | [], _, _, _ => rfl
  | (k, v) :: r, x, u, h => by
    have h1 : k < x := h (k, v) (by simp)
    simp only [AL.put, List.cons_append]
    rw [if_neg (by omega), if_neg (by omega), put_end fun p hp => h p (by simp [hp])]

theorem setAll_told (me : Int) (V : Int × Bytes → Vote) (hV : ∀ p, (V p).view = p.1 ∧ (V p).value = p.2) : ∀ (l a : AL Bytes), AL.Rising (a ++ l) →
    setAll me (AL.mapVal (fun v => ([(me, v)] : Told)) a) (l.map V) = AL.mapVal (fun v => ([(me, v)] : Told)) (a ++ l)
  | [], a, _ => by simp [setAll]
  | p :: r, a, h => by
    have h' : AL.Rising ((a ++ [p]) ++ r) := by simpa using h
    have ih := setAll_told me V hV r (a ++ [p]) h'
    have hlt : ∀ q ∈ AL.mapVal (fun v => ([(me, v)] : Told)) a, q.1 < p.1 := fun q hq => by
      obtain ⟨q', hq', rfl⟩ := List.mem_map.1 hq
      exact (List.pairwise_append.1 h).2.2 q' hq' p (by simp)
    have hnone : AL.get? (AL.mapVal (fun v => ([(me, v)] : Told)) a) p.1 = none := by
      cases hg : AL.get? (AL.mapVal (fun v => ([(me, v)] : Told)) a) p.1 with
      | none => rfl
      | some t => have := hlt _ (AL.get?_mem hg); simp at this
    have hs : (setTold (AL.mapVal (fun v => ([(me, v)] : Told)) a) (V p).view me (V p).value).2 = AL.mapVal (fun v => ([(me, v)] : Told)) (a ++ [p]) := by
      rw [(hV p).1, (hV p).2]
      unfold setTold inner
      rw [hnone]
      simp only [Option.getD_none, AL.get?, Option.isSome_none, Bool.false_eq_true, if_false, AL.put]
      rw [put_end hlt]
      simp [AL.mapVal]
    have e : setAll me (AL.mapVal (fun v => ([(me, v)] : Told)) a) ((p :: r).map V) = setAll me (setTold (AL.mapVal (fun v => ([(me, v)] : Told)) a) (V p).view me (V p).value).2 (r.map V) := rfl
    rw [e, hs, ih]
    simp

theorem setAll_mine (c : Core) (kind : Int) {m : AL Told} (hm : AL.Rising m) : setAll c.me [] (c.mine kind m) = AL.mapVal (fun v => ([(c.me, v)] : Told)) (ownAL c.me m) := by
  rw [mine_own]
  exact setAll_told c.me _ (fun p => ⟨rfl, rfl⟩) (ownAL c.me m) [] (by simpa using rising_own c.me hm)

theorem last_rise {c : Core} {kind : Int} {m : AL Told} (hm : AL.Rising m) (h0 : ∀ v ∈ c.mine kind m, 0 ≤ v.view) : ∀ k (h : k < (c.mine kind m).length), lastOf (c.mine kind m) k < (c.mine kind m)[k].view := by
  have hr : (c.mine kind m).Pairwise (fun a b => a.view < b.view) := by
    rw [mine_own]
    exact List.pairwise_map.2 (rising_own c.me hm)
  intro k h
  cases k with
  | zero => have := h0 _ (List.getElem_mem h); simp [lastOf]; omega
  | succ j =>
    have := (List.pairwise_iff_getElem.1 hr) j (j + 1) (by omega) h (by omega)
    simp only [lastOf]
    rw [List.getElem?_eq_getElem (by omega)]
    exact this

def lastLock (m : AL Told) : Int := match m.getLast? with | some p => p.1 | none => -1
def lastLocked (me : Int) (m : AL Told) : Bytes := match m.getLast? with | some p => (AL.get? p.2 me).getD [] | none => []

theorem last_succ {m : AL Told} {k : Nat} (hk : k < m.length) (hr : AL.Rising m) (me : Int) : lastLock (m.take (k + 1)) = (AL.keys m).getD k 0 ∧ lastLocked me (m.take (k + 1)) = (AL.get? (inner m ((AL.keys m).getD k 0)) me).getD [] := by
  have e : (m.take (k + 1)).getLast? = some m[k] := by
    rw [List.take_add_one, List.getElem?_eq_getElem hk, Option.toList_some, List.getLast?_concat]
  have e2 : (AL.keys m).getD k 0 = m[k].1 := by simp [AL.keys, List.getD, hk]
  have e3 : inner m m[k].1 = m[k].2 := by
    unfold inner
    rw [show AL.get? m m[k].1 = some m[k].2 from AL.get?_of_mem hr (List.getElem_mem hk)]
    rfl
  unfold lastLock lastLocked
  rw [e, e2, e3]
  exact ⟨rfl, rfl⟩

/-! ### keys in a block that is new -/

def IntsNew (B : Nat) (w : World) (v : Value) (l : List Int) : Prop :=
  ∃ a cap, v = .slice a l.length cap ∧ l.length ≤ cap ∧ (l ≠ [] → ∃ b o, a = some ⟨b, o, none⟩ ∧ B ≤ b ∧ ∀ i (h : i < l.length), w.cell? ⟨b, o + i, none⟩ = some (.int .i64 l[i]))

theorem IntsNew.at {B : Nat} {w : World} {a : Option Addr} {n cap : Nat} {l : List Int} (h : IntsNew B w (.slice a n cap) l) {i : Nat} (hi : i < l.length) : ∃ b o, a = some ⟨b, o, none⟩ ∧ w.cell? ⟨b, o + i, none⟩ = some (.int .i64 (l.getD i 0)) := by
  obtain ⟨a', cap', h1, _, h3⟩ := h
  cases h1
  obtain ⟨b, o, h4, _, h5⟩ := h3 (by intro e; rw [e] at hi; simp at hi)
  exact ⟨b, o, h4, by rw [h5 i hi]; simp [List.getD, List.getElem?_eq_getElem hi]⟩

theorem IntsNew.turn {B : Nat} {S : Nat → Prop} {w w' : World} {v : Value} {l : List Int} (h : IntsNew B w v l) (ht : Turn S w w') (hs : ∀ b, B ≤ b → ¬ S b) : IntsNew B w' v l := by
  obtain ⟨a, cap, h1, h2, h3⟩ := h
  refine ⟨a, cap, h1, h2, fun hl => ?_⟩
  obtain ⟨b, o, h4, hb, h5⟩ := h3 hl
  exact ⟨b, o, h4, hb, fun i hi => (World.cell?_of_block (ht.block b (World.block_lt_of_cell? w _ (h5 i hi)) (hs b hb))).trans (h5 i hi)⟩

theorem ints_new {w : World} {base : Nat} {v : Value} {n : Nat} {l : List Int} (h : w.ownsRow base 3 1 v n (l.map (Value.int .i64))) : IntsNew base w v l := by
  obtain ⟨h1, h2⟩ := h
  have hn : n = l.length := by simp at h1; omega
  rcases h2 with ⟨rfl, h0⟩ | ⟨g, cap, cur, rfl, hb, hg, hcap, hm, hs, ht⟩
  · have : l = [] := List.eq_nil_of_length_eq_zero (by omega)
    subst this; exact ⟨none, 0, rfl, Nat.le_refl _, fun h => absurd rfl h⟩
  · subst hn
    refine ⟨some ⟨g, 0, none⟩, cap, rfl, hcap, fun _ => ⟨g, 0, rfl, hb, fun i hi => ?_⟩⟩
    have : w.cell? ⟨g, 0 + i, none⟩ = cur[i]? := by simp [World.cell?, hg]
    rw [this]
    have h3 : (l.map (Value.int .i64))[i]? = cur.toList[i]? := by
      rw [← ht, List.getElem?_take]
      simp [hi]
    rw [← Array.getElem?_toList, ← h3]
    simp [hi]

theorem sortedA_new (Bm r : Nat) (m : AL Told) (im : AL Nat) (w : World) (h : TMapAt w r m im) (hw : TWf m) (hc : w.cell? ⟨Bm, 0, none⟩ = some (.map (some r))) :
    Calls Try.prog 45 #[.func (.func 72) #[] #[.pointer (some ⟨Bm, 0, none⟩)]] w (fun e w' => ∃ v, e = .returned v ∧ IntsNew w.heap.size w' v (AL.keys m) ∧ Ext w w') := by
  have hkeys : AL.keys (AL.mapVal (fun i => Value.map (some i)) im) = AL.keys m := (AL.keys_mapVal _ im).trans (h.2.2.2.keys h.2.1 h.2.2.1)
  have hlen : (AL.mapVal (fun i => Value.map (some i)) im).length = m.length := by have := congrArg List.length hkeys; simpa [AL.keys] using this
  have hk : KeysIn (AL.mapVal (fun i => Value.map (some i)) im) := ⟨fun k hk' => by have := hw.keys.1 k (hkeys ▸ hk'); omega, by have := hw.keys.2; omega⟩
  obtain ⟨D, hown, hperm, hsize⟩ := owns_of_mapAt h.1 hk
  have hseq : SeqGives Fence.wide 2 Try.prog 72 #[.pointer (some ⟨Bm, 0, none⟩)] encZ (fun ss => ss.Perm (intKeys D)) (Maps.size D) w :=
    AnyZI.keys_gives (ρ := Try.keysA_ren) { Try.keysA with } Fence.wide _ trivial rfl (by omega) Bm r _ D w (World.block_lt_of_cell? w _ hc) hc hown
  have cS := AnyZI.sorted_in Try.sortedA Fence.wide 5 trivial trivial trivial trivial rfl (by omega) (sorts _) (enters_of Try.func71 (by kernel_rfl) rfl) 72 #[.pointer (some ⟨Bm, 0, none⟩)] trivial (enters_of Try.func72 (by kernel_rfl) rfl) _ _
    (by rw [hsize]; have := hk.2; unfold maxLen; omega) (by rw [hsize]; have := hk.2; omega) w hseq
  refine (callsIn_wide.1 cS).mono ?_
  rintro e w' ⟨v, ss, rfl, hS, hrow, _, hb⟩
  rw [mergeSort_keys (hS.trans hperm) h.1.rising, hkeys] at hrow
  exact ⟨v, rfl, ints_new hrow, hb⟩

/-! ### where the walk stands -/

theorem Ext.turn {w W W' : World} {S : Nat → Prop} (h : Ext w W) (ht : Turn S W W') (hs : ∀ b, S b → w.heap.size ≤ b) : Ext w W' :=
  ⟨ht.os.trans h.os, ht.tape.trans h.tape, ht.output.trans h.output, Nat.le_trans h.size ht.size, fun b hb => (ht.block b (Nat.lt_of_lt_of_le hb h.size) (fun hn => by have := hs b hn; omega)).trans (h.block b hb)⟩

/-- a core of one's own, and a reader of one's own -/
structure OfMid (w : World) (accV : Value) (cb rb : Nat) (c : Core) (L : Lay) (rest : Bytes) (W : World) : Prop where
  core : CoreAt W cb c L
  rd : RdAt rb rest W
  apart : ¬ Own cb L rb
  ext : Ext w W
  new : w.heap.size ≤ cb
  maps : ∀ b ∈ L.maps, w.heap.size ≤ b
  newr : w.heap.size ≤ rb
  acc : L.acc = accV

namespace OfMid
variable {w : World} {accV : Value} {cb rb : Nat} {c : Core} {L : Lay} {rest : Bytes} {W : World}

theorem read (h : OfMid w accV cb rb c L rest W) {rest' : Bytes} {W' : World} (hr : RdAt rb rest' W') (ht : Turn (· = rb) W W') : OfMid w accV cb rb c L rest' W' :=
  ⟨h.core.turn ht (fun b hb e => h.apart (e ▸ hb)), hr, h.apart, h.ext.turn ht (fun b e => e ▸ h.newr), h.new, h.maps, h.newr, h.acc⟩

theorem own_new (h : OfMid w accV cb rb c L rest W) : ∀ b, Own cb L b → w.heap.size ≤ b := fun b hb => by
  rcases hb with rfl | hb
  · exact h.new
  · exact h.maps b hb

theorem moves (h : OfMid w accV cb rb c L rest W) {c' : Core} {L' : Lay} {W' : World} (hc : CoreAt W' cb c' L') (hm : Moves cb L L' W W') : OfMid w accV cb rb c' L' rest W' := by
  obtain ⟨v, h1, h2⟩ := h.rd
  refine ⟨hc, ⟨v, (hm.turn.block rb h.rd.lt h.apart).trans h1, h2.turn hm.turn⟩, fun ho => ?_, h.ext.turn hm.turn h.own_new, h.new, fun b hb => ?_, h.newr, hm.acc.trans h.acc⟩
  · rcases ho with h1 | h1
    · exact h.apart (Or.inl h1)
    · rcases hm.new rb h1 with h2 | h2
      · exact h.apart (Or.inr h2)
      · have := h.rd.lt; omega
  · rcases hm.new b hb with h2 | h2
    · exact h.maps b h2
    · exact Nat.le_trans h.ext.size h2

theorem votes (h : OfMid w accV cb rb c L rest W) {c' : Core} {L' : Lay} {rest' : Bytes} {W' : World} (hc : CoreAt W' cb c' L') (hr : RdAt rb rest' W') (hm : RMoves cb L L' rb W W') : OfMid w accV cb rb c' L' rest' W' := by
  refine ⟨hc, hr, hm.apart h.apart h.rd.lt, h.ext.turn hm.turn (fun b hb => ?_), h.new, fun b hb => ?_, h.newr, hm.acc.trans h.acc⟩
  · rcases hb with hb | rfl
    · exact h.own_new b hb
    · exact h.newr
  · rcases hm.new b hb with h2 | h2
    · exact h.maps b h2
    · exact Nat.le_trans h.ext.size h2

/-- the view is written -/
theorem setView (h : OfMid w accV cb rb c L rest W) (x : Int) : OfMid w accV cb rb { c with view := x } L rest (W.setCell ⟨cb, 4, none⟩ (.int .i64 x)) := by
  have k1 := cells_store h.core.blk (.int .i64 x) (i := 4) (u := .int .i64 c.view) rfl (by intro x h; cases h)
  have hs := CoreAt.set_cells h.core (c' := { c with view := x }) (L' := L) k1.1 k1.2 rfl rfl (h.core.wish.turn k1.2) (h.core.locked.turn k1.2) (h.core.value.turn k1.2) ⟨rfl, rfl, rfl, rfl, rfl, rfl⟩ ⟨rfl, rfl, rfl, rfl, rfl, rfl, rfl, rfl, rfl⟩
  exact h.moves hs.1 hs.2

theorem setValue (h : OfMid w accV cb rb c L rest W) {A : Option Addr} {N K : Nat} {v : Bytes} (hb : BytesAt W (.slice A N K) v) : OfMid w accV cb rb { c with value := v } { L with value := .slice A N K } rest (W.setCell ⟨cb, 16, none⟩ (.slice A N K)) := by
  have k1 := cells_store h.core.blk (.slice A N K) (i := 16) (u := L.value) rfl h.core.value.not_u8
  have hs := CoreAt.set_cells h.core (c' := { c with value := v }) (L' := { L with value := .slice A N K }) k1.1 k1.2 rfl rfl (h.core.wish.turn k1.2) (h.core.locked.turn k1.2) (hb.turn k1.2) ⟨rfl, rfl, rfl, rfl, rfl, rfl⟩ ⟨rfl, rfl, rfl, rfl, rfl, rfl, rfl, rfl, rfl⟩
  exact h.moves hs.1 hs.2

theorem setDec (h : OfMid w accV cb rb c L rest W) (b : Bool) : OfMid w accV cb rb { c with decided := b } L rest (W.setCell ⟨cb, 15, none⟩ (.bool b)) := by
  have k1 := cells_store h.core.blk (.bool b) (i := 15) (u := .bool c.decided) rfl (by intro x h; cases h)
  have hs := CoreAt.set_cells h.core (c' := { c with decided := b }) (L' := L) k1.1 k1.2 rfl rfl (h.core.wish.turn k1.2) (h.core.locked.turn k1.2) (h.core.value.turn k1.2) ⟨rfl, rfl, rfl, rfl, rfl, rfl⟩ ⟨rfl, rfl, rfl, rfl, rfl, rfl, rfl, rfl, rfl⟩
  exact h.moves hs.1 hs.2

theorem ext' (h : OfMid w accV cb rb c L rest W) {W' : World} (hx : Ext W W') : OfMid w accV cb rb c L rest W' := h.moves (h.core.ext hx) (Moves.of_ext hx)

end OfMid

theorem rd_new {w : World} {v : Value} {l : Bytes} (h : BytesAt w v l) : RdAt w.heap.size l (w.alloc (.cells #[v, .bool false] 74)) :=
  ⟨v, heap_alloc_new w _, h.ext (Ext.al (Ext.refl w) _)⟩

theorem lock_cells {w : World} {cb : Nat} {c : Core} {L : Lay} (h : CoreAt w cb c L) (x : Int) {A : Option Addr} {N K : Nat} {v : Bytes} (hb : BytesAt w (.slice A N K) v) :
    CoreAt ((w.setCell ⟨cb, 13, none⟩ (.int .i64 x)).setCell ⟨cb, 14, none⟩ (.slice A N K)) cb { c with lock := x, locked := v } { L with locked := .slice A N K } ∧
      Turn (· = cb) w ((w.setCell ⟨cb, 13, none⟩ (.int .i64 x)).setCell ⟨cb, 14, none⟩ (.slice A N K)) := by
  have k1 := cells_store h.blk (.int .i64 x) (i := 13) (u := .int .i64 c.lock) rfl (by intro x h; cases h)
  have k2 := cells_store k1.1 (.slice A N K) (i := 14) (u := L.locked) rfl h.locked.not_u8
  have ht := k1.2.trans k2.2 (fun _ _ h => h)
  exact ⟨(CoreAt.set_cells h (c' := { c with lock := x, locked := v }) (L' := { L with locked := .slice A N K }) k2.1 ht rfl rfl (h.wish.turn ht) (hb.turn ht) (h.value.turn ht) ⟨rfl, rfl, rfl, rfl, rfl, rfl⟩ ⟨rfl, rfl, rfl, rfl, rfl, rfl, rfl, rfl, rfl⟩).1, ht⟩

/-- what beginning anew leaves -/
def OfPost (accV : Value) (c' : Core) (w : World) (e : Ending) (w' : World) : Prop :=
  ∃ cb L, e = .returned (.tuple #[.pointer (some ⟨cb, 0, none⟩), .int .i64 0]) ∧ w.heap.size ≤ cb ∧ (∀ b ∈ L.maps, w.heap.size ≤ b) ∧ L.acc = accV ∧ CoreAt w' cb c' L ∧ Ext w w'
end Go.Proofs.Ytkpllkjionegeaa

/- Walks: a core that begins anew (Of): the walk. -/
namespace Go.Proofs.Ytkpllkjionegeaa
open Go Go.RowKit

theorem RdAt.eq {rb : Nat} {l l' : Bytes} {w : World} (h : RdAt rb l w) (e : l = l') : RdAt rb l' w := e ▸ h

theorem RdAt.flag {rb : Nat} {l : Bytes} {w : World} (h : RdAt rb l w) : w.cell? ⟨rb, 1, none⟩ = some (.bool false) := by
  obtain ⟨v, h1, _⟩ := h
  simp [World.cell?, h1]

theorem take_one (rb : Nat) (x : UInt8) (r : Bytes) (w : World) (h : RdAt rb ([x] ++ r) w) (hl : r.length ≤ 800000) :
    Calls Try.prog 44 #[.pointer (some ⟨rb, 0, none⟩), .int .i64 1] w (fun e w' => ∃ b o C, e = .returned (.slice (some ⟨b, o, none⟩) 1 C) ∧ w'.cell? ⟨b, o, none⟩ = some (.int .u8 (x.toNat : Int)) ∧ RdAt rb r w' ∧ Turn (· = rb) w w') := by
  refine (take_again rb [x] r w h (by simp; omega)).mono ?_
  rintro e w' ⟨v, rfl, ⟨A, C, rfl, h1, h2⟩, h3, h4⟩
  obtain ⟨b, o, rfl, hc⟩ := h2 (by simp)
  exact ⟨b, o, C, rfl, hc 0 (by simp), h3, h4⟩

theorem core_ext {c d : Core} (h1 : c.n = d.n) (h2 : c.me = d.me) (h3 : c.slot = d.slot) (h4 : c.view = d.view) (h5 : c.wish = d.wish) (h6 : c.wishes = d.wishes) (h7 : c.props = d.props) (h8 : c.preps = d.preps) (h9 : c.comms = d.comms)
    (h10 : c.turns = d.turns) (h11 : c.seen = d.seen) (h12 : c.decs = d.decs) (h13 : c.lock = d.lock) (h14 : c.locked = d.locked) (h15 : c.decided = d.decided) (h16 : c.value = d.value) : c = d := by
  cases c; cases d; simp_all

theorem CoreAt.ne_byte {w : World} {cb : Nat} {c : Core} {L : Lay} (h : CoreAt w cb c L) {b o : Nat} {x : Int} (hx : w.cell? ⟨b, o, none⟩ = some (.int .u8 x)) : b ≠ cb := fun e => by
  subst e
  rw [h.cell o] at hx
  exact h.not_u8 hx x rfl

def flagByte (b : Bool) : UInt8 := if b then 1 else 0

theorem bytes_split (c : Core) (h : Wf c) : c.bytes = four c.view ++ (votesBytes (c.mine 2 c.preps) ++ (votesBytes (c.mine 3 c.comms) ++ ([flagByte c.decided] ++ (four (c.value.length : Int) ++ (c.value ++ []))))) := by
  unfold Core.bytes flagByte
  cases hd : c.decided with
  | true => simp
  | false => rw [h.val hd]; simp

set_option maxRecDepth 100000 in
set_option maxHeartbeats 4000000 in
theorem of_calls (c0 : Core) (k0 : Nat) (hf : Fine c0 k0) (hk0 : k0 ≤ 200) (k : FuncId) (caps : Array Value) (A : Option Addr) (C : Nat) (l : Bytes) (hl : l = c0.bytes) (w : World) (hb : BytesAt w (.slice A l.length C) l) :
    Calls Try.prog 16 #[.int .i64 c0.n, .int .i64 c0.me, .int .i64 c0.slot, .func (.func k) #[] caps, .slice A l.length C] w (OfPost (.func (.func k) #[] caps) c0.anew w) := by
  have hwf := hf.wf
  have hok : Core.newOk c0.n c0.me c0.slot = true := by
    unfold Core.newOk; simp only [decide_eq_true_eq]
    exact ⟨hwf.n4, hwf.n64, hwf.me1, hwf.men, hwf.s0, hwf.s1⟩
  have hlen := hf.bytes_len hk0
  have hsp := bytes_split c0 hwf
  obtain ⟨l2, hl2⟩ : ∃ l2, l2 = c0.mine 2 c0.preps := ⟨_, rfl⟩
  obtain ⟨l3, hl3⟩ : ∃ l3, l3 = c0.mine 3 c0.comms := ⟨_, rfl⟩
  have hr2 := last_rise (c := c0) (kind := 2) hwf.preps.1 (fun v hv => (hf.mine_val 2 (Or.inl hv)).2.1)
  have hr3 := last_rise (c := c0) (kind := 3) hwf.comms.1 (fun v hv => (hf.mine_val 3 (Or.inr hv)).2.1)
  have hv2 : ∀ v ∈ c0.mine 2 c0.preps, 0 ≤ v.view ∧ v.view ≤ c0.view ∧ v.value.length ≤ 4096 := fun v hv => by have := hf.mine_val 2 (Or.inl hv); omega
  have hv3 : ∀ v ∈ c0.mine 3 c0.comms, 0 ≤ v.view ∧ v.view ≤ c0.view ∧ v.value.length ≤ 4096 := fun v hv => by have := hf.mine_val 3 (Or.inr hv); omega
  have hs2 := setAll_mine c0 2 hwf.preps.1
  have hs3 := setAll_mine c0 3 hwf.comms.1
  rw [← hl2] at hr2 hv2 hs2 hsp
  rw [← hl3] at hr3 hv3 hs3 hsp
  rw [← anew_preps] at hs2
  rw [← anew_comms] at hs3
  have hw0 := hwf.v0
  have hw1 := hwf.v1
  have hvl := hwf.valueL
  have hwA := hwf.anew
  obtain ⟨fb, hfb⟩ : ∃ fb, fb = flagByte c0.decided := ⟨_, rfl⟩
  have hfb1 : fb.toNat ≤ 1 := by rw [hfb]; unfold flagByte; split <;> decide
  have hfb2 : ((fb.toNat : Int) == 1) = c0.decided := by rw [hfb]; unfold flagByte; cases c0.decided <;> rfl
  rw [← hfb] at hsp
  have hll : l.length = 4 + ((votesBytes l2).length + ((votesBytes l3).length + (1 + (4 + c0.value.length)))) := by
    rw [hl, hsp]; simp [four_len]; omega
  have hll2 : l.length ≤ 800000 := by rw [hl]; exact hlen
  have HLL := Lib.hid hll
  have HLL2 := Lib.hid hll2
  have HL := Lib.hid hl
  have HSP := Lib.hid hsp
  have HOK := Lib.hid hok
  have HB := Lib.hid hb
  have HR2 := Lib.hid hr2
  have HR3 := Lib.hid hr3
  have HV2 := Lib.hid hv2
  have HV3 := Lib.hid hv3
  have HS2 := Lib.hid hs2
  have HS3 := Lib.hid hs3
  have HFB := Lib.hid hfb2
  have HWA := Lib.hid hwA
  have HVAL := Lib.hid (show c0.decided = false → c0.value = [] from hwf.val)
  clear hf hk0 hwf hok hlen hsp hl2 hl3 hr2 hr3 hv2 hv3 hs2 hs3 hfb hfb2 hll hll2 hb hl hwA
  go_enter Try.func16, Try.ntmps16
  go_wp2_with (first
    | (go_at_call 11; refine (new_calls c0.n c0.me c0.slot k caps _ HOK.out).mono ?_; rintro e w1 ⟨cb, L, rfl, hcb, hmaps, hacc, hc1, hx1⟩; have hb1 := HB.out.ext hx1; have hnew := rd_new hb1; have hcl := hc1.lt; have HN := Lib.hid (show ∀ rest, RdAt w1.heap.size rest (w1.alloc (.cells #[.slice A l.length C, .bool false] 74)) → OfMid w (.func (.func k) #[] caps) cb w1.heap.size (Core.make c0.n c0.me c0.slot) L rest (w1.alloc (.cells #[.slice A l.length C, .bool false] 74)) from fun rest hr => ⟨hc1.ext (Ext.al (Ext.refl _) _), hr, fun ho => (by rcases ho with e | e; (have := hc1.lt; omega); (have := hc1.maps_lt _ e; omega)), Ext.al hx1 _, hcb, hmaps, hx1.size, hacc⟩); have HRD := Lib.hid hnew; have HX1 := Lib.hid hx1; clear HOK hc1 hx1 hb1 hnew hmaps hacc)
    | (go_at_call 42; refine (four_again w1.heap.size c0.view _ _ (HRD.out.eq (HL.out.trans HSP.out)) hw0 (by omega) (by have := HLL.out; have := HLL2.out; simp [four_len]; omega)).mono ?_; rintro e w2 ⟨rfl, hr2, ht2⟩; have hm := (HN.out _ (HRD.out.eq (HL.out.trans HSP.out))).read hr2 ht2; have e4 := hm.core.c4; have f4 := hm.core.free 4; have e8 := hm.core.c8; have hlt2 := hm.core.lt; have hm3 := hm.setView c0.view; obtain ⟨c2, hc2⟩ : ∃ c2, c2 = ({ Core.make c0.n c0.me c0.slot with view := c0.view } : Core) := ⟨_, rfl⟩; rw [← hc2] at hm3; have HC2 := Lib.hid hc2; have HM3 := Lib.hid hm3; clear HN HRD hr2 ht2 hm hm3 hc2)
    | (go_at_call 43; refine (votes_preps w1.heap.size cb c2 L l2 _ _ HM3.out.core HM3.out.rd HM3.out.apart (by have := HLL.out; have := HLL2.out; simp [four_len]; omega) HR2.out (by rw [HC2.out]; exact HV2.out) (by rw [HC2.out]; exact hw1)).mono ?_; rintro e w3 ⟨⟨_, rfl⟩, L3, hc3, hr3, hm3⟩; have hm4 := HM3.out.votes hc3 hr3 hm3; have e9 := hc3.c9; have hlt3 := hc3.lt; obtain ⟨c3, hc3e⟩ : ∃ c3, c3 = ({ c2 with preps := setAll c2.me c2.preps l2 } : Core) := ⟨_, rfl⟩; rw [← hc3e] at hm4; have HC3 := Lib.hid hc3e; have HM4 := Lib.hid hm4; clear HM3 hc3 hr3 hm3 hm4 hc3e e4 f4 e8)
    | (go_at_call 43; refine (votes_comms w1.heap.size cb c3 L3 l3 _ _ HM4.out.core HM4.out.rd HM4.out.apart (by have := HLL.out; have := HLL2.out; simp [four_len]; omega) HR3.out (by rw [HC3.out, HC2.out]; exact HV3.out) (by rw [HC3.out, HC2.out]; exact hw1)).mono ?_; rintro e w4 ⟨⟨_, rfl⟩, L4, hc4, hr4, hm4⟩; have hm5 := HM4.out.votes hc4 hr4 hm4; have hlt4 := hc4.lt; obtain ⟨c4, hc4e⟩ : ∃ c4, c4 = ({ c3 with comms := setAll c3.me c3.comms l3 } : Core) := ⟨_, rfl⟩; rw [← hc4e] at hm5; have HC4 := Lib.hid hc4e; have HM5 := Lib.hid hm5; clear HM4 hc4 hr4 hm4 hm5 hc4e e9)
    | (go_at_call 44; refine (take_one w1.heap.size fb _ _ HM5.out.rd (by have := HLL.out; have := HLL2.out; simp [four_len]; omega)).mono ?_; rintro e w5 ⟨b5, o5, C5, rfl, g5, hr5, ht5⟩; have hm6 := HM5.out.read hr5 ht5; have HM6 := Lib.hid hm6; have G5 := Lib.hid g5; clear HM5 g5 hr5 ht5 hm6)
    | (go_at_call 42; refine (four_again w1.heap.size (c0.value.length : Int) _ _ HM6.out.rd (by omega) (by omega) (by simp; omega)).mono ?_; rintro e w6 ⟨rfl, hr6, ht6⟩; have hm7 := HM6.out.read hr6 ht6; have HM7 := Lib.hid hm7; have G6 := Lib.hid (ht6.bytes _ _ G5.out); clear HM6 hr6 ht6 hm7)
    | (go_at_call 44; refine (take_again w1.heap.size c0.value [] _ HM7.out.rd (by simp; omega)).mono ?_; rintro e w7 ⟨v7, rfl, hb7, hr7, ht7⟩; obtain ⟨A7, C7, rfl, _⟩ := id hb7; have hm8 := HM7.out.read hr7 ht7; have g7 := ht7.bytes _ _ G6.out; have e16 := hm8.core.c16; have f16 := hm8.core.free 16; have e15 := hm8.core.c15; have f15 := hm8.core.free 15; have e4 := hm8.core.c4; have e9 := hm8.core.c9; have r1 := hm8.rd.flag; have rl := hm8.rd.lt; have hlt7 := hm8.core.lt; have hne5 := hm8.core.ne_byte g7; have hne5' := Ne.symm hne5; have hner : w1.heap.size ≠ cb := (by omega); have hner' : cb ≠ w1.heap.size := (by omega); have hb5l : b5 < w7.heap.size := World.block_lt_of_cell? _ _ g7; have hgt4 : decide (1048576 < c4.view) = false := (by rw [HC4.out, HC3.out, HC2.out]; simp; omega); have hgtb : decide (1 < (fb.toNat : Int)) = false := (by simp; omega); have hfbe := HFB.out; have hm9 := hm8.setValue hb7; obtain ⟨c5, hc5e⟩ : ∃ c5, c5 = ({ c4 with value := c0.value } : Core) := ⟨_, rfl⟩; rw [← hc5e] at hm9; have hm10 := hm9.setDec c0.decided; obtain ⟨c6, hc6e⟩ : ∃ c6, c6 = ({ c5 with decided := c0.decided } : Core) := ⟨_, rfl⟩; rw [← hc6e] at hm10; have HC5 := Lib.hid hc5e; have HC6 := Lib.hid hc6e; have HM10 := Lib.hid hm10; clear HM7 hb7 hr7 ht7 hm8 hm9 hm10 hc5e hc6e G5 G6)
    | (go_at_call 46; refine (keysA_calls _ _).mono ?_; rintro e w8 ⟨rfl, rfl⟩)
    | (go_at_call 45; have hm := HM10.out; obtain ⟨WM, hWM⟩ : ∃ W, W = ((w7.setCell ⟨cb, 16, none⟩ (.slice A7 c0.value.length C7)).setCell ⟨cb, 15, none⟩ (.bool c0.decided)) := ⟨_, rfl⟩; have hsz : WM.heap.size = w7.heap.size := (by rw [hWM]; simp [World.setCell]); rw [← hWM] at hm ⊢; obtain ⟨L6, hL6⟩ : ∃ L6, L6 = ({ L4 with value := .slice A7 c0.value.length C7 } : Lay) := ⟨_, rfl⟩; rw [← hL6] at hm; have hLc : L4.comms = L6.comms := (by rw [hL6]); rw [hLc]; obtain ⟨Z, hZ⟩ : ∃ Z, Z = AL.keys c6.comms := ⟨_, rfl⟩; have htw : TWf c6.comms := (by rw [HC6.out, HC5.out, HC4.out, HC3.out, HC2.out]; show TWf (setAll c0.me [] l3); rw [HS3.out]; exact HWA.out.comms); refine (sortedA_new w7.heap.size L6.comms c6.comms L6.ic _ (hm.core.ext (Ext.al (Ext.refl _) _)).comms htw (by rw [← hsz]; exact (boxed WM _ 66).2.1 0)).mono ?_; rw [← hZ]; rintro e w9 ⟨v9, rfl, hi9, hx9⟩; obtain ⟨A9, C9, rfl, _⟩ := id hi9; have hm11 := hm.ext' (Ext.trans (Ext.al (Ext.refl _) _) hx9); have HM11 := Lib.hid hm11; have HI9 := Lib.hid hi9; have HZ := Lib.hid hZ; have HTW := Lib.hid htw; have HSZ := Lib.hid hsz; clear hm HM10 hWM hL6 hLc hm11 hi9 hx9 hZ htw hsz e16 f16 e15 f15 e4 e9 r1 g7 hfbe hgt4 hgtb hne5 hne5' hner hner'))
  have hbz : (WM.alloc (.cells #[.map (some L6.comms)] 66)).heap.size = w7.heap.size + 1 := by simp [HSZ.out]
  have HI := Lib.hid (show IntsNew (w7.heap.size + 1) w9 (.slice A9 Z.length C9) Z by rw [← hbz]; exact HI9.out)
  have hzl : Z.length = c6.comms.length := by rw [HZ.out]; simp [AL.keys]
  have HZL := Lib.hid hzl
  have hzl2 : Z.length ≤ 1048577 := by rw [hzl]; exact HTW.out.keys.2
  have hlt9 := HM11.out.core.lt
  have hme : Hid (c6.me = c0.me) := Lib.hid (by rw [HC6.out, HC5.out, HC4.out, HC3.out, HC2.out]; rfl)
  clear hbz hzl
  go_loopw [91] (fun v wr => ∃ (j : Nat) (x : Value), j ≤ Z.length ∧ v = .int .i64 j ∧ CoreAt wr cb { c6 with lock := lastLock (c6.comms.take j), locked := lastLocked c6.me (c6.comms.take j) } { L6 with locked := x } ∧ IntsNew (w7.heap.size + 1) wr (.slice A9 Z.length C9) Z ∧ Ext w wr) (fun v _ => Z.length - (intOf v).toNat)
  case atStart =>
    refine ⟨0, L6.locked, Nat.zero_le _, rfl, ?_, HI.out, HM11.out.ext⟩
    have e : ({ c6 with lock := lastLock (c6.comms.take 0), locked := lastLocked c6.me (c6.comms.take 0) } : Core) = c6 := by rw [HC6.out, HC5.out, HC4.out, HC3.out, HC2.out]; rfl
    rw [e]
    exact HM11.out.core
  case round =>
    obtain ⟨j, x, hj, rfl, hcj, hij, hxj⟩ := hrel
    by_cases hlt : j < Z.length
    · obtain ⟨bb, oo, hA, hcell⟩ := hij.at hlt
      subst hA
      have hjm : j < c6.comms.length := by rw [← HZL.out]; exact hlt
      have hsucc := last_succ hjm HTW.out.1 c6.me
      rw [← HZ.out, hme.out] at hsucc
      obtain ⟨zj, hzj⟩ : ∃ z, z = Z.getD j 0 := ⟨_, rfl⟩
      rw [← hzj] at hcell hsucc
      have ho : ∀ w', w'.heap[L6.comms]? = wr.heap[L6.comms]? → (Instr.lookup 66 (.map (some L6.comms)) (.int .i64 zj) false).run Try.prog w' = .ok (.map (AL.get? L6.ic zj)) w' := outer_look hcj.comms zj
      obtain ⟨xk, ik, hik, _, hlk, hxk⟩ := told_look2 hcj.comms zj c0.me
      have hlk' : ∀ w', w'.heap[ik]? = wr.heap[ik]? → (Instr.lookup 69 (.map (AL.get? L6.ic zj)) (.int .i64 c0.me) false).run Try.prog w' = .ok xk w' := hlk
      obtain ⟨Ax, Cx, rfl, _⟩ := id hxk
      have e13 := hcj.c13
      have f13 := hcj.free 13
      have e14 := hcj.c14
      have f14 := hcj.free 14
      have d9 : wr.cell? ⟨cb, 9, none⟩ = some (.map (some L6.comms)) := hcj.c9
      have hltc := hcj.lt
      have hlc := lock_cells hcj zj hxk
      have HLC := Lib.hid hlc
      have HIJ := Lib.hid hij
      have HXJ := Lib.hid hxj
      have HSU := Lib.hid hsucc
      clear hlc hij hxj hsucc hzj hcj hlk hxk hjm
      go_wp2
      refine ⟨⟨j + 1, .slice Ax ((AL.get? (inner c6.comms zj) c0.me).getD []).length Cx, by omega, by go_num, ?_, HIJ.out.turn HLC.out.2 (fun b hb e => by omega), HXJ.out.turn HLC.out.2 (fun b e => by omega)⟩, by simp [intOf]; omega⟩
      have e2 : lastLocked c6.me (c6.comms.take (j + 1)) = (AL.get? (inner c6.comms zj) c0.me).getD [] := by rw [hme.out]; exact HSU.out.2
      rw [HSU.out.1, e2]
      exact HLC.out.1
    · have hjz : j = Z.length := by omega
      subst hjz
      have hcore : CoreAt wr cb c0.anew { L6 with locked := x } := by
        have e : ({ c6 with lock := lastLock (c6.comms.take Z.length), locked := lastLocked c6.me (c6.comms.take Z.length) } : Core) = c0.anew := by
          have ec : c6.comms = c0.anew.comms := by rw [HC6.out, HC5.out, HC4.out, HC3.out, HC2.out]; exact HS3.out
          have ep : c6.preps = c0.anew.preps := by rw [HC6.out, HC5.out, HC4.out, HC3.out, HC2.out]; exact HS2.out
          rw [HZL.out, List.take_length, hme.out, ec]
          refine core_ext ?_ ?_ ?_ ?_ ?_ ?_ ?_ ep rfl ?_ ?_ ?_ rfl rfl ?_ ?_
          all_goals (rw [HC6.out, HC5.out, HC4.out, HC3.out, HC2.out])
          all_goals first | rfl | skip
          show c0.value = if c0.decided then c0.value else []
          have := HVAL.out
          cases hd : c0.decided with
          | true => rfl
          | false => exact this hd
        rw [← e]; exact hcj
      have HCO := Lib.hid hcore
      have HXJ := Lib.hid hxj
      have hbl := anew_bytes c0
      have HBL := Lib.hid hbl
      clear hcj hij hxj hcore hbl
      go_wp2_with (first
        | (go_at_call 17; refine (bytes_calls cb c0.anew _ _ HCO.out HWA.out (by rw [HBL.out, ← HL.out]; have := HLL2.out; omega)).mono ?_; rintro e w11 ⟨v11, rfl, hb11, hx11⟩; have HB11 := Lib.hid hb11; have HX11 := Lib.hid hx11; clear hb11 hx11)
        | (go_at_call 47; refine (equal_calls _ _ c0.anew.bytes l _ HB11.out (HB.out.ext (Ext.trans HXJ.out HX11.out))).mono ?_; rw [show (c0.anew.bytes == l) = true from by rw [HBL.out, ← HL.out]; simp]; rintro e w12 ⟨rfl, rfl⟩))
      go_ret2
      exact ⟨cb, { L6 with locked := x }, rfl, hcb, HM11.out.maps, HM11.out.acc, HCO.out.ext HX11.out, Ext.trans HXJ.out HX11.out⟩
end Go.Proofs.Ytkpllkjionegeaa

/- Walks: the same votes, told otherwise (votesAlike). -/
namespace Go.Proofs.Ytkpllkjionegeaa
open Go Go.RowKit

/-- the value v reads as these votes -/
def VotesAt (w : World) (v : Value) (l : List Vote) : Prop :=
  ∃ A C, v = .slice A l.length C ∧ ∀ i (h : i < l.length), ∃ g A' C', A = some ⟨g, 0, none⟩ ∧ (∀ t, t < 6 → w.cell? ⟨g, i * 6 + t, none⟩ = (voteCells l[i] (.slice A' l[i].value.length C'))[t]?) ∧ BytesAt w (.slice A' l[i].value.length C') l[i].value

theorem VotesOwn.votes {B : Nat} {w : World} {v : Value} {l : List Vote} (h : VotesOwn B w v l) : VotesAt w v l := by
  obtain ⟨A, C, rfl⟩ := h.slice
  refine ⟨A, C, rfl, fun i hi => ?_⟩
  obtain ⟨g, A', C', h1, _, h2, h3⟩ := h.get hi
  exact ⟨g, A', C', h1, h2, bytes_of_own h3⟩

theorem VotesAt.slice {w : World} {v : Value} {l : List Vote} (h : VotesAt w v l) : ∃ A C, v = .slice A l.length C := by
  obtain ⟨A, C, h1, _⟩ := h
  exact ⟨A, C, h1⟩

theorem same_self (a : Vote) : sameVote a a = true := (sameVote_iff a a).2 rfl

theorem VotesAt.ext {w w' : World} {v : Value} {l : List Vote} (h : VotesAt w v l) (hx : Ext w w') : VotesAt w' v l := by
  obtain ⟨A, C, h1, h2⟩ := h
  refine ⟨A, C, h1, fun i hi => ?_⟩
  obtain ⟨g, A', C', h3, h4, h5⟩ := h2 i hi
  refine ⟨g, A', C', h3, fun t ht => ?_, h5.ext hx⟩
  rw [← h4 t ht]
  have hs : ∃ u, w.cell? ⟨g, i * 6 + t, none⟩ = some u := by
    rw [h4 t ht]
    have : t < (voteCells l[i] (.slice A' l[i].value.length C')).size := by simp [voteCells]; omega
    exact ⟨_, Array.getElem?_eq_getElem this⟩
  obtain ⟨u, hu⟩ := hs
  rw [hu]
  exact hx.at hu

theorem VotesAt.at {w : World} {A : Option Addr} {n C : Nat} {l : List Vote} (h : VotesAt w (.slice A n C) l) {i : Nat} (hi : i < l.length) :
    ∃ g A' C', A = some ⟨g, 0, none⟩ ∧ w.cell? ⟨g, i * 6, none⟩ = some (.int .i64 l[i].kind) ∧ w.cell? ⟨g, i * 6 + 1, none⟩ = some (.int .i64 l[i].frm) ∧ w.cell? ⟨g, i * 6 + 2, none⟩ = some (.int .i64 l[i].slot) ∧
      w.cell? ⟨g, i * 6 + 3, none⟩ = some (.int .i64 l[i].view) ∧ w.cell? ⟨g, i * 6 + 4, none⟩ = some (.int .i64 l[i].valid) ∧ w.cell? ⟨g, i * 6 + 5, none⟩ = some (.slice A' l[i].value.length C') ∧ BytesAt w (.slice A' l[i].value.length C') l[i].value := by
  obtain ⟨A0, C0, h1, h2⟩ := h
  cases h1
  obtain ⟨g, A', C', h3, h4, h5⟩ := h2 i hi
  exact ⟨g, A', C', h3, h4 0 (by omega), h4 1 (by omega), h4 2 (by omega), h4 3 (by omega), h4 4 (by omega), h4 5 (by omega), h5⟩

/-- the value asV is a function that tells a vote otherwise; Cs: the blocks that it looks at -/
structure AsFn (w : World) (asV : Value) (asF : Vote → Vote) (Cs : List Nat) (k : FuncId) (caps : Array Value) : Prop where
  val : asV = .func (.func k) #[] caps
  lt : ∀ b ∈ Cs, b < w.heap.size
  ent : ∀ args w, (callFunc k args).run Try.prog w = .ok (.enter k args) w
  calls : ∀ w', w.heap.size ≤ w'.heap.size → (∀ b ∈ Cs, w'.heap[b]? = w.heap[b]?) → ∀ v A c, VoteIn v → v.value.length ≤ 4096 → BytesAt w' (.slice A v.value.length c) v.value →
    Calls Try.prog k (#[.agg (voteCells v (.slice A v.value.length c))] ++ caps) w' (fun e w'' => ∃ A' c', e = .returned (.agg (voteCells (asF v) (.slice A' (asF v).value.length c'))) ∧ BytesAt w'' (.slice A' (asF v).value.length c') (asF v).value ∧ Ext w' w'')

theorem AsFn.turn {S : Nat → Prop} {w w' : World} {asV : Value} {asF : Vote → Vote} {C : List Nat} {k : FuncId} {caps : Array Value} (h : AsFn w asV asF C k caps) (ht : Turn S w w') (hs : ∀ b ∈ C, ¬ S b) : AsFn w' asV asF C k caps :=
  ⟨h.val, fun b hb => Nat.lt_of_lt_of_le (h.lt b hb) ht.size, h.ent, fun w2 hsz hk => h.calls w2 (Nat.le_trans ht.size hsz) (fun b hb => (hk b hb).trans (ht.block b (h.lt b hb) (hs b hb)))⟩

theorem AsFn.ext {w w' : World} {asV : Value} {asF : Vote → Vote} {C : List Nat} {k : FuncId} {caps : Array Value} (h : AsFn w asV asF C k caps) (hx : Ext w w') : AsFn w' asV asF C k caps :=
  h.turn (Turn.of_ext (S := fun _ => False) hx) (fun _ _ h => h)

theorem AsFn.call {w : World} {asV : Value} {asF : Vote → Vote} {C : List Nat} {k : FuncId} {caps : Array Value} (h : AsFn w asV asF C k caps) {v : Vote} {A : Option Addr} {c : Nat} (hi : VoteIn v) (hl : v.value.length ≤ 4096) (hv : BytesAt w (.slice A v.value.length c) v.value) :
    Calls Try.prog k (#[.agg (voteCells v (.slice A v.value.length c))] ++ caps) w (fun e w'' => ∃ A' c', e = .returned (.agg (voteCells (asF v) (.slice A' (asF v).value.length c'))) ∧ BytesAt w'' (.slice A' (asF v).value.length c') (asF v).value ∧ Ext w w'') :=
  h.calls w (Nat.le_refl _) (fun _ _ => rfl) v A c hi hl hv

theorem AsAt.fn {w : World} {asV : Value} {asF : Vote → Vote} {C : List Nat} {k : FuncId} {caps : Array Value} (h : AsAt w asV asF C k caps) : AsFn w asV asF C k caps :=
  ⟨h.val, h.lt, h.ent, fun w' hs hk v A c hi hl hv => (h.calls w' hs hk v A v.value.length c).mono fun e w'' ⟨he, hx⟩ => ⟨A, c, by rw [h.same v]; exact he, by rw [h.same v]; exact hv.ext hx, hx⟩⟩

set_option maxRecDepth 100000 in
set_option maxHeartbeats 2000000 in
theorem alike_calls (l m : List Vote) (v v' asV : Value) (asF : Vote → Vote) (Cs : List Nat) (k : FuncId) (caps : Array Value) (w : World) (hl : VotesAt w v l) (hm : VotesAt w v' m) (ha : AsFn w asV asF Cs k caps)
    (he : l.map asF = m) (hin : ∀ x ∈ l, VoteIn x ∧ x.value.length ≤ 4096) (hlen : l.length ≤ 10000000) :
    Calls Try.prog 26 #[v, v', asV] w (GivesBool true w) := by
  obtain rfl := ha.val
  obtain ⟨A, C, rfl⟩ := hl.slice
  obtain ⟨A', C', rfl⟩ := hm.slice
  have hent := ha.ent
  have hml : m.length = l.length := by rw [← he]; simp
  have hmg : ∀ i (h : i < l.length) (h' : i < m.length), m[i] = asF l[i] := fun i h h' => by simp [← he]
  rw [hml]
  rw [hml] at hm
  have HML := Lib.hid hml
  have HMG := Lib.hid hmg
  have HL := Lib.hid hl
  have HM := Lib.hid hm
  have HA := Lib.hid ha
  have HIN := Lib.hid hin
  clear hl hm ha he hin hml hmg
  go_enter Try.func26, Try.ntmps26
  go_wp2
  go_loopw [16] (fun u wr => ∃ i : Nat, i ≤ l.length ∧ u = .int .i64 i ∧ Ext w wr) (fun u _ => l.length - (intOf u).toNat)
  case atStart => exact ⟨0, Nat.zero_le _, rfl, Ext.refl _⟩
  case round =>
    obtain ⟨i, hi, rfl, hxr⟩ := hrel
    by_cases hlt : i < l.length
    · obtain ⟨g, A1, C1, rfl, x0, x1, x2, x3, x4, x5, hb⟩ := (HL.out.ext hxr).at hlt
      obtain ⟨g', A2, C2, rfl, z0, z1, z2, z3, z4, z5, hb'⟩ := (HM.out.ext hxr).at (i := i) (by have := HML.out; omega)
      have hme := HMG.out i hlt (by have := HML.out; omega)
      rw [hme] at z0 z1 z2 z3 z4 z5 hb'
      have hinv := HIN.out l[i] (List.getElem_mem hlt)
      obtain ⟨vt, hvt⟩ : ∃ vt, vt = l[i] := ⟨_, rfl⟩
      rw [← hvt] at x0 x1 x2 x3 x4 x5 z0 z1 z2 z3 z4 z5 hb hb' hinv
      have hgl : g < wr.heap.size := World.block_lt_of_cell? wr _ x0
      have hgl' : g' < wr.heap.size := World.block_lt_of_cell? wr _ z0
      have HXR := Lib.hid hxr
      have HB := Lib.hid hb
      have HB' := Lib.hid hb'
      have HI := Lib.hid hinv
      clear hxr hb hb' hme hinv hvt
      go_wp2
      have hbx := boxed wr #[.int .i64 vt.kind, .int .i64 vt.frm, .int .i64 vt.slot, .int .i64 vt.view, .int .i64 vt.valid, .slice A1 vt.value.length C1] 28
      obtain ⟨W, hW⟩ : ∃ W, W = wr.alloc (Obj.cells #[.int .i64 vt.kind, .int .i64 vt.frm, .int .i64 vt.slot, .int .i64 vt.view, .int .i64 vt.valid, .slice A1 vt.value.length C1] 28) := ⟨_, rfl⟩
      rw [← hW] at hbx ⊢
      obtain ⟨hxT, hcT, hsT⟩ := hbx
      have y0 : W.cell? ⟨wr.heap.size, 0, none⟩ = some (.int .i64 vt.kind) := hcT 0
      have y1 : W.cell? ⟨wr.heap.size, 1, none⟩ = some (.int .i64 vt.frm) := hcT 1
      have y2 : W.cell? ⟨wr.heap.size, 2, none⟩ = some (.int .i64 vt.slot) := hcT 2
      have y3 : W.cell? ⟨wr.heap.size, 3, none⟩ = some (.int .i64 vt.view) := hcT 3
      have y4 : W.cell? ⟨wr.heap.size, 4, none⟩ = some (.int .i64 vt.valid) := hcT 4
      have y5 : W.cell? ⟨wr.heap.size, 5, none⟩ = some (.slice A1 vt.value.length C1) := hcT 5
      have hTl : wr.heap.size < W.heap.size := by omega
      have hgW : g' < W.heap.size := by omega
      have z0 := hxT.at z0
      have z1 := hxT.at z1
      have z2 := hxT.at z2
      have z3 := hxT.at z3
      have z4 := hxT.at z4
      have z5 := hxT.at z5
      have HXT := Lib.hid hxT
      have HWE := Lib.hid hW
      clear hxT hcT hsT hW x0 x1 x2 x3 x4 x5
      refine wp_region_T [] (.pure 0 (.pure 3 (.pure 4 (.pure 5 (.take 1 (.take 6 (.one 2 (.one 7 (.pure 8 .nil))))))))) (by kernel_rfl) (by kernel_rfl) ?_
      iterate 4 (refine' wpT_pure rfl rfl (fun w' => ?_) ?_; rotate_left 1; (focus ((try go_simp); (try go_bits); (first | done | with_reducible rfl))); simp only [Act.put, List.setIfInBounds_toArray, List.set_cons_zero, List.set_cons_succ])
      iterate 2 (first | (refine' wpT_take_dddd rfl rfl (fun w' hc hl hsz => ?_) ?_; rotate_left 1; (focus ((try go_simp); (try go_bits); (first | done | with_reducible rfl))); simp only [Act.put, List.setIfInBounds_toArray, List.set_cons_zero, List.set_cons_succ]) | (refine' wpT_take_ddd rfl rfl (fun w' hc hl hsz => ?_) ?_; rotate_left 1; (focus ((try go_simp); (try go_bits); (first | done | with_reducible rfl))); simp only [Act.put, List.setIfInBounds_toArray, List.set_cons_zero, List.set_cons_succ]) | (refine' wpT_take_dd rfl rfl (fun w' hc hl hsz => ?_) ?_; rotate_left 1; (focus ((try go_simp); (try go_bits); (first | done | with_reducible rfl))); simp only [Act.put, List.setIfInBounds_toArray, List.set_cons_zero, List.set_cons_succ]) | (refine' wpT_take_d rfl rfl (fun w' hc hl hsz => ?_) ?_; rotate_left 1; (focus ((try go_simp); (try go_bits); (first | done | with_reducible rfl))); simp only [Act.put, List.setIfInBounds_toArray, List.set_cons_zero, List.set_cons_succ]))
      refine wpT_one rfl rfl (fun K hK => ?_)
      go_simp
      refine ((HA.out.ext (Ext.trans HXR.out (Ext.trans HXT.out (Ext.refl W).dr))).call HI.out.1 HI.out.2 (HB.out.ext (Ext.trans HXT.out (Ext.refl W).dr))).mono ?_
      rintro e w2 ⟨A3, c3, rfl, hb3, he2⟩
      go_wp2
      refine hK _ _ he2 ?_
      clear hK K
      refine wpT_one rfl rfl (fun K hK => ?_)
      go_wp2_with (go_at_call 38; refine (same_calls (asF vt) (asF vt) _ _ _ _ _ hb3 (HB'.out.ext (Ext.trans HXT.out (Ext.undrew he2)))).mono ?_; rw [same_self]; rintro e w3 ⟨rfl, he3⟩)
      refine hK _ _ he3 ?_
      clear hK K
      (refine' wpT_pure rfl rfl (fun w' => ?_) ?_; rotate_left 1; (focus ((try go_simp); (try go_bits); (first | done | with_reducible rfl))); simp only [Act.put, List.setIfInBounds_toArray, List.set_cons_zero, List.set_cons_succ])
      refine wpT_nil ?_
      go_wp2
      exact ⟨⟨i + 1, by omega, by go_num, Ext.trans HXR.out (Ext.trans HXT.out (Ext.trans (Ext.undrew he2) he3))⟩, by simp [intOf]; omega⟩
    · go_wp2
      go_ret
      exact ⟨rfl, hxr⟩
end Go.Proofs.Ytkpllkjionegeaa

/- Walks: two cores alike (coresAlike). -/
namespace Go.Proofs.Ytkpllkjionegeaa
open Go Go.RowKit

theorem info3' : (Try.prog.info? 3).map (fun i => (i.zero, i.size, i.bytes)) = some (some (.int .i64 0), 1, 8) := by kernel_rfl
theorem equal_int (d : Nat) (a : Int) (w : World) : (Op.equalIn (d + 1) 3 (.int .i64 a) (.int .i64 a)).run Try.prog w = .ok true w := by
  simp [Op.equalIn, run_underlying Try.underlying3]
theorem grown_items (d : Nat) (a b c : Int) (w : World) : (Op.eqItems (d + 1) 3 1 #[.int .i64 a, .int .i64 b, .int .i64 c] #[.int .i64 a, .int .i64 b, .int .i64 c] (List.range 3)).run Try.prog w = .ok true w := by
  have e : List.range 3 = [0, 1, 2] := rfl
  have hp : ∀ (i : Nat) (x : Value), (#[Value.int .i64 a, .int .i64 b, .int .i64 c])[i]? = some x → (part 3 #[.int .i64 a, .int .i64 b, .int .i64 c] i).run Try.prog w = .ok x w := fun i x hx => by
    simp [part, hx, go_sem]
  have h0 := hp 0 (.int .i64 a) rfl
  have h1 := hp 1 (.int .i64 b) rfl
  have h2 := hp 2 (.int .i64 c) rfl
  rw [e]
  simp [Op.eqItems, h0, h1, h2, equal_int]
theorem grown_eql (a b c : Int) (w : World) : (binOp .eql 62 (.agg #[.int .i64 a, .int .i64 b, .int .i64 c]) (.agg #[.int .i64 a, .int .i64 b, .int .i64 c])).run Try.prog w = .ok (.bool true) w := by
  obtain ⟨i0, hi, hz0, hz1, hz2⟩ := info_parts info3'
  have hc : Try.prog.cellsOf 3 = 1 := by kernel_rfl
  have := run_equalIn_array (P := Try.prog) w 9999 (n := 3) #[.int .i64 a, .int .i64 b, .int .i64 c] #[.int .i64 a, .int .i64 b, .int .i64 c] Try.underlying62 hi
  rw [hc, grown_items 9998] at this
  simp only [binOp, Op.equal, Op.maxDepth, Sem.run_bind]
  rw [this]
  simp

theorem BytesAt.conv {w : World} {v : Value} {l : Bytes} (h : BytesAt w v l) (hpos : 0 < w.heap.size) : ∃ b, b < w.heap.size ∧ ∀ w', w'.heap[b]? = w.heap[b]? → (convert 26 9 v).run Try.prog w' = .ok (.string ⟨l.toArray⟩) w' := by
  obtain ⟨A, C, rfl, h1, h2⟩ := id h
  by_cases hl : l = []
  · subst hl
    exact ⟨0, hpos, fun w' _ => BytesAt.string (l := []) ⟨A, C, rfl, h1, fun e => absurd rfl e⟩⟩
  · obtain ⟨b, o, rfl, hc⟩ := h2 hl
    have hb : b < w.heap.size := World.block_lt_of_cell? w _ (hc 0 (by cases l with | nil => exact absurd rfl hl | cons x r => simp))
    refine ⟨b, hb, fun w' hw => BytesAt.string ⟨some ⟨b, o, none⟩, C, rfl, h1, fun _ => ⟨b, o, rfl, fun i hi => ?_⟩⟩⟩
    rw [World.cell?_of_block (a := ⟨b, o + i, none⟩) hw]
    exact hc i hi

theorem says_in {c : Core} (hw : Wf c) (hl : c.n ≤ 64) : (∀ x ∈ c.says, VoteIn x ∧ x.value.length ≤ 4096) ∧ c.says.length ≤ 10000000 := by
  have hm : ∀ (kind : Int) (m : AL Told), TWf m → (1 ≤ kind ∧ kind ≤ 5) → ∀ x ∈ c.mine kind m, VoteIn x ∧ x.value.length ≤ 4096 := fun kind m hm hk x hx => by
    unfold Core.mine at hx
    obtain ⟨p, hp, e⟩ := List.mem_filterMap.1 hx
    obtain ⟨v, hv, rfl⟩ := Option.map_eq_some_iff.1 e
    have h1 := hm.2 p.1 p.2 (AL.get?_of_mem hm.1 hp)
    have h2 := hw.me1; have h3 := hw.men; have h4 := hw.s0; have h5 := hw.s1
    have h6 := h1.1
    exact ⟨⟨⟨by show _ ≤ kind; omega, by show kind ≤ _; omega⟩, ⟨by show _ ≤ c.me; omega, by show c.me ≤ _; omega⟩, ⟨by show _ ≤ c.slot; omega, by show c.slot ≤ _; omega⟩, ⟨by show _ ≤ p.1; omega, by show p.1 ≤ _; omega⟩, ⟨by show _ ≤ (-1 : Int); omega, by show (-1 : Int) ≤ _; omega⟩⟩, (h1.2.2 _ v hv).2⟩
  have h2 := hw.me1; have h3 := hw.men; have h4 := hw.s0; have h5 := hw.s1; have h6 := hw.v0; have h7 := hw.v1
  constructor
  · intro x hx
    unfold Core.says at hx
    simp only [List.mem_append] at hx
    rcases hx with ((hx | hx) | hx) | hx
    · split at hx
      · simp only [List.mem_singleton] at hx; subst hx
        exact ⟨⟨⟨by show _ ≤ (4 : Int); omega, by show (4 : Int) ≤ _; omega⟩, ⟨by show _ ≤ c.me; omega, by show c.me ≤ _; omega⟩, ⟨by show _ ≤ c.slot; omega, by show c.slot ≤ _; omega⟩, ⟨by show _ ≤ (0 : Int); omega, by show (0 : Int) ≤ _; omega⟩, ⟨by show _ ≤ (-1 : Int); omega, by show (-1 : Int) ≤ _; omega⟩⟩, hw.valueL⟩
      · simp only [List.mem_singleton] at hx; subst hx
        exact ⟨⟨⟨by show _ ≤ (5 : Int); omega, by show (5 : Int) ≤ _; omega⟩, ⟨by show _ ≤ c.me; omega, by show c.me ≤ _; omega⟩, ⟨by show _ ≤ c.slot; omega, by show c.slot ≤ _; omega⟩, ⟨by show _ ≤ c.view; omega, by show c.view ≤ _; omega⟩, ⟨by show _ ≤ (-1 : Int); omega, by show (-1 : Int) ≤ _; omega⟩⟩, by simp⟩
    · split at hx
      · rename_i p hp
        split at hx
        · simp only [List.mem_singleton] at hx; subst hx
          have h8 := hw.props _ p hp
          exact ⟨⟨⟨by show _ ≤ (1 : Int); omega, by show (1 : Int) ≤ _; omega⟩, ⟨by show _ ≤ c.me; omega, by show c.me ≤ _; omega⟩, ⟨by show _ ≤ c.slot; omega, by show c.slot ≤ _; omega⟩, ⟨by show _ ≤ c.view; omega, by show c.view ≤ _; omega⟩, ⟨by show _ ≤ p.2; omega, by show p.2 ≤ _; omega⟩⟩, h8.2.1⟩
        · cases hx
      · cases hx
    · exact hm 2 _ hw.preps (by omega) x hx
    · exact hm 3 _ hw.comms (by omega) x hx
  · have e1 := Nat.le_trans (mine_len c 2 c.preps) hw.preps.keys.2
    have e2 := Nat.le_trans (mine_len c 3 c.comms) hw.comms.keys.2
    unfold Core.says
    simp only [List.length_append]
    have e3 : ∀ (b : Bool) (x y : Vote), (if b = true then [x] else [y]).length = 1 := fun b x y => by cases b <;> rfl
    rw [e3]
    have e5 : ∀ (b : Bool) (x : Vote), (if b = true then [x] else []).length ≤ 1 := fun b x => by cases b <;> simp
    cases AL.get? c.props c.view with
    | none => simp; omega
    | some p =>
      simp only
      have := e5 (!c.decided && c.proposer c.view == c.me) { kind := 1, frm := c.me, slot := c.slot, view := c.view, valid := p.2, value := p.1 }
      omega

/-- what two cores that are alike have -/
structure Alike (asF : Vote → Vote) (c d : Core) : Prop where
  maybe : (if d.decided then some d.value else none) = (if c.decided then some c.value else none)
  view : d.view = c.view
  grown : d.grown = c.grown
  bytes : d.bytes = c.bytes
  says : c.says.map asF = d.says

set_option maxRecDepth 100000 in
set_option maxHeartbeats 4000000 in
theorem cores_calls (cb db : Nat) (c d : Core) (L M : Lay) (asV : Value) (asF : Vote → Vote) (Cs : List Nat) (k : FuncId) (caps : Array Value) (w : World) (hc : CoreAt w cb c L) (hd : CoreAt w db d M) (hwc : Wf c) (hwd : Wf d) (ha : AsFn w asV asF Cs k caps)
    (he : Alike asF c d) (hb : c.bytes.length ≤ 1000000) :
    Calls Try.prog 18 #[.pointer (some ⟨cb, 0, none⟩), .pointer (some ⟨db, 0, none⟩), asV] w (GivesBool true w) := by
  have hpos : 0 < w.heap.size := by have := hc.lt; omega
  obtain ⟨om, hom⟩ : ∃ om, om = (if c.decided then some c.value else none) := ⟨_, rfl⟩
  have HC := Lib.hid hc
  have HD := Lib.hid hd
  have HWC := Lib.hid hwc
  have HWD := Lib.hid hwd
  have HA := Lib.hid ha
  have HE := Lib.hid he
  have HB := Lib.hid hb
  have HOM := Lib.hid hom
  have hgr : ∀ w', (binOp .eql 62 (.agg #[.int .i64 c.grown.1, .int .i64 c.grown.2.1, .int .i64 c.grown.2.2]) (.agg #[.int .i64 c.grown.1, .int .i64 c.grown.2.1, .int .i64 c.grown.2.2])).run Try.prog w' = .ok (.bool true) w' := fun w' => grown_eql _ _ _ w'
  have hsa : ((⟨(om.getD []).toArray⟩ : ByteArray) == ⟨(om.getD []).toArray⟩) = true := by rw [string_beq]; simp
  have hsb : ((⟨c.bytes.toArray⟩ : ByteArray) == ⟨c.bytes.toArray⟩) = true := by rw [string_beq]; simp
  have tok1 : True := trivial
  clear hc hd hwc hwd ha he hb hom
  go_enter Try.func18, Try.ntmps18
  go_wp2_with (first
    | (go_at_call 50; clear tok1; refine (decided_calls cb c L _ HC.out HWC.out).mono ?_; rw [← HOM.out]; rintro e w1 ⟨v1, rfl, hb1, hx1⟩; have HB1 := Lib.hid hb1; have HX1 := Lib.hid hx1; clear hb1 hx1)
    | (go_at_call 50; refine (decided_calls db d M _ (HD.out.ext HX1.out) HWD.out).mono ?_; rw [HE.out.maybe, ← HOM.out]; rintro e w2 ⟨v2, rfl, hb2, hx2⟩; have HB2 := Lib.hid hb2; have HX2 := Lib.hid hx2; clear hb2 hx2))
  have hx02 := Ext.trans HX1.out HX2.out
  have hpos2 : 0 < w2.heap.size := by have := hx02.size; omega
  obtain ⟨b1, hbl1, hcv1⟩ := (HB1.out.ext HX2.out).conv hpos2
  obtain ⟨b2, hbl2, hcv2⟩ := HB2.out.conv hpos2
  have HX := Lib.hid hx02
  clear hx02
  have hbb : (om.isSome == om.isSome) = true := by simp
  have hvv : (c.view == c.view) = true := by simp
  refine wp_region_T [] (.pure 0 (.pure 1 (.pure 2 (.pure 3 (.pure 4 (.pure 6 (.take 5 (.take 7 (.pure 8 (.pure 9 (.pure 10 (.pure 11 (.pure 13 (.one 12 (.one 14 (.pure 15 (.pure 16 (.pure 17 (.pure 18 (.pure 20 (.one 19 (.one 21 (.pure 22 (.pure 23 (.pure 24 (.pure 25 (.pure 28 (.one 26 (.take 27 (.one 29 (.take 30 (.pure 31 (.pure 32 (.pure 33 (.pure 34 (.pure 36 (.pure 38 (.one 35 (.one 37 (.one 39 (.pure 40 (.pure 41 .nil)))))))))))))))))))))))))))))))))))))))))) (by kernel_rfl) (by kernel_rfl) ?_
  iterate 4 (refine' wpT_pure rfl rfl (fun w' => ?_) ?_; rotate_left 1; (focus ((try go_simp); (try go_bits); (first | done | with_reducible rfl))); simp only [Act.put, List.setIfInBounds_toArray, List.set_cons_zero, List.set_cons_succ])
  iterate 2 (first | (refine' wpT_pure_on rfl rfl (fun w' => ?_) ?_; rotate_left 1; (focus ((try go_simp); (try go_bits); (first | done | with_reducible rfl))); simp only [Act.put, List.setIfInBounds_toArray, List.set_cons_zero, List.set_cons_succ]) | (refine wpT_pure_off rfl rfl ?_; simp only [Act.put, List.setIfInBounds_toArray, List.set_cons_zero, List.set_cons_succ]))
  iterate 2 (first | (refine' wpT_take_on_dddd rfl rfl (fun w' hc hl hsz => ?_) ?_; rotate_left 1; (focus ((try go_simp); (try go_bits); (first | done | with_reducible rfl))); simp only [Act.put, List.setIfInBounds_toArray, List.set_cons_zero, List.set_cons_succ]) | (refine' wpT_take_on_ddd rfl rfl (fun w' hc hl hsz => ?_) ?_; rotate_left 1; (focus ((try go_simp); (try go_bits); (first | done | with_reducible rfl))); simp only [Act.put, List.setIfInBounds_toArray, List.set_cons_zero, List.set_cons_succ]) | (refine' wpT_take_on_dd rfl rfl (fun w' hc hl hsz => ?_) ?_; rotate_left 1; (focus ((try go_simp); (try go_bits); (first | done | with_reducible rfl))); simp only [Act.put, List.setIfInBounds_toArray, List.set_cons_zero, List.set_cons_succ]) | (refine' wpT_take_on_d rfl rfl (fun w' hc hl hsz => ?_) ?_; rotate_left 1; (focus ((try go_simp); (try go_bits); (first | done | with_reducible rfl))); simp only [Act.put, List.setIfInBounds_toArray, List.set_cons_zero, List.set_cons_succ]) | (refine wpT_take_off rfl rfl ?_; simp only [Act.put, List.setIfInBounds_toArray, List.set_cons_zero, List.set_cons_succ]))
  first | (refine' wpT_pure_on rfl rfl (fun w' => ?_) ?_; rotate_left 1; (focus ((try go_simp); (try go_bits); (first | done | with_reducible rfl))); simp only [Act.put, List.setIfInBounds_toArray, List.set_cons_zero, List.set_cons_succ]) | (refine wpT_pure_off rfl rfl ?_; simp only [Act.put, List.setIfInBounds_toArray, List.set_cons_zero, List.set_cons_succ])
  iterate 2 (refine' wpT_pure rfl rfl (fun w' => ?_) ?_; rotate_left 1; (focus ((try go_simp); (try go_bits); (first | done | with_reducible rfl))); simp only [Act.put, List.setIfInBounds_toArray, List.set_cons_zero, List.set_cons_succ])
  iterate 2 (first | (refine' wpT_pure_on rfl rfl (fun w' => ?_) ?_; rotate_left 1; (focus ((try go_simp); (try go_bits); (first | done | with_reducible rfl))); simp only [Act.put, List.setIfInBounds_toArray, List.set_cons_zero, List.set_cons_succ]) | (refine wpT_pure_off rfl rfl ?_; simp only [Act.put, List.setIfInBounds_toArray, List.set_cons_zero, List.set_cons_succ]))
  refine wpT_one_on rfl rfl (fun K hK => ?_)
  go_wp2_with (go_at_call 51; refine (view_calls cb c L _ (HC.out.ext (Ext.trans HX.out (Ext.refl w2).dr))).mono ?_; rintro e wa ⟨rfl, rfl⟩)
  refine hK _ _ (Ext.refl _) ?_
  clear hK K
  refine wpT_one_on rfl rfl (fun K hK => ?_)
  go_wp2_with (go_at_call 51; refine (view_calls db d M _ (HD.out.ext (Ext.trans HX.out (Ext.refl w2).dr))).mono ?_; rw [HE.out.view]; rintro e wb ⟨rfl, rfl⟩)
  refine hK _ _ (Ext.refl _) ?_
  clear hK K
  first | (refine' wpT_pure_on rfl rfl (fun w' => ?_) ?_; rotate_left 1; (focus ((try go_simp); (try go_bits); (first | done | with_reducible rfl))); simp only [Act.put, List.setIfInBounds_toArray, List.set_cons_zero, List.set_cons_succ]) | (refine wpT_pure_off rfl rfl ?_; simp only [Act.put, List.setIfInBounds_toArray, List.set_cons_zero, List.set_cons_succ])
  iterate 2 (refine' wpT_pure rfl rfl (fun w' => ?_) ?_; rotate_left 1; (focus ((try go_simp); (try go_bits); (first | done | with_reducible rfl))); simp only [Act.put, List.setIfInBounds_toArray, List.set_cons_zero, List.set_cons_succ])
  iterate 2 (first | (refine' wpT_pure_on rfl rfl (fun w' => ?_) ?_; rotate_left 1; (focus ((try go_simp); (try go_bits); (first | done | with_reducible rfl))); simp only [Act.put, List.setIfInBounds_toArray, List.set_cons_zero, List.set_cons_succ]) | (refine wpT_pure_off rfl rfl ?_; simp only [Act.put, List.setIfInBounds_toArray, List.set_cons_zero, List.set_cons_succ]))
  refine wpT_one_on rfl rfl (fun K hK => ?_)
  go_wp2_with (go_at_call 37; refine (grown_calls cb c L _ (HC.out.ext (Ext.trans HX.out (Ext.refl w2).dr)) HWC.out).mono ?_; rintro e w3 ⟨rfl, hx3⟩)
  refine hK _ _ hx3 ?_
  clear hK K
  refine wpT_one_on rfl rfl (fun K hK => ?_)
  go_wp2_with (go_at_call 37; refine (grown_calls db d M _ (HD.out.ext (Ext.trans HX.out (Ext.undrew hx3))) HWD.out).mono ?_; rw [HE.out.grown]; rintro e w4 ⟨rfl, hx4⟩)
  refine hK _ _ hx4 ?_
  clear hK K
  first | (refine' wpT_pure_on rfl rfl (fun w' => ?_) ?_; rotate_left 1; (focus ((try go_simp); (try go_bits); (first | done | with_reducible rfl))); simp only [Act.put, List.setIfInBounds_toArray, List.set_cons_zero, List.set_cons_succ]) | (refine wpT_pure_off rfl rfl ?_; simp only [Act.put, List.setIfInBounds_toArray, List.set_cons_zero, List.set_cons_succ])
  iterate 2 (refine' wpT_pure rfl rfl (fun w' => ?_) ?_; rotate_left 1; (focus ((try go_simp); (try go_bits); (first | done | with_reducible rfl))); simp only [Act.put, List.setIfInBounds_toArray, List.set_cons_zero, List.set_cons_succ])
  iterate 2 (first | (refine' wpT_pure_on rfl rfl (fun w' => ?_) ?_; rotate_left 1; (focus ((try go_simp); (try go_bits); (first | done | with_reducible rfl))); simp only [Act.put, List.setIfInBounds_toArray, List.set_cons_zero, List.set_cons_succ]) | (refine wpT_pure_off rfl rfl ?_; simp only [Act.put, List.setIfInBounds_toArray, List.set_cons_zero, List.set_cons_succ]))
  refine wpT_one_on rfl rfl (fun K hK => ?_)
  have hx04 := Ext.trans HX.out (Ext.trans (Ext.undrew hx3) hx4)
  go_wp2_with (go_at_call 17; refine (bytes_calls cb c L _ (HC.out.ext hx04) HWC.out HB.out).mono ?_; rintro e w5 ⟨v5, rfl, hb5, hx5⟩)
  obtain ⟨b5, hbl5, hcv5⟩ := hb5.conv (by have := hx5.size; have := hx04.size; omega)
  refine hK _ _ hx5 ?_
  clear hK K
  first | (refine' wpT_take_on rfl rfl (fun w' hc hl hsz => ?_) ?_; rotate_left 1; (focus ((try go_simp); (try go_bits); (first | done | with_reducible rfl))); simp only [Act.put, List.setIfInBounds_toArray, List.set_cons_zero, List.set_cons_succ]) | (refine wpT_take_off rfl rfl ?_; simp only [Act.put, List.setIfInBounds_toArray, List.set_cons_zero, List.set_cons_succ])
  refine wpT_one_on rfl rfl (fun K hK => ?_)
  have hx05 := Ext.trans hx04 hx5
  go_wp2_with (go_at_call 17; refine (bytes_calls db d M _ (HD.out.ext hx05) HWD.out (by rw [HE.out.bytes]; exact HB.out)).mono ?_; rw [HE.out.bytes]; rintro e w6 ⟨v6, rfl, hb6, hx6⟩)
  obtain ⟨b6, hbl6, hcv6⟩ := hb6.conv (by have := hx6.size; have := hx05.size; omega)
  refine hK _ _ hx6 ?_
  clear hK K
  first | (refine' wpT_take_on rfl rfl (fun w' hc hl hsz => ?_) ?_; rotate_left 1; (focus ((try go_simp); (try go_bits); (first | done | with_reducible rfl))); simp only [Act.put, List.setIfInBounds_toArray, List.set_cons_zero, List.set_cons_succ]) | (refine wpT_take_off rfl rfl ?_; simp only [Act.put, List.setIfInBounds_toArray, List.set_cons_zero, List.set_cons_succ])
  first | (refine' wpT_pure_on rfl rfl (fun w' => ?_) ?_; rotate_left 1; (focus ((try go_simp); (try go_bits); (first | done | with_reducible rfl))); simp only [Act.put, List.setIfInBounds_toArray, List.set_cons_zero, List.set_cons_succ]) | (refine wpT_pure_off rfl rfl ?_; simp only [Act.put, List.setIfInBounds_toArray, List.set_cons_zero, List.set_cons_succ])
  iterate 2 (refine' wpT_pure rfl rfl (fun w' => ?_) ?_; rotate_left 1; (focus ((try go_simp); (try go_bits); (first | done | with_reducible rfl))); simp only [Act.put, List.setIfInBounds_toArray, List.set_cons_zero, List.set_cons_succ])
  iterate 3 (first | (refine' wpT_pure_on rfl rfl (fun w' => ?_) ?_; rotate_left 1; (focus ((try go_simp); (try go_bits); (first | done | with_reducible rfl))); simp only [Act.put, List.setIfInBounds_toArray, List.set_cons_zero, List.set_cons_succ]) | (refine wpT_pure_off rfl rfl ?_; simp only [Act.put, List.setIfInBounds_toArray, List.set_cons_zero, List.set_cons_succ]))
  refine wpT_one_on rfl rfl (fun K hK => ?_)
  have hx06 := Ext.trans hx05 hx6
  go_wp2_with (go_at_call 36; refine (says_calls cb c L _ (HC.out.ext hx06) HWC.out).mono ?_; rintro e w7 ⟨v7, rfl, hv7, hx7⟩)
  refine hK _ _ hx7 ?_
  clear hK K
  refine wpT_one_on rfl rfl (fun K hK => ?_)
  have hx07 := Ext.trans hx06 hx7
  go_wp2_with (go_at_call 36; refine (says_calls db d M _ (HD.out.ext hx07) HWD.out).mono ?_; rintro e w8 ⟨v8, rfl, hv8, hx8⟩)
  refine hK _ _ hx8 ?_
  clear hK K
  refine wpT_one_on rfl rfl (fun K hK => ?_)
  have hx08 := Ext.trans hx07 hx8
  have hsi := says_in HWC.out HWC.out.n64
  go_wp2_with (go_at_call 26; refine (alike_calls c.says d.says v7 v8 asV asF Cs k caps _ (hv7.votes.ext hx8) hv8.votes (HA.out.ext hx08) HE.out.says hsi.1 hsi.2).mono ?_; rintro e w9 ⟨rfl, hx9⟩)
  refine hK _ _ hx9 ?_
  clear hK K
  iterate 2 (refine' wpT_pure rfl rfl (fun w' => ?_) ?_; rotate_left 1; (focus ((try go_simp); (try go_bits); (first | done | with_reducible rfl))); simp only [Act.put, List.setIfInBounds_toArray, List.set_cons_zero, List.set_cons_succ])
  refine wpT_nil ?_
  go_wp2
  go_ret
  exact ⟨rfl, Ext.trans hx08 hx9⟩
end Go.Proofs.Ytkpllkjionegeaa
