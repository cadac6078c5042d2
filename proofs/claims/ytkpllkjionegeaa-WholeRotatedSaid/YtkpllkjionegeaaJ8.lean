/- Walks: the fixed fact, brief acts, two cores side by side; the arguments opened. -/
import Derived.Test.YtkpllkjionegeaaJ7
import Derived.Lib.SlBytesConst
import Derived.ProofKit
import Derived.OpenShut
import Derived.ShutString
import Derived.ChangeOld
import Derived.Below
import Derived.Deep.Slices
set_option linter.unusedVariables false
set_option linter.unusedSimpArgs false
/- Walks: are acts few, and their values short (briefActs). -/
namespace Go.Proofs.Ytkpllkjionegeaa
open Go Go.RowKit

structure ActP where
  kind : Int
  vote : Vote
  value : Bytes

/-- an act lies at an address -/
def ActAt (w : World) (g o : Nat) (a : ActP) : Prop :=
  ∃ A1 C1 A2 C2, w.cell? ⟨g, o, none⟩ = some (.int .i64 a.kind) ∧ w.cell? ⟨g, o + 1, none⟩ = some (.int .i64 a.vote.kind) ∧ w.cell? ⟨g, o + 2, none⟩ = some (.int .i64 a.vote.frm) ∧ w.cell? ⟨g, o + 3, none⟩ = some (.int .i64 a.vote.slot) ∧
    w.cell? ⟨g, o + 4, none⟩ = some (.int .i64 a.vote.view) ∧ w.cell? ⟨g, o + 5, none⟩ = some (.int .i64 a.vote.valid) ∧ w.cell? ⟨g, o + 6, none⟩ = some (.slice A1 a.vote.value.length C1) ∧ w.cell? ⟨g, o + 7, none⟩ = some (.slice A2 a.value.length C2) ∧
    BytesAt w (.slice A1 a.vote.value.length C1) a.vote.value ∧ BytesAt w (.slice A2 a.value.length C2) a.value ∧ I64 a.kind ∧ VoteIn a.vote

theorem ActAt.ext {w w' : World} {g o : Nat} {a : ActP} (h : ActAt w g o a) (hx : Ext w w') : ActAt w' g o a := by
  obtain ⟨A1, C1, A2, C2, h0, h1, h2, h3, h4, h5, h6, h7, h8, h9, h10⟩ := h
  exact ⟨A1, C1, A2, C2, hx.at h0, hx.at h1, hx.at h2, hx.at h3, hx.at h4, hx.at h5, hx.at h6, hx.at h7, h8.ext hx, h9.ext hx, h10⟩

/-- these acts lie at an address, in a row -/
def ActsAt (w : World) (A : Option Addr) (l : List ActP) : Prop := ∀ i (h : i < l.length), ∃ g o, A = some ⟨g, o, none⟩ ∧ ActAt w g (o + i * 8) l[i]

theorem ActsAt.ext {w w' : World} {A : Option Addr} {l : List ActP} (h : ActsAt w A l) (hx : Ext w w') : ActsAt w' A l := fun i hi => by
  obtain ⟨g, o, h1, h2⟩ := h i hi
  exact ⟨g, o, h1, h2.ext hx⟩

def briefOne (a : ActP) : Bool := decide (a.value.length ≤ 100) && decide (a.vote.value.length ≤ 100)
def brief (l : List ActP) : Bool := decide (l.length ≤ 100) && l.all briefOne

theorem brief_not {l : List ActP} {i : Nat} (hi : i < l.length) (h : briefOne l[i] = false) : brief l = false := by
  unfold brief
  rw [Bool.and_eq_false_iff]
  right
  rw [List.all_eq_false]
  exact ⟨l[i], List.getElem_mem hi, by simp [h]⟩

theorem brief_yes {l : List ActP} (hl : l.length ≤ 100) (h : ∀ i (hi : i < l.length), briefOne l[i] = true) : brief l = true := by
  unfold brief
  rw [Bool.and_eq_true]
  refine ⟨by simpa using hl, List.all_eq_true.2 fun x hx => ?_⟩
  obtain ⟨i, hi, rfl⟩ := List.getElem_of_mem hx
  exact h i hi

theorem brief_get {l : List ActP} (h : brief l = true) {i : Nat} (hi : i < l.length) : l[i].value.length ≤ 100 ∧ l[i].vote.value.length ≤ 100 := by
  unfold brief at h
  rw [Bool.and_eq_true] at h
  have := (List.all_eq_true.1 h.2) l[i] (List.getElem_mem hi)
  unfold briefOne at this
  simpa using this

theorem brief_len {l : List ActP} (h : brief l = true) : l.length ≤ 100 := by
  unfold brief at h
  rw [Bool.and_eq_true] at h
  simpa using h.1

set_option maxRecDepth 100000 in
set_option maxHeartbeats 2000000 in
theorem brief_calls (l : List ActP) (A : Option Addr) (C : Nat) (w : World) (h : ActsAt w A l) : Calls Try.prog 8 #[.slice A l.length C] w (GivesBool (brief l) w) := by
  by_cases hlong : 100 < l.length
  · have HF : Hid (brief l = false) := Lib.hid (by unfold brief; simp; omega)
    have t1 : decide (100 < (l.length : Int)) = true := by simp; omega
    clear h hlong
    go_enter Try.func8, Try.ntmps8
    go_wp2
    go_ret
    exact ⟨by rw [HF.out]; rfl, Ext.refl w⟩
  · have t1 : decide (100 < (l.length : Int)) = false := by simp; omega
    have hl : l.length ≤ 100 := by omega
    have H := Lib.hid h
    clear h hlong
    go_enter Try.func8, Try.ntmps8
    go_wp2
    go_loopw [10] (fun u wr => ∃ i : Nat, i ≤ l.length ∧ u = .int .i64 i ∧ (∀ j (hj : j < l.length), j < i → briefOne l[j] = true) ∧ Ext w wr) (fun u _ => l.length - (intOf u).toNat)
    case atStart => exact ⟨0, Nat.zero_le _, rfl, fun j _ h => absurd h (by omega), Ext.refl _⟩
    case round =>
      obtain ⟨i, hi, rfl, hall, hxr⟩ := hrel
      by_cases hlt : i < l.length
      · obtain ⟨g, o, rfl, hact⟩ := H.out i hlt
        obtain ⟨A1, C1, A2, C2, x0, x1, x2, x3, x4, x5, x6, x7, _, _, _⟩ := hact.ext hxr
        have hone : briefOne l[i] = (decide (l[i].value.length ≤ 100) && decide (l[i].vote.value.length ≤ 100)) := rfl
        have hno := brief_not hlt
        obtain ⟨at', hat⟩ : ∃ a, a = l[i] := ⟨_, rfl⟩
        rw [← hat] at x0 x1 x2 x3 x4 x5 x6 x7 hone hno
        have hgl : g < wr.heap.size := World.block_lt_of_cell? wr _ x0
        have HALL := Lib.hid hall
        have HXR := Lib.hid hxr
        have HAT := Lib.hid hat
        have HONE := Lib.hid hone
        have HNO := Lib.hid hno
        clear hall hxr hact hat hone hno
        by_cases hv : at'.value.length ≤ 100
        · have t2 : decide (100 < (at'.value.length : Int)) = false := by simp; omega
          by_cases hw : at'.vote.value.length ≤ 100
          · have t3 : decide (100 < (at'.vote.value.length : Int)) = false := by simp; omega
            go_wp2
            refine ⟨⟨i + 1, by omega, by go_num, fun j hj hji => ?_, Ext.al HXR.out _⟩, by simp [intOf]; omega⟩
            by_cases hji2 : j < i
            · exact HALL.out j hj hji2
            · have : j = i := by omega
              subst this
              rw [← HAT.out, HONE.out]
              simp [hv, hw]
          · have t3 : decide (100 < (at'.vote.value.length : Int)) = true := by simp; omega
            go_wp2
            go_ret
            exact ⟨by rw [HNO.out (by rw [HONE.out]; simp; omega)]; rfl, Ext.al HXR.out _⟩
        · have t2 : decide (100 < (at'.value.length : Int)) = true := by simp; omega
          go_wp2
          go_ret
          exact ⟨by rw [HNO.out (by rw [HONE.out]; simp; omega)]; rfl, Ext.al HXR.out _⟩
      · have HALL := Lib.hid hall
        go_wp2
        go_ret
        exact ⟨by rw [brief_yes hl (fun j hj => HALL.out j hj (by omega))]; rfl, hxr⟩
end Go.Proofs.Ytkpllkjionegeaa

/- Walks: the fixed fact: peer 1 of four proposes (proposes). -/
namespace Go.Proofs.Ytkpllkjionegeaa
open Go Go.RowKit

def wantVotes : List Vote := [⟨5, 1, 0, 0, -1, []⟩, ⟨1, 1, 0, 0, -1, [119]⟩, ⟨2, 1, 0, 0, -1, [119]⟩]

theorem first_says : ((Core.make 4 1 0).doWish welcomed [119]).says = wantVotes := by decide +kernel
theorem first_grown : ((Core.make 4 1 0).doWish welcomed [119]).grown = (0, 1, 0) := by decide +kernel
theorem first_wf : Wf ((Core.make 4 1 0).doWish welcomed [119]) := (Fine.wish (Fine.make (n := 4) (me := 1) (slot := 0) (by decide)) welcomed (by simp)).wf

theorem want_at {w : World} {b b1 b2 : Nat} {t : TypeId} {fr : Nat × Nat} (h : w.heap[b]? = some (.cells #[.int .i64 5, .int .i64 1, .int .i64 0, .int .i64 0, .int .i64 (-1), .slice none 0 0, .int .i64 1, .int .i64 1, .int .i64 0, .int .i64 0, .int .i64 (-1), .slice (some ⟨b1, 0, none⟩) 1 1,
    .int .i64 2, .int .i64 1, .int .i64 0, .int .i64 0, .int .i64 (-1), .slice (some ⟨b2, 0, none⟩) 1 1] t fr)) (h1 : w.cell? ⟨b1, 0, none⟩ = some (.int .u8 119)) (h2 : w.cell? ⟨b2, 0, none⟩ = some (.int .u8 119)) : VotesAt w (.slice (some ⟨b, 0, none⟩) 3 3) wantVotes := by
  have hb : ∀ p, w.cell? ⟨p, 0, none⟩ = some (.int .u8 119) → BytesAt w (.slice (some ⟨p, 0, none⟩) 1 1) [119] := fun p hp => ⟨some ⟨p, 0, none⟩, 1, rfl, Nat.le_refl _, fun _ => ⟨p, 0, rfl, fun i hi => by
    have : i = 0 := by simpa using hi
    subst this
    exact hp⟩⟩
  refine ⟨_, _, rfl, fun i hi => ?_⟩
  have hi' : i = 0 ∨ i = 1 ∨ i = 2 := by simp [wantVotes] at hi; omega
  rcases hi' with rfl | rfl | rfl
  · refine ⟨b, none, 0, rfl, fun t ht => ?_, BytesAt.nil w⟩
    have ht' : t = 0 ∨ t = 1 ∨ t = 2 ∨ t = 3 ∨ t = 4 ∨ t = 5 := by omega
    rcases ht' with rfl | rfl | rfl | rfl | rfl | rfl <;> simp [World.cell?, h, wantVotes, voteCells]
  · refine ⟨b, some ⟨b1, 0, none⟩, 1, rfl, fun t ht => ?_, hb b1 h1⟩
    have ht' : t = 0 ∨ t = 1 ∨ t = 2 ∨ t = 3 ∨ t = 4 ∨ t = 5 := by omega
    rcases ht' with rfl | rfl | rfl | rfl | rfl | rfl <;> simp [World.cell?, h, wantVotes, voteCells]
  · refine ⟨b, some ⟨b2, 0, none⟩, 1, rfl, fun t ht => ?_, hb b2 h2⟩
    have ht' : t = 0 ∨ t = 1 ∨ t = 2 ∨ t = 3 ∨ t = 4 ∨ t = 5 := by omega
    rcases ht' with rfl | rfl | rfl | rfl | rfl | rfl <;> simp [World.cell?, h, wantVotes, voteCells]

theorem byte_lit {w : World} {x : UInt8} {t : TypeId} {fr : Nat × Nat} {p : Nat} (h : w.heap[p]? = some (.cells #[.int .u8 (x.toNat : Int)] t fr)) : BytesAt w (.slice (some ⟨p, 0, none⟩) 1 1) [x] :=
  ⟨some ⟨p, 0, none⟩, 1, rfl, Nat.le_refl _, fun _ => ⟨p, 0, rfl, fun i hi => by
    have : i = 0 := by simpa using hi
    subst this
    simp [World.cell?, h]⟩⟩

theorem grown_neq (a b c : Int) (w : World) : (binOp .neq 62 (.agg #[.int .i64 a, .int .i64 b, .int .i64 c]) (.agg #[.int .i64 a, .int .i64 b, .int .i64 c])).run Try.prog w = .ok (.bool false) w := by
  obtain ⟨i0, hi, hz0, hz1, hz2⟩ := info_parts info3'
  have hc : Try.prog.cellsOf 3 = 1 := by kernel_rfl
  have := run_equalIn_array (P := Try.prog) w 9999 (n := 3) #[.int .i64 a, .int .i64 b, .int .i64 c] #[.int .i64 a, .int .i64 b, .int .i64 c] Try.underlying62 hi
  rw [hc, grown_items 9998] at this
  simp only [binOp, Op.equal, Op.maxDepth, Sem.run_bind]
  rw [this]
  simp

theorem cell_lit {w : World} {p : Nat} {v : Value} {t : TypeId} {fr : Nat × Nat} (h : w.heap[p]? = some (.cells #[v] t fr)) : w.cell? ⟨p, 0, none⟩ = some v := by simp [World.cell?, h]

theorem three (w : World) (o1 o2 o3 : Obj) : (((w.alloc o1).alloc o2).alloc o3).heap[w.heap.size]? = some o1 ∧ (((w.alloc o1).alloc o2).alloc o3).heap[w.heap.size + 1]? = some o2 ∧ (((w.alloc o1).alloc o2).alloc o3).heap[w.heap.size + 1 + 1]? = some o3 ∧
    Ext w (((w.alloc o1).alloc o2).alloc o3) := by
  have e1 : Ext w (w.alloc o1) := Ext.al (Ext.refl _) _
  have e2 : Ext (w.alloc o1) ((w.alloc o1).alloc o2) := Ext.al (Ext.refl _) _
  have e3 : Ext ((w.alloc o1).alloc o2) (((w.alloc o1).alloc o2).alloc o3) := Ext.al (Ext.refl _) _
  have s1 : (w.alloc o1).heap.size = w.heap.size + 1 := by simp
  have s2 : ((w.alloc o1).alloc o2).heap.size = w.heap.size + 1 + 1 := by simp
  refine ⟨?_, ?_, ?_, Ext.trans e1 (Ext.trans e2 e3)⟩
  · rw [(Ext.trans e2 e3).block _ (by omega)]; exact heap_alloc_new w o1
  · rw [e3.block _ (by omega), ← s1]; exact heap_alloc_new (w.alloc o1) o2
  · rw [← s2]; exact heap_alloc_new ((w.alloc o1).alloc o2) o3

set_option maxRecDepth 100000 in
set_option maxHeartbeats 2000000 in
theorem proposes_calls (w : World) : Calls Try.prog 7 #[] w (GivesBool true w) := by
  have hok : Core.newOk 4 1 0 = true := by decide
  have HOK := Lib.hid hok
  have hgn : ∀ w', (binOp .neq 62 (.agg #[.int .i64 0, .int .i64 1, .int .i64 0]) (.agg #[.int .i64 0, .int .i64 1, .int .i64 0])).run Try.prog w' = .ok (.bool false) w' := fun w' => grown_neq 0 1 0 w'
  obtain ⟨c1, hc1⟩ : ∃ c1, c1 = (Core.make 4 1 0).doWish welcomed [119] := ⟨_, rfl⟩
  have hs := first_says
  have hg := first_grown
  have hw := first_wf
  rw [← hc1] at hs hg hw
  have HC1 := Lib.hid hc1
  have HS := Lib.hid hs
  have HG := Lib.hid hg
  have HW := Lib.hid hw
  have kc := fun (w : World) (C : Array Value) (n c : Nat) => Lib.run_convert_bytes_const (P := Try.prog) w 26 5 C n c Try.underlying26 Try.underlying5
  have kc2 : ∀ (w : World) (o : Obj) (C : Array Value) (n c : Nat), (convert 26 26 (.slice (some ⟨w.heap.size + 1, 0, none⟩) n c)).run Try.prog ((w.alloc o).alloc (.cells C 5)) = .ok (.slice (some ⟨w.heap.size + 1, 0, none⟩) n c) ((w.alloc o).alloc (.cells C 5 (C.size, C.size + 1))) := fun w o C n c => by
    have := kc (w.alloc o) C n c
    rw [World.size_alloc] at this
    exact this
  clear hok hc1 hs hg hw
  go_enter Try.func7, Try.ntmps7
  go_wp2_with (first
    | (go_at_call 11; refine (new_calls 4 1 0 12 #[] _ HOK.out).mono ?_; rintro e w1 ⟨cb, L, rfl, hcb, hmaps, hacc, hc1, hx1⟩; have hcl := hc1.lt; have HC := Lib.hid hc1; have HX1 := Lib.hid hx1; have HACC := Lib.hid hacc; have HMAPS := Lib.hid hmaps; clear hc1 hx1 hmaps hacc)
    | (go_at_call 14; have hx2 : Ext w1 (w1.alloc (.cells #[.int .u8 119] 5 (1, 2))) := Ext.al (Ext.refl _) _; refine (wish_calls cb (Core.make 4 1 0) L welcomed [] 12 #[] _ (HC.out.ext hx2) (make_wf HOK.out) (by rw [HACC.out]; exact welcome_acc _) (fun b hb => by simp at hb) (some ⟨w1.heap.size, 0, none⟩) 1 [119] (byte_lit (x := 119) (heap_alloc_new w1 _))).mono ?_; rw [← HC1.out]; rintro e w2 ⟨⟨_, rfl⟩, L2, hc2, hm2⟩; have HC2 := Lib.hid hc2; have HX2 := Lib.hid (Ext.turn (Ext.trans HX1.out hx2) hm2.turn (fun b hb => by rcases hb with rfl | hb; exact hcb; exact HMAPS.out b hb)); clear HC hc2 hm2 hx2)
    | (go_at_call 36; refine (says_calls cb c1 L2 _ HC2.out HW.out).mono ?_; rw [HS.out]; rintro e w3 ⟨v3, rfl, hv3, hx3⟩; obtain ⟨A3, C3, rfl⟩ := hv3.votes.slice; have HV3 := Lib.hid (show VotesAt w3 (.slice A3 3 C3) wantVotes from hv3.votes); have HX3 := Lib.hid hx3; have hl3 : wantVotes.length = 3 := rfl; clear hv3 hx3)
    | (go_at_call 37; have h3 := three w3 (.cells #[.int .u8 119] 5 (1, 2)) (.cells #[.int .u8 119] 5 (1, 2)) (.cells #[.int .i64 5, .int .i64 1, .int .i64 0, .int .i64 0, .int .i64 (-1), .slice none 0 0, .int .i64 1, .int .i64 1, .int .i64 0, .int .i64 0, .int .i64 (-1), .slice (some ⟨w3.heap.size, 0, none⟩) 1 1, .int .i64 2, .int .i64 1, .int .i64 0, .int .i64 0, .int .i64 (-1), .slice (some ⟨w3.heap.size + 1, 0, none⟩) 1 1] 28); refine (grown_calls cb c1 L2 _ (HC2.out.ext (Ext.trans HX3.out h3.2.2.2)) HW.out).mono ?_; rw [HG.out]; rintro e w4 ⟨rfl, hx4⟩; have hwant := (want_at h3.2.2.1 (cell_lit h3.1) (cell_lit h3.2.1)).ext hx4; have HV4 := Lib.hid (HV3.out.ext (Ext.trans h3.2.2.2 hx4)); have HWT := Lib.hid hwant; have HX4 := Lib.hid (Ext.trans HX2.out (Ext.trans HX3.out (Ext.trans h3.2.2.2 hx4))); clear h3 hx4 hwant))
  go_loopw [34] (fun u wr => ∃ i : Nat, i ≤ 3 ∧ u = .int .i64 i ∧ Ext w4 wr) (fun u _ => 3 - (intOf u).toNat)
  case atStart => exact ⟨0, Nat.zero_le _, rfl, Ext.refl _⟩
  case round =>
    obtain ⟨i, hi, rfl, hxr⟩ := hrel
    by_cases hlt : i < 3
    · have hlt' : i < wantVotes.length := hlt
      obtain ⟨g, A1, C1, rfl, x0, x1, x2, x3, x4, x5, hb⟩ := (HV4.out.ext hxr).at hlt'
      obtain ⟨g', A2, C2, hge, z0, z1, z2, z3, z4, z5, hb'⟩ := (HWT.out.ext hxr).at hlt'
      cases hge
      obtain ⟨vt, hvt⟩ : ∃ vt, vt = wantVotes[i] := ⟨_, rfl⟩
      rw [← hvt] at x0 x1 x2 x3 x4 x5 z0 z1 z2 z3 z4 z5 hb hb'
      have hgl : g < wr.heap.size := World.block_lt_of_cell? wr _ x0
      have hgl' : w3.heap.size + 1 + 1 < wr.heap.size := World.block_lt_of_cell? wr _ z0
      have HXR := Lib.hid hxr
      have HB := Lib.hid hb
      have HB' := Lib.hid hb'
      clear hxr hb hb' hvt hlt'
      go_wp2
      have hbx := boxed wr #[.int .i64 vt.kind, .int .i64 vt.frm, .int .i64 vt.slot, .int .i64 vt.view, .int .i64 vt.valid, .slice A1 vt.value.length C1] 28
      obtain ⟨W, hW⟩ : ∃ W, W = wr.alloc (Obj.cells #[.int .i64 vt.kind, .int .i64 vt.frm, .int .i64 vt.slot, .int .i64 vt.view, .int .i64 vt.valid, .slice A1 vt.value.length C1] 28) := ⟨_, rfl⟩
      rw [← hW] at hbx ⊢
      obtain ⟨hxT, hcT, hsT⟩ := hbx
      have y0 : W.cell? ⟨wr.heap.size, 0, none⟩ = some (.int .i64 vt.kind) := hcT 0
      have y1 : W.cell? ⟨wr.heap.size, 1, none⟩ = some (.int .i64 vt.frm) := hcT 1
      have y2 : W.cell? ⟨wr.heap.size, 2, none⟩ = some (.int .i64 vt.slot) := hcT 2
      have y3 : W.cell? ⟨wr.heap.size, 3, none⟩ = some (.int .i64 vt.view) := hcT 3
      have y4 : W.cell? ⟨wr.heap.size, 4, none⟩ = some (.int .i64 vt.valid) := hcT 4
      have y5 : W.cell? ⟨wr.heap.size, 5, none⟩ = some (.slice A1 vt.value.length C1) := hcT 5
      have hTl : wr.heap.size < W.heap.size := by omega
      have hgW : w3.heap.size + 1 + 1 < W.heap.size := by omega
      have z0 := hxT.at z0
      have z1 := hxT.at z1
      have z2 := hxT.at z2
      have z3 := hxT.at z3
      have z4 := hxT.at z4
      have z5 := hxT.at z5
      have HXT := Lib.hid hxT
      have HWE := Lib.hid hW
      clear hxT hcT hsT hW x0 x1 x2 x3 x4 x5
      refine wp_region_T [] (.pure 1 (.pure 2 (.pure 3 (.take 0 (.take 4 (.one 5 (.pure 6 .nil))))))) (by kernel_rfl) (by kernel_rfl) ?_
      iterate 3 (refine' wpT_pure rfl rfl (fun w' => ?_) ?_; rotate_left 1; (focus ((try go_simp); (try go_bits); (first | done | with_reducible rfl))); simp only [Act.put, List.setIfInBounds_toArray, List.set_cons_zero, List.set_cons_succ])
      iterate 2 (first | (refine' wpT_take_dddd rfl rfl (fun w' hc hl hsz => ?_) ?_; rotate_left 1; (focus ((try go_simp); (try go_bits); (first | done | with_reducible rfl))); simp only [Act.put, List.setIfInBounds_toArray, List.set_cons_zero, List.set_cons_succ]) | (refine' wpT_take_ddd rfl rfl (fun w' hc hl hsz => ?_) ?_; rotate_left 1; (focus ((try go_simp); (try go_bits); (first | done | with_reducible rfl))); simp only [Act.put, List.setIfInBounds_toArray, List.set_cons_zero, List.set_cons_succ]) | (refine' wpT_take_dd rfl rfl (fun w' hc hl hsz => ?_) ?_; rotate_left 1; (focus ((try go_simp); (try go_bits); (first | done | with_reducible rfl))); simp only [Act.put, List.setIfInBounds_toArray, List.set_cons_zero, List.set_cons_succ]) | (refine' wpT_take_d rfl rfl (fun w' hc hl hsz => ?_) ?_; rotate_left 1; (focus ((try go_simp); (try go_bits); (first | done | with_reducible rfl))); simp only [Act.put, List.setIfInBounds_toArray, List.set_cons_zero, List.set_cons_succ]))
      refine wpT_one rfl rfl (fun K hK => ?_)
      go_wp2_with (go_at_call 38; refine (same_calls vt vt _ _ _ _ _ (HB.out.ext (Ext.trans HXT.out (Ext.refl W).dr)) (HB'.out.ext (Ext.trans HXT.out (Ext.refl W).dr))).mono ?_; rw [same_self]; rintro e w5 ⟨rfl, he5⟩)
      refine hK _ _ he5 ?_
      clear hK K
      (refine' wpT_pure rfl rfl (fun w' => ?_) ?_; rotate_left 1; (focus ((try go_simp); (try go_bits); (first | done | with_reducible rfl))); simp only [Act.put, List.setIfInBounds_toArray, List.set_cons_zero, List.set_cons_succ])
      refine wpT_nil ?_
      go_wp2
      exact ⟨⟨i + 1, by omega, by go_num, Ext.trans HXR.out (Ext.trans HXT.out (Ext.undrew he5))⟩, by simp [intOf]; omega⟩
    · go_wp2
      go_ret
      exact ⟨rfl, Ext.trans HX4.out hxr⟩
end Go.Proofs.Ytkpllkjionegeaa

/- Two cores side by side in memory. -/
namespace Go.Proofs.Ytkpllkjionegeaa
open Go Go.RowKit

/-- two cores of one's own, apart -/
structure Two (w : World) (accV : Value) (cb db : Nat) (c d : Core) (L M : Lay) (W : World) : Prop where
  hc : CoreAt W cb c L
  hd : CoreAt W db d M
  apart : ∀ b, Own cb L b → ¬ Own db M b
  newc : ∀ b, Own cb L b → w.heap.size ≤ b
  newd : ∀ b, Own db M b → w.heap.size ≤ b
  ext : Ext w W
  accc : L.acc = accV
  accd : M.acc = accV

theorem CoreAt.own_lt {w : World} {cb : Nat} {c : Core} {L : Lay} (h : CoreAt w cb c L) {b : Nat} (hb : Own cb L b) : b < w.heap.size := by
  rcases hb with rfl | hb
  · exact h.lt
  · exact h.maps_lt b hb

theorem Moves.own {cb : Nat} {L L' : Lay} {W W' : World} (h : Moves cb L L' W W') {b : Nat} (hb : Own cb L' b) : Own cb L b ∨ W.heap.size ≤ b := by
  rcases hb with rfl | hb
  · exact Or.inl (Or.inl rfl)
  · rcases h.new b hb with h1 | h1
    · exact Or.inl (Or.inr h1)
    · exact Or.inr h1

namespace Two
variable {w : World} {accV : Value} {cb db : Nat} {c d : Core} {L M : Lay} {W : World}

theorem ext' (h : Two w accV cb db c d L M W) {W' : World} (hx : Ext W W') : Two w accV cb db c d L M W' :=
  ⟨h.hc.ext hx, h.hd.ext hx, h.apart, h.newc, h.newd, Ext.trans h.ext hx, h.accc, h.accd⟩

theorem left (h : Two w accV cb db c d L M W) {c' : Core} {L' : Lay} {W' : World} (hc : CoreAt W' cb c' L') (hm : Moves cb L L' W W') : Two w accV cb db c' d L' M W' :=
  ⟨hc, h.hd.other hm (fun b hb ho => h.apart b ho hb), fun b hb ho => by
    rcases hm.own hb with h1 | h1
    · exact h.apart b h1 ho
    · have := h.hd.own_lt ho; omega,
   fun b hb => by
    rcases hm.own hb with h1 | h1
    · exact h.newc b h1
    · exact Nat.le_trans h.ext.size h1,
   h.newd, h.ext.turn hm.turn h.newc, hm.acc.trans h.accc, h.accd⟩

theorem right (h : Two w accV cb db c d L M W) {d' : Core} {M' : Lay} {W' : World} (hd : CoreAt W' db d' M') (hm : Moves db M M' W W') : Two w accV cb db c d' L M' W' :=
  ⟨h.hc.other hm (fun b hb ho => h.apart b hb ho), hd, fun b hb ho => by
    rcases hm.own ho with h1 | h1
    · exact h.apart b hb h1
    · have := h.hc.own_lt hb; omega,
   h.newc, fun b hb => by
    rcases hm.own hb with h1 | h1
    · exact h.newd b h1
    · exact Nat.le_trans h.ext.size h1,
   h.ext.turn hm.turn h.newd, h.accc, hm.acc.trans h.accd⟩

theorem anewLeft (h : Two w accV cb db c d L M W) {c' : Core} {cb' : Nat} {L' : Lay} {W' : World} (hc : CoreAt W' cb' c' L') (h1 : W.heap.size ≤ cb') (h2 : ∀ b ∈ L'.maps, W.heap.size ≤ b) (ha : L'.acc = accV) (hx : Ext W W') : Two w accV cb' db c' d L' M W' := by
  have hge : ∀ b, Own cb' L' b → W.heap.size ≤ b := fun b hb => by
    rcases hb with rfl | hb
    · exact h1
    · exact h2 b hb
  exact ⟨hc, h.hd.ext hx, fun b hb ho => by have := hge b hb; have := h.hd.own_lt ho; omega, fun b hb => Nat.le_trans h.ext.size (hge b hb), h.newd, Ext.trans h.ext hx, ha, h.accd⟩

theorem anewRight (h : Two w accV cb db c d L M W) {d' : Core} {db' : Nat} {M' : Lay} {W' : World} (hd : CoreAt W' db' d' M') (h1 : W.heap.size ≤ db') (h2 : ∀ b ∈ M'.maps, W.heap.size ≤ b) (ha : M'.acc = accV) (hx : Ext W W') : Two w accV cb db' c d' L M' W' := by
  have hge : ∀ b, Own db' M' b → W.heap.size ≤ b := fun b hb => by
    rcases hb with rfl | hb
    · exact h1
    · exact h2 b hb
  exact ⟨h.hc.ext hx, hd, fun b hb ho => by have := hge b ho; have := h.hc.own_lt hb; omega, h.newc, fun b hb => Nat.le_trans h.ext.size (hge b hb), Ext.trans h.ext hx, h.accc, ha⟩

end Two

def accW : Value := .func (.func 12) #[] #[]

theorem Two.start {w W1 W2 : World} {cb db : Nat} {c d : Core} {L M : Lay} (hc : CoreAt W1 cb c L) (hx1 : Ext w W1) (h1 : w.heap.size ≤ cb) (h2 : ∀ b ∈ L.maps, w.heap.size ≤ b) (ha : L.acc = accW)
    (hd : CoreAt W2 db d M) (hx2 : Ext W1 W2) (h3 : W1.heap.size ≤ db) (h4 : ∀ b ∈ M.maps, W1.heap.size ≤ b) (ha' : M.acc = accW) : Two w accW cb db c d L M W2 := by
  have hge : ∀ b, Own db M b → W1.heap.size ≤ b := fun b hb => by
    rcases hb with rfl | hb
    · exact h3
    · exact h4 b hb
  refine ⟨hc.ext hx2, hd, fun b hb ho => by have := hge b ho; have := hc.own_lt hb; omega, fun b hb => ?_, fun b hb => Nat.le_trans hx1.size (hge b hb), Ext.trans hx1 hx2, ha, ha'⟩
  rcases hb with rfl | hb
  · exact h1
  · exact h2 b hb

/-- the value of 'welcome' accepts -/
theorem accW_at (w : World) : AccAt w accW welcomed [] 12 #[] := welcome_acc w
theorem no_sep {cb : Nat} {L : Lay} : ∀ b ∈ ([] : List Nat), ¬ Own cb L b := fun b hb => by simp at hb

theorem take_false {c : Core} {acc : Bytes → Bool} {v : Vote} (h : (c.take acc v).1 = false) : (c.take acc v).2 = c := by
  rw [take_eq] at h ⊢
  split
  · rfl
  · rename_i h1
    rw [if_neg h1] at h
    split
    · rfl
    · rename_i h2
      rw [if_neg h2] at h
      cases h

theorem Alike.self (c : Core) : Alike id c c := ⟨rfl, rfl, rfl, rfl, by simp⟩

/-- who a core is -/
structure Is (c : Core) (n me slot : Int) : Prop where
  n : c.n = n
  me : c.me = me
  slot : c.slot = slot

theorem Is.act {c : Core} {n me slot : Int} (h : Is c n me slot) (hw : Wf c) (acc : Bytes → Bool) : Is (c.act acc) n me slot := by
  have k := Knows.act hw acc
  exact ⟨k.n.trans h.n, k.me.trans h.me, k.slot.trans h.slot⟩

theorem Is.told {c : Core} {n me slot : Int} (h : Is c n me slot) (v : Vote) : Is (c.told v) n me slot := by
  unfold Core.told Core.know
  (repeat' split) <;> exact ⟨h.n, h.me, h.slot⟩

theorem Is.take {c : Core} {n me slot : Int} (h : Is c n me slot) {k : Nat} (hf : Fine c k) (acc : Bytes → Bool) {v : Vote} (hl : v.value.length ≤ 101) : Is (c.take acc v).2 n me slot := by
  rw [take_eq]
  split
  · exact h
  · rename_i hn
    simp only [not_or, Bool.not_eq_false] at hn
    split
    · exact h
    · exact (h.told v).act (hf.told hn.2.2.2 hn.2.2.1 hl).wf acc

theorem Is.wish {c : Core} {n me slot : Int} (h : Is c n me slot) {k : Nat} (hf : Fine c k) (acc : Bytes → Bool) {v : Bytes} (hl : v.length ≤ 101) : Is (c.doWish acc v) n me slot := by
  unfold Core.doWish
  split
  · exact h
  · exact Is.act (c := { c with wish := v, wishes := true }) ⟨h.n, h.me, h.slot⟩ { hf.wf with wishL := by show v.length ≤ 4096; omega } acc

theorem Is.late {c : Core} {n me slot : Int} (h : Is c n me slot) {k : Nat} (hf : Fine c k) (acc : Bytes → Bool) : Is (c.late acc) n me slot := by
  unfold Core.late
  split
  · rename_i hd
    have h0 := hf.wf.v0
    exact Is.act (c := { c with view := c.view + 1 }) ⟨h.n, h.me, h.slot⟩ { hf.wf with v0 := by show 0 ≤ c.view + 1; omega, v1 := by show c.view + 1 ≤ 1048576; omega } acc
  · exact h

theorem Is.anew {c : Core} {n me slot : Int} (h : Is c n me slot) : Is c.anew n me slot := ⟨h.n, h.me, h.slot⟩
end Go.Proofs.Ytkpllkjionegeaa

/- The arguments that come in, opened: bytes, and acts. -/
namespace Go.Proofs.Ytkpllkjionegeaa
open Go Go.RowKit Go.ChangeShapes Go.WideShapes Go.ChangeAt Go.Deep

section
variable {H : Type} {enc : TypeId × Value → H} {w : World} {base : Nat} {spare : Nat → Bool} {held : Bool}

theorem add_cell {b o : Nat} {i : Nat} : (⟨b, o, none⟩ : Addr).add i = ⟨b, o + i, none⟩ := by unfold Addr.add; split <;> simp_all

theorem bytes_of_trod {fuel : Nat} {v : Value} {x : DataW H × List MemPlace} (h : DataW.trod enc Try.prog w base spare held fuel 26 [v] = some x) : ∃ A C l, v = .slice A (l : Bytes).length C ∧ BytesAt w (.slice A l.length C) l := by
  rcases open_ints Try.underlying26 Try.underlying5 (by kernel_rfl) h with ⟨hcs, _⟩ | ⟨a, len, cap, zs, hcs, _, hl, _, hz, _, hcell, hwf⟩
  · simp only [List.cons.injEq, and_true] at hcs
    subst hcs
    exact ⟨none, 0, [], rfl, BytesAt.nil w⟩
  · simp only [List.cons.injEq, and_true] at hcs
    subst hcs
    have hle : len ≤ zs.length := by rw [hz]; split <;> omega
    have hlen : ((zs.take len).map fun z => UInt8.ofNat z.toNat).length = len := by simp; omega
    refine ⟨some a, cap, (zs.take len).map fun z => UInt8.ofNat z.toNat, by rw [hlen], ⟨some a, cap, rfl, by rw [hlen]; exact hl, fun hne => ?_⟩⟩
    have h0 : 0 < len := by
      rcases Nat.eq_zero_or_pos len with h | h
      · subst h; exact absurd (by simp) hne
      · exact h
    obtain ⟨b, o, s⟩ := a
    have hs : s = none := by simpa [Addr.add] using World.cell?_spot (hcell 0 (by omega))
    subst hs
    refine ⟨b, o, rfl, fun i hi => ?_⟩
    rw [hlen] at hi
    have hc := hcell i (by omega)
    rw [add_cell] at hc
    rw [hc]
    have hw := hwf (zs[i]'(by omega)) (List.getElem_mem _)
    have hb : 0 ≤ zs[i]'(by omega) ∧ zs[i]'(by omega) ≤ 255 := by
      simp [Lit.wf, IntKind.min, IntKind.max, IntKind.signed, IntKind.bits] at hw
      omega
    congr 2
    have e1 : zs.getD i 0 = zs[i]'(by omega) := by simp [List.getD, show i < zs.length by omega]
    rw [e1]
    simp only [List.getElem_map, List.getElem_take, UInt8.toNat_ofNat']
    omega

theorem int_of_trod {fuel : Nat} {cs : List Value} {x : DataW H × List MemPlace} (h : DataW.trod enc Try.prog w base spare held fuel 3 cs = some x) : ∃ k, cs = [.int .i64 k] ∧ I64 k := by
  obtain ⟨k, h1, _, h3⟩ := DataW.trod_int Try.underlying3 h
  refine ⟨k, h1, ?_⟩
  simp [Lit.wf, IntKind.min, IntKind.max, IntKind.signed, IntKind.bits] at h3
  exact ⟨by omega, by omega⟩

theorem c3 : Try.prog.cellsOf 3 = 1 := by kernel_rfl
theorem c26 : Try.prog.cellsOf 26 = 1 := by kernel_rfl
theorem c28 : Try.prog.cellsOf 28 = 6 := by kernel_rfl
theorem c34 : Try.prog.cellsOf 34 = 8 := by kernel_rfl

/-- one act, opened -/
theorem act_of_trod {fuel : Nat} {cs : List Value} {x : DataW H × List MemPlace} (h : DataW.trod enc Try.prog w base spare held fuel 34 cs = some x) {g o : Nat} (hlen : cs.length = 8) (hc : ∀ i, i < 8 → w.cell? ⟨g, o + i, none⟩ = cs[i]?) : ∃ a, ActAt w g o a := by
  match cs, hlen with
  | [s0, s1, s2, s3, s4, s5, s6, s7], _ =>
    obtain ⟨xs, n, _, _, _, hxl, hf⟩ := DataW.trod_struct Try.underlying34 h
    match xs, hxl with
    | [y0, y1, y2], _ =>
      have f0 : DataW.trod enc Try.prog w base spare held n 3 [s0] = some y0 := by have := hf 0 _ rfl; simpa [c3] using this
      have f1 : DataW.trod enc Try.prog w base spare held n 28 [s1, s2, s3, s4, s5, s6] = some y1 := by have := hf 1 _ rfl; simpa [c28] using this
      have f2 : DataW.trod enc Try.prog w base spare held n 26 [s7] = some y2 := by have := hf 2 _ rfl; simpa [c26] using this
      obtain ⟨xs', n', _, _, _, hxl', hf'⟩ := DataW.trod_struct Try.underlying28 f1
      match xs', hxl' with
      | [z0, z1, z2, z3, z4, z5], _ =>
        have g0 : DataW.trod enc Try.prog w base spare held n' 3 [s1] = some z0 := by have := hf' 0 _ rfl; simpa [c3] using this
        have g1 : DataW.trod enc Try.prog w base spare held n' 3 [s2] = some z1 := by have := hf' 1 _ rfl; simpa [c3] using this
        have g2 : DataW.trod enc Try.prog w base spare held n' 3 [s3] = some z2 := by have := hf' 2 _ rfl; simpa [c3] using this
        have g3 : DataW.trod enc Try.prog w base spare held n' 3 [s4] = some z3 := by have := hf' 3 _ rfl; simpa [c3] using this
        have g4 : DataW.trod enc Try.prog w base spare held n' 3 [s5] = some z4 := by have := hf' 4 _ rfl; simpa [c3] using this
        have g5 : DataW.trod enc Try.prog w base spare held n' 26 [s6] = some z5 := by have := hf' 5 _ rfl; simpa [c26] using this
        obtain ⟨k0, e0, w0⟩ := int_of_trod f0
        obtain ⟨k1, e1, w1⟩ := int_of_trod g0
        obtain ⟨k2, e2, w2⟩ := int_of_trod g1
        obtain ⟨k3, e3, w3⟩ := int_of_trod g2
        obtain ⟨k4, e4, w4⟩ := int_of_trod g3
        obtain ⟨k5, e5, w5⟩ := int_of_trod g4
        obtain ⟨A6, C6, l6, e6, b6⟩ := bytes_of_trod g5
        obtain ⟨A7, C7, l7, e7, b7⟩ := bytes_of_trod f2
        simp only [List.cons.injEq, and_true] at e0 e1 e2 e3 e4 e5
        subst e0 e1 e2 e3 e4 e5 e6 e7
        exact ⟨⟨k0, ⟨k1, k2, k3, k4, k5, l6⟩, l7⟩, A6, C6, A7, C7, hc 0 (by omega), hc 1 (by omega), hc 2 (by omega), hc 3 (by omega), hc 4 (by omega), hc 5 (by omega), hc 6 (by omega), hc 7 (by omega), b6, b7, w0, ⟨w1, w2, w3, w4, w5⟩⟩

instance : Inhabited ActP := ⟨⟨0, ⟨0, 0, 0, 0, 0, []⟩, []⟩⟩

set_option maxRecDepth 100000 in
/-- a slice of acts, opened -/
theorem acts_of_trod {fuel : Nat} {v : Value} {x : DataW H × List MemPlace} (h : DataW.trod enc Try.prog w base spare held fuel 22 [v] = some x) : ∃ A C l, v = .slice A (l : List ActP).length C ∧ ActsAt w A l := by
  rcases open_slice Try.underlying22 h with ⟨hcs, _⟩ | ⟨a, len, cap, m, n, D, Pl, hcs, _, hl, _, hm, _, hel⟩
  · simp only [List.cons.injEq, and_true] at hcs
    subst hcs
    exact ⟨none, 0, [], rfl, fun i hi => by simp at hi⟩
  · simp only [List.cons.injEq, and_true] at hcs
    subst hcs
    have hlm : len ≤ m := by rw [hm]; split <;> omega
    by_cases h0 : len = 0
    · subst h0
      exact ⟨some a, cap, [], rfl, fun i hi => by simp at hi⟩
    · obtain ⟨b, o, s⟩ := a
      have hs : s = none := by
        obtain ⟨cs', hc', _⟩ := hel 0 (by omega)
        rw [c34] at hc'
        obtain ⟨_, hcl, hat⟩ := World.cells?_some hc'
        have := hat 0 (by decide)
        rw [List.getElem?_eq_getElem (show 0 < cs'.length by rw [hcl]; decide)] at this
        simpa [Addr.add] using World.cell?_spot this
      subst hs
      have hone : ∀ i, i < len → ∃ a, ActAt w b (o + i * 8) a := fun i hi => by
        obtain ⟨cs', hc', ht'⟩ := hel i (by omega)
        rw [c34, add_cell] at hc'
        obtain ⟨_, hcl, hat⟩ := World.cells?_some hc'
        refine act_of_trod ht' hcl fun j hj => ?_
        have := hat j hj
        rw [add_cell] at this
        exact this
      obtain ⟨f, hf⟩ := choose_lt hone
      refine ⟨some ⟨b, o, none⟩, cap, (List.range len).map f, by simp, fun i hi => ⟨b, o, rfl, ?_⟩⟩
      simp only [List.length_map, List.length_range] at hi
      simp only [List.getElem_map, List.getElem_range]
      exact hf i hi
end

theorem u8_wf {k : Int} (h : (Lit.int .u8 k).wf = true) : 0 ≤ k ∧ k ≤ 255 := by
  simp [Lit.wf, IntKind.min, IntKind.max, IntKind.signed, IntKind.bits] at h
  omega

theorem ownG : ownKnob Try.prog.godebug = none := by kernel_rfl
theorem laidOut : laidOutB Try.prog = true := by kernel_rfl
end Go.Proofs.Ytkpllkjionegeaa
