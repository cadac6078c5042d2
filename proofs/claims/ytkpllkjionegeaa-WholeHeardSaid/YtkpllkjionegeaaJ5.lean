/- Walks of the vote package, fourth part. -/
import Derived.Test.YtkpllkjionegeaaJ4
set_option linter.unusedVariables false
set_option linter.unusedSimpArgs false
/- Walks: what a vote's encoding says of it (EncodeVote). -/
namespace Go.Proofs.Ytkpllkjionegeaa
open Go Go.RowKit

/-- a number of 64 bits -/
def I64 (x : Int) : Prop := -9223372036854775808 ≤ x ∧ x ≤ 9223372036854775807

def VoteIn (v : Vote) : Prop := I64 v.kind ∧ I64 v.frm ∧ I64 v.slot ∧ I64 v.view ∧ I64 v.valid

/-- the errno of a vote's encoding -/
def voteErr (v : Vote) : Int := if voteOk v then 0 else 3




set_option maxRecDepth 100000 in
set_option maxHeartbeats 2000000 in
theorem encode_far (v : Vote) (A : Option Addr) (C : Nat) (w : World) (hv : BytesAt w (.slice A v.value.length C) v.value) (hin : VoteIn v) (hval : v.valid < -1 ∨ 1048576 < v.valid) :
    Calls Try.prog 35 #[.agg (voteCells v (.slice A v.value.length C))] w (fun e w' => (∃ b, e = .returned (.tuple #[b, .int .i64 (voteErr v)])) ∧ Ext w w') := by
  have HOK : Hid (voteErr v = 3) := Lib.hid (by
    unfold voteErr
    rw [voteOk_eq]
    rcases hval with h | h <;> simp [h])
  have HVAL := Lib.hid hval
  clear hval
  have hxa : Ext w (w.alloc (.cells (voteCells v (.slice A v.value.length C)) 28)) := Ext.al (Ext.refl w) _
  obtain ⟨Wa, hWa⟩ : ∃ Wa, Wa = w.alloc (.cells (voteCells v (.slice A v.value.length C)) 28) := ⟨_, rfl⟩
  have hba : Wa.heap[w.heap.size]? = some (.cells (voteCells v (.slice A v.value.length C)) 28 (0, 0)) := by rw [hWa]; exact heap_alloc_new w _
  have hsa : Wa.heap.size = w.heap.size + 1 := by rw [hWa]; simp
  rw [← hWa] at hxa
  have hxb : Ext Wa (Wa.alloc (.cells #[.int .u8 86] 5)) := Ext.al (Ext.refl Wa) _
  have hrow : (Wa.alloc (.cells #[.int .u8 86] 5)).ownsRow Wa.heap.size 5 1 (.slice (some ⟨Wa.heap.size, 0, none⟩) 1 1) 1 [.int .u8 86] := World.ownsRow_lit Wa #[.int .u8 86] 1 (Nat.le_refl _) (by decide) rfl
  have hw0 : WrAt Wa.heap.size (Wa.heap.size + 1) 1 false ((Wa.alloc (.cells #[.int .u8 86] 5)).alloc (.cells #[.slice (some ⟨Wa.heap.size, 0, none⟩) 1 1, .bool false] 99)) :=
    ⟨_, [86], by have := heap_alloc_new (Wa.alloc (.cells #[.int .u8 86] 5)) (.cells #[.slice (some ⟨Wa.heap.size, 0, none⟩) 1 1, .bool false] 99); rw [World.size_alloc] at this; exact this, hrow.alloc _, rfl, fun x hx => by cases hx⟩
  have hbl0 : Below Wa.heap.size Wa ((Wa.alloc (.cells #[.int .u8 86] 5)).alloc (.cells #[.slice (some ⟨Wa.heap.size, 0, none⟩) 1 1, .bool false] 99)) := ((Below.refl _ Wa).alloc (Nat.le_refl _) _).alloc (by simp) _
  have hcell : ∀ W', Below Wa.heap.size Wa W' → ∀ i : Nat, W'.cell? ⟨w.heap.size, i, none⟩ = (voteCells v (.slice A v.value.length C))[i]? := fun W' hb i => by
    have := (hb.block w.heap.size (by omega)).trans hba
    simp [World.cell?, this]
  have hbytes : ∀ W', Below Wa.heap.size Wa W' → BytesAt W' (.slice A v.value.length C) v.value := fun W' hb => (hv.ext hxa).ext hb
  have e0 := hcell _ hbl0 0
  have hlt0 : w.heap.size < ((Wa.alloc (.cells #[.int .u8 86] 5)).alloc (.cells #[.slice (some ⟨Wa.heap.size, 0, none⟩) 1 1, .bool false] 99)).heap.size := by simp; omega
  rw [hsa] at hw0 hbl0 hcell hbytes
  simp only [World.size_alloc, hsa] at hlt0
  subst hWa
  have HX := Lib.hid hxa
  have H0 := Lib.hid (And.intro hw0 hbl0)
  have HC := Lib.hid hcell
  have HBY := Lib.hid hbytes
  obtain ⟨hi1, hi2, hi3, hi4, hi5⟩ := hin
  have HI1 := Lib.hid hi1
  have HI2 := Lib.hid hi2
  have HI3 := Lib.hid hi3
  have HI4 := Lib.hid hi4
  have HI5 := Lib.hid hi5
  clear hxa hxb hrow hw0 hbl0 hcell hbytes hv hba hsa hi1 hi2 hi3 hi4 hi5
  go_enter Try.func35, Try.ntmps35
  unfold voteCells at *
  cases hlow : decide (v.valid < -1) with
  | true =>
    go_wp2_with (first | (go_at_call 61; refine (num_calls (w.heap.size + 1) (w.heap.size + 1 + 1) 1 false v.kind 1 5 1 _ H0.out.1 (by omega) (by omega) (by omega) HI1.out).mono ?_; rintro e w1 ⟨⟨_, rfl⟩, hw1, hb1⟩; obtain ⟨g1, hg1⟩ : ∃ g, g = ((false || decide (v.kind < 1)) || decide (5 < v.kind)) := ⟨_, rfl⟩; rw [← hg1] at hw1; have hbb1 := H0.out.2.trans hb1; have e1 := HC.out _ hbb1 1; have hlt1 : w.heap.size < w1.heap.size := (by have := hbb1.size; simp only [World.size_alloc] at this; omega); have H1 := Lib.hid (And.intro hw1 hbb1); have G1 := Lib.hid hg1; clear H0 hw1 hb1 hbb1 hg1) | (go_at_call 61; refine (num_calls (w.heap.size + 1) (w.heap.size + 1 + 1) 2 g1 v.frm 1 64 1 _ H1.out.1 (by omega) (by omega) (by omega) HI2.out).mono ?_; rintro e w2 ⟨⟨_, rfl⟩, hw2, hb2⟩; obtain ⟨g2, hg2⟩ : ∃ g, g = ((g1 || decide (v.frm < 1)) || decide (64 < v.frm)) := ⟨_, rfl⟩; rw [← hg2] at hw2; have hbb2 := H1.out.2.trans hb2; have e2 := HC.out _ hbb2 2; have hlt2 : w.heap.size < w2.heap.size := (by have := hbb2.size; simp only [World.size_alloc] at this; omega); have H2 := Lib.hid (And.intro hw2 hbb2); have G2 := Lib.hid hg2; clear H1 hw2 hb2 hbb2 hg2) | (go_at_call 61; refine (num_calls (w.heap.size + 1) (w.heap.size + 1 + 1) 3 g2 v.slot 0 256 4 _ H2.out.1 (by omega) (by omega) (by omega) HI3.out).mono ?_; rintro e w3 ⟨⟨_, rfl⟩, hw3, hb3⟩; obtain ⟨g3, hg3⟩ : ∃ g, g = ((g2 || decide (v.slot < 0)) || decide (256 < v.slot)) := ⟨_, rfl⟩; rw [← hg3] at hw3; have hbb3 := H2.out.2.trans hb3; have e3 := HC.out _ hbb3 3; have hlt3 : w.heap.size < w3.heap.size := (by have := hbb3.size; simp only [World.size_alloc] at this; omega); have H3 := Lib.hid (And.intro hw3 hbb3); have G3 := Lib.hid hg3; clear H2 hw3 hb3 hbb3 hg3) | (go_at_call 61; refine (num_calls (w.heap.size + 1) (w.heap.size + 1 + 1) 7 g3 v.view 0 1048576 4 _ H3.out.1 (by omega) (by omega) (by omega) HI4.out).mono ?_; rintro e w4 ⟨⟨_, rfl⟩, hw4, hb4⟩; obtain ⟨g4, hg4⟩ : ∃ g, g = ((g3 || decide (v.view < 0)) || decide (1048576 < v.view)) := ⟨_, rfl⟩; rw [← hg4] at hw4; have hbb4 := H3.out.2.trans hb4; have e4 := HC.out _ hbb4 4; have e5 := HC.out _ hbb4 5; have hlt4 : w.heap.size < w4.heap.size := (by have := hbb4.size; simp only [World.size_alloc] at this; omega); have H4 := Lib.hid (And.intro hw4 hbb4); have G4 := Lib.hid hg4; clear H3 hw4 hb4 hbb4 hg4))
    go_ret2
    exact ⟨⟨_, by rw [HOK.out]; rfl⟩, HX.out.trans (Below.mono H4.out.2 (by simp))⟩
  | false =>
    have hhigh : decide (1048576 < v.valid) = true := by
      have := HVAL.out
      simp at hlow ⊢
      omega
    go_wp2_with (first | (go_at_call 61; refine (num_calls (w.heap.size + 1) (w.heap.size + 1 + 1) 1 false v.kind 1 5 1 _ H0.out.1 (by omega) (by omega) (by omega) HI1.out).mono ?_; rintro e w1 ⟨⟨_, rfl⟩, hw1, hb1⟩; obtain ⟨g1, hg1⟩ : ∃ g, g = ((false || decide (v.kind < 1)) || decide (5 < v.kind)) := ⟨_, rfl⟩; rw [← hg1] at hw1; have hbb1 := H0.out.2.trans hb1; have e1 := HC.out _ hbb1 1; have hlt1 : w.heap.size < w1.heap.size := (by have := hbb1.size; simp only [World.size_alloc] at this; omega); have H1 := Lib.hid (And.intro hw1 hbb1); have G1 := Lib.hid hg1; clear H0 hw1 hb1 hbb1 hg1) | (go_at_call 61; refine (num_calls (w.heap.size + 1) (w.heap.size + 1 + 1) 2 g1 v.frm 1 64 1 _ H1.out.1 (by omega) (by omega) (by omega) HI2.out).mono ?_; rintro e w2 ⟨⟨_, rfl⟩, hw2, hb2⟩; obtain ⟨g2, hg2⟩ : ∃ g, g = ((g1 || decide (v.frm < 1)) || decide (64 < v.frm)) := ⟨_, rfl⟩; rw [← hg2] at hw2; have hbb2 := H1.out.2.trans hb2; have e2 := HC.out _ hbb2 2; have hlt2 : w.heap.size < w2.heap.size := (by have := hbb2.size; simp only [World.size_alloc] at this; omega); have H2 := Lib.hid (And.intro hw2 hbb2); have G2 := Lib.hid hg2; clear H1 hw2 hb2 hbb2 hg2) | (go_at_call 61; refine (num_calls (w.heap.size + 1) (w.heap.size + 1 + 1) 3 g2 v.slot 0 256 4 _ H2.out.1 (by omega) (by omega) (by omega) HI3.out).mono ?_; rintro e w3 ⟨⟨_, rfl⟩, hw3, hb3⟩; obtain ⟨g3, hg3⟩ : ∃ g, g = ((g2 || decide (v.slot < 0)) || decide (256 < v.slot)) := ⟨_, rfl⟩; rw [← hg3] at hw3; have hbb3 := H2.out.2.trans hb3; have e3 := HC.out _ hbb3 3; have hlt3 : w.heap.size < w3.heap.size := (by have := hbb3.size; simp only [World.size_alloc] at this; omega); have H3 := Lib.hid (And.intro hw3 hbb3); have G3 := Lib.hid hg3; clear H2 hw3 hb3 hbb3 hg3) | (go_at_call 61; refine (num_calls (w.heap.size + 1) (w.heap.size + 1 + 1) 7 g3 v.view 0 1048576 4 _ H3.out.1 (by omega) (by omega) (by omega) HI4.out).mono ?_; rintro e w4 ⟨⟨_, rfl⟩, hw4, hb4⟩; obtain ⟨g4, hg4⟩ : ∃ g, g = ((g3 || decide (v.view < 0)) || decide (1048576 < v.view)) := ⟨_, rfl⟩; rw [← hg4] at hw4; have hbb4 := H3.out.2.trans hb4; have e4 := HC.out _ hbb4 4; have e5 := HC.out _ hbb4 5; have hlt4 : w.heap.size < w4.heap.size := (by have := hbb4.size; simp only [World.size_alloc] at this; omega); have H4 := Lib.hid (And.intro hw4 hbb4); have G4 := Lib.hid hg4; clear H3 hw4 hb4 hbb4 hg4))
    go_ret2
    exact ⟨⟨_, by rw [HOK.out]; rfl⟩, HX.out.trans (Below.mono H4.out.2 (by simp))⟩

set_option maxRecDepth 100000 in
set_option maxHeartbeats 4000000 in
theorem encode_near (v : Vote) (A : Option Addr) (C : Nat) (w : World) (hv : BytesAt w (.slice A v.value.length C) v.value) (hin : VoteIn v) (hval : -1 ≤ v.valid ∧ v.valid ≤ 1048576) :
    Calls Try.prog 35 #[.agg (voteCells v (.slice A v.value.length C))] w (fun e w' => (∃ b, e = .returned (.tuple #[b, .int .i64 (voteErr v)])) ∧ Ext w w') := by
  obtain ⟨hv1, hv2⟩ := hval
  have hxa : Ext w (w.alloc (.cells (voteCells v (.slice A v.value.length C)) 28)) := Ext.al (Ext.refl w) _
  obtain ⟨Wa, hWa⟩ : ∃ Wa, Wa = w.alloc (.cells (voteCells v (.slice A v.value.length C)) 28) := ⟨_, rfl⟩
  have hba : Wa.heap[w.heap.size]? = some (.cells (voteCells v (.slice A v.value.length C)) 28 (0, 0)) := by rw [hWa]; exact heap_alloc_new w _
  have hsa : Wa.heap.size = w.heap.size + 1 := by rw [hWa]; simp
  rw [← hWa] at hxa
  have hxb : Ext Wa (Wa.alloc (.cells #[.int .u8 86] 5)) := Ext.al (Ext.refl Wa) _
  have hrow : (Wa.alloc (.cells #[.int .u8 86] 5)).ownsRow Wa.heap.size 5 1 (.slice (some ⟨Wa.heap.size, 0, none⟩) 1 1) 1 [.int .u8 86] := World.ownsRow_lit Wa #[.int .u8 86] 1 (Nat.le_refl _) (by decide) rfl
  have hw0 : WrAt Wa.heap.size (Wa.heap.size + 1) 1 false ((Wa.alloc (.cells #[.int .u8 86] 5)).alloc (.cells #[.slice (some ⟨Wa.heap.size, 0, none⟩) 1 1, .bool false] 99)) :=
    ⟨_, [86], by have := heap_alloc_new (Wa.alloc (.cells #[.int .u8 86] 5)) (.cells #[.slice (some ⟨Wa.heap.size, 0, none⟩) 1 1, .bool false] 99); rw [World.size_alloc] at this; exact this, hrow.alloc _, rfl, fun x hx => by cases hx⟩
  have hbl0 : Below Wa.heap.size Wa ((Wa.alloc (.cells #[.int .u8 86] 5)).alloc (.cells #[.slice (some ⟨Wa.heap.size, 0, none⟩) 1 1, .bool false] 99)) := ((Below.refl _ Wa).alloc (Nat.le_refl _) _).alloc (by simp) _
  have hcell : ∀ W', Below Wa.heap.size Wa W' → ∀ i : Nat, W'.cell? ⟨w.heap.size, i, none⟩ = (voteCells v (.slice A v.value.length C))[i]? := fun W' hb i => by
    have := (hb.block w.heap.size (by omega)).trans hba
    simp [World.cell?, this]
  have hbytes : ∀ W', Below Wa.heap.size Wa W' → BytesAt W' (.slice A v.value.length C) v.value := fun W' hb => (hv.ext hxa).ext hb
  have e0 := hcell _ hbl0 0
  have hlt0 : w.heap.size < ((Wa.alloc (.cells #[.int .u8 86] 5)).alloc (.cells #[.slice (some ⟨Wa.heap.size, 0, none⟩) 1 1, .bool false] 99)).heap.size := by simp; omega
  rw [hsa] at hw0 hbl0 hcell hbytes
  simp only [World.size_alloc, hsa] at hlt0
  subst hWa
  have HX := Lib.hid hxa
  have H0 := Lib.hid (And.intro hw0 hbl0)
  have HC := Lib.hid hcell
  have HBY := Lib.hid hbytes
  obtain ⟨hi1, hi2, hi3, hi4, hi5⟩ := hin
  have HI1 := Lib.hid hi1
  have HI2 := Lib.hid hi2
  have HI3 := Lib.hid hi3
  have HI4 := Lib.hid hi4
  have HI5 := Lib.hid hi5
  clear hxa hxb hrow hw0 hbl0 hcell hbytes hv hba hsa hi1 hi2 hi3 hi4 hi5
  go_enter Try.func35, Try.ntmps35
  unfold voteCells at *
  have hlow : decide (v.valid < -1) = false := by simp; omega
  have hhigh : decide (1048576 < v.valid) = false := by simp; omega
  have HLH := Lib.hid (And.intro hlow hhigh)
  go_wp2_with (first | (go_at_call 61; refine (num_calls (w.heap.size + 1) (w.heap.size + 1 + 1) 1 false v.kind 1 5 1 _ H0.out.1 (by omega) (by omega) (by omega) HI1.out).mono ?_; rintro e w1 ⟨⟨_, rfl⟩, hw1, hb1⟩; obtain ⟨g1, hg1⟩ : ∃ g, g = ((false || decide (v.kind < 1)) || decide (5 < v.kind)) := ⟨_, rfl⟩; rw [← hg1] at hw1; have hbb1 := H0.out.2.trans hb1; have e1 := HC.out _ hbb1 1; have hlt1 : w.heap.size < w1.heap.size := (by have := hbb1.size; simp only [World.size_alloc] at this; omega); have H1 := Lib.hid (And.intro hw1 hbb1); have G1 := Lib.hid hg1; clear H0 hw1 hb1 hbb1 hg1) | (go_at_call 61; refine (num_calls (w.heap.size + 1) (w.heap.size + 1 + 1) 2 g1 v.frm 1 64 1 _ H1.out.1 (by omega) (by omega) (by omega) HI2.out).mono ?_; rintro e w2 ⟨⟨_, rfl⟩, hw2, hb2⟩; obtain ⟨g2, hg2⟩ : ∃ g, g = ((g1 || decide (v.frm < 1)) || decide (64 < v.frm)) := ⟨_, rfl⟩; rw [← hg2] at hw2; have hbb2 := H1.out.2.trans hb2; have e2 := HC.out _ hbb2 2; have hlt2 : w.heap.size < w2.heap.size := (by have := hbb2.size; simp only [World.size_alloc] at this; omega); have H2 := Lib.hid (And.intro hw2 hbb2); have G2 := Lib.hid hg2; clear H1 hw2 hb2 hbb2 hg2) | (go_at_call 61; refine (num_calls (w.heap.size + 1) (w.heap.size + 1 + 1) 3 g2 v.slot 0 256 4 _ H2.out.1 (by omega) (by omega) (by omega) HI3.out).mono ?_; rintro e w3 ⟨⟨_, rfl⟩, hw3, hb3⟩; obtain ⟨g3, hg3⟩ : ∃ g, g = ((g2 || decide (v.slot < 0)) || decide (256 < v.slot)) := ⟨_, rfl⟩; rw [← hg3] at hw3; have hbb3 := H2.out.2.trans hb3; have e3 := HC.out _ hbb3 3; have hlt3 : w.heap.size < w3.heap.size := (by have := hbb3.size; simp only [World.size_alloc] at this; omega); have H3 := Lib.hid (And.intro hw3 hbb3); have G3 := Lib.hid hg3; clear H2 hw3 hb3 hbb3 hg3) | (go_at_call 61; refine (num_calls (w.heap.size + 1) (w.heap.size + 1 + 1) 7 g3 v.view 0 1048576 4 _ H3.out.1 (by omega) (by omega) (by omega) HI4.out).mono ?_; rintro e w4 ⟨⟨_, rfl⟩, hw4, hb4⟩; obtain ⟨g4, hg4⟩ : ∃ g, g = ((g3 || decide (v.view < 0)) || decide (1048576 < v.view)) := ⟨_, rfl⟩; rw [← hg4] at hw4; have hbb4 := H3.out.2.trans hb4; have e4 := HC.out _ hbb4 4; have e5 := HC.out _ hbb4 5; have hlt4 : w.heap.size < w4.heap.size := (by have := hbb4.size; simp only [World.size_alloc] at this; omega); have H4 := Lib.hid (And.intro hw4 hbb4); have G4 := Lib.hid hg4; clear H3 hw4 hb4 hbb4 hg4) | (go_at_call 61; refine (num_calls (w.heap.size + 1) (w.heap.size + 1 + 1) 11 g4 (v.valid + 1) 0 1048577 4 _ H4.out.1 (by omega) (by omega) (by omega) (by omega)).mono ?_; rintro e w5 ⟨⟨_, rfl⟩, hw5, hb5⟩; obtain ⟨g5, hg5⟩ : ∃ g, g = ((g4 || decide ((v.valid + 1) < 0)) || decide (1048577 < (v.valid + 1))) := ⟨_, rfl⟩; rw [← hg5] at hw5; have hbb5 := H4.out.2.trans hb5; have e5 := HC.out _ hbb5 5; have hx5 : ∀ W', Below (w.heap.size + 1) w5 W' → BytesAt W' (.slice A v.value.length C) v.value := (fun W' h => HBY.out W' (hbb5.trans h)); have HX5 := Lib.hid hx5; clear hx5; have hlt5 : w.heap.size < w5.heap.size := (by have := hbb5.size; simp only [World.size_alloc] at this; omega); have H5 := Lib.hid (And.intro hw5 hbb5); have G5 := Lib.hid hg5; clear H4 hw5 hb5 hbb5 hg5) | (go_at_call 62; refine (text_calls (w.heap.size + 1) (w.heap.size + 1 + 1) 15 g5 A C v.value 4096 _ H5.out.1 (by omega) (by omega) (by omega) HX5.out).mono ?_; rintro e w6 ⟨⟨_, rfl⟩, ⟨n6, hw6⟩, hb6⟩; obtain ⟨g6, hg6⟩ : ∃ g, g = (g5 || decide (4096 < (v.value.length : Int))) := ⟨_, rfl⟩; rw [← hg6] at hw6; have hbb6 := H5.out.2.trans hb6; obtain ⟨v6, l6, p6, _⟩ := id hw6; have k0 : w6.cell? ⟨w.heap.size + 1 + 1, 0, none⟩ = some v6 := (by simp [World.cell?, p6]); have k1 : w6.cell? ⟨w.heap.size + 1 + 1, 1, none⟩ = some (.bool g6) := (by simp [World.cell?, p6]); have hlt6 : w.heap.size + 1 + 1 < w6.heap.size := hw6.lt; have H6 := Lib.hid hbb6; have G6 := Lib.hid hg6; clear H5 hw6 hb6 hbb6 hg6 p6))
  all_goals
    (have hok : voteErr v = if g6 then 3 else 0 := by
       unfold voteErr
       rw [voteOk_eq, HLH.out.1, HLH.out.2, G6.out, G5.out, G4.out, G3.out, G2.out, G1.out]
       cases (((((((((((false || decide (v.kind < 1)) || decide (5 < v.kind)) || decide (v.frm < 1)) || decide (64 < v.frm)) || decide (v.slot < 0)) || decide (256 < v.slot)) || decide (v.view < 0)) || decide (1048576 < v.view)) || decide (v.valid + 1 < 0)) || decide (1048577 < v.valid + 1)) || decide (4096 < (v.value.length : Int))) <;> rfl
     go_ret2
     refine ⟨⟨_, by rw [hok]; simp [*]; rfl⟩, HX.out.trans (Below.mono H6.out (by simp))⟩)

theorem encode_calls (v : Vote) (A : Option Addr) (C : Nat) (w : World) (hv : BytesAt w (.slice A v.value.length C) v.value) (hin : VoteIn v) :
    Calls Try.prog 35 #[.agg (voteCells v (.slice A v.value.length C))] w (fun e w' => (∃ b, e = .returned (.tuple #[b, .int .i64 (voteErr v)])) ∧ Ext w w') := by
  by_cases h : -1 ≤ v.valid ∧ v.valid ≤ 1048576
  · exact encode_near v A C w hv hin h
  · exact encode_far v A C w hv hin (by omega)
end Go.Proofs.Ytkpllkjionegeaa

/- Walks: what a peer told is taken (Take). -/
namespace Go.Proofs.Ytkpllkjionegeaa
open Go Go.RowKit

/-- what taking leaves -/
def TakePost (cb : Nat) (L : Lay) (r : Bool × Core) (w : World) (e : Ending) (w' : World) : Prop :=
  ∃ L', e = .returned (.bool r.1) ∧ CoreAt w' cb r.2 L' ∧ Moves cb L L' w w'



set_option maxRecDepth 100000 in
set_option maxHeartbeats 800000 in
theorem take_alien (cb : Nat) (c : Core) (L : Lay) (acc : Bytes → Bool) (Cs : List Nat) (k : FuncId) (caps : Array Value) (v : Vote) (A : Option Addr) (C : Nat) (w : World) (hc : CoreAt w cb c L) (hw : Wf c) (ha : AccAt w L.acc acc Cs k caps) (hsep : ∀ b ∈ Cs, ¬ Own cb L b) (hv : BytesAt w (.slice A v.value.length C) v.value) (hlen : v.value.length ≤ 1000000) (hin : VoteIn v) (hno : v.slot ≠ c.slot ∨ c.n < v.frm ∨ v.frm = c.me) :
    Calls Try.prog 13 #[.pointer (some ⟨cb, 0, none⟩), .agg (voteCells v (.slice A v.value.length C))] w (TakePost cb L (c.take acc v) w) := by
  have HF : Hid (c.take acc v = (false, c)) := Lib.hid (by unfold Core.take; rw [if_pos (by rcases hno with h | h | h <;> simp [h])])
  cases t1 : (v.slot != c.slot) with
  | true =>
    clear hno
    have hbox := boxed w (voteCells v (.slice A v.value.length C)) 28
    obtain ⟨W, hW⟩ : ∃ W, W = w.alloc (.cells (voteCells v (.slice A v.value.length C)) 28) := ⟨_, rfl⟩
    rw [← hW] at hbox
    obtain ⟨hx, hcells, hsz⟩ := hbox
    have hcW := hc.ext hx
    have hlt := hc.lt
    have hlt2 := hcW.lt
    have hvb : w.heap.size < W.heap.size := by omega
    have v1 : W.cell? ⟨w.heap.size, 1, none⟩ = some (.int .i64 v.frm) := hcells 1
    have v2 : W.cell? ⟨w.heap.size, 2, none⟩ = some (.int .i64 v.slot) := hcells 2
    have c0 := hcW.c0
    have c1 := hcW.c1
    have c2 := hcW.c2
    have HC := Lib.hid hc
    have HCE := Lib.hid hcells
    have HX := Lib.hid hx
    have HW := Lib.hid hw
    have HA := Lib.hid ha
    have HSEP := Lib.hid hsep
    have HV := Lib.hid hv
    have HLEN := Lib.hid hlen
    have HIN := Lib.hid hin
    have HWE := Lib.hid hW
    clear hc hcells hx hw ha hsep hv hlen hin hW hcW
    go_enter Try.func13, Try.ntmps13
    go_wp2
    unfold voteCells at *
    rw [← HWE.out]
    refine wp_region_T [] (.pure 0 (.pure 1 (.pure 2 (.pure 3 (.pure 5 (.pure 6 (.pure 7 (.take 4 (.take 8 (.pure 9 (.pure 10 (.pure 11 (.pure 12 (.pure 14 (.pure 15 (.pure 16 (.take 13 (.take 17 (.pure 18 (.pure 19 (.pure 20 (.pure 21 (.pure 23 (.pure 24 (.pure 25 (.take 22 (.take 26 (.pure 27 (.pure 28 .nil))))))))))))))))))))))))))))) (by kernel_rfl) (by kernel_rfl) ?_
    iterate 3 (refine' wpT_pure rfl rfl (fun w' => ?_) ?_; rotate_left 1; (focus ((try go_simp); (try go_bits); (first | done | with_reducible rfl))); simp only [Act.put, List.setIfInBounds_toArray, List.set_cons_zero, List.set_cons_succ])
    iterate 4 (first | (refine' wpT_pure_on rfl rfl (fun w' => ?_) ?_; rotate_left 1; (focus ((try go_simp); (try go_bits); (first | done | with_reducible rfl))); simp only [Act.put, List.setIfInBounds_toArray, List.set_cons_zero, List.set_cons_succ]) | (refine wpT_pure_off rfl rfl ?_; simp only [Act.put, List.setIfInBounds_toArray, List.set_cons_zero, List.set_cons_succ]))
    iterate 2 (first | (refine' wpT_take_on_dddd rfl rfl (fun w' hc hl hsz => ?_) ?_; rotate_left 1; (focus ((try go_simp); (try go_bits); (first | done | with_reducible rfl))); simp only [Act.put, List.setIfInBounds_toArray, List.set_cons_zero, List.set_cons_succ]) | (refine' wpT_take_on_ddd rfl rfl (fun w' hc hl hsz => ?_) ?_; rotate_left 1; (focus ((try go_simp); (try go_bits); (first | done | with_reducible rfl))); simp only [Act.put, List.setIfInBounds_toArray, List.set_cons_zero, List.set_cons_succ]) | (refine' wpT_take_on_dd rfl rfl (fun w' hc hl hsz => ?_) ?_; rotate_left 1; (focus ((try go_simp); (try go_bits); (first | done | with_reducible rfl))); simp only [Act.put, List.setIfInBounds_toArray, List.set_cons_zero, List.set_cons_succ]) | (refine' wpT_take_on_d rfl rfl (fun w' hc hl hsz => ?_) ?_; rotate_left 1; (focus ((try go_simp); (try go_bits); (first | done | with_reducible rfl))); simp only [Act.put, List.setIfInBounds_toArray, List.set_cons_zero, List.set_cons_succ]) | (refine wpT_take_off rfl rfl ?_; simp only [Act.put, List.setIfInBounds_toArray, List.set_cons_zero, List.set_cons_succ]))
    first | (refine' wpT_pure_on rfl rfl (fun w' => ?_) ?_; rotate_left 1; (focus ((try go_simp); (try go_bits); (first | done | with_reducible rfl))); simp only [Act.put, List.setIfInBounds_toArray, List.set_cons_zero, List.set_cons_succ]) | (refine wpT_pure_off rfl rfl ?_; simp only [Act.put, List.setIfInBounds_toArray, List.set_cons_zero, List.set_cons_succ])
    iterate 2 (refine' wpT_pure rfl rfl (fun w' => ?_) ?_; rotate_left 1; (focus ((try go_simp); (try go_bits); (first | done | with_reducible rfl))); simp only [Act.put, List.setIfInBounds_toArray, List.set_cons_zero, List.set_cons_succ])
    iterate 4 (first | (refine' wpT_pure_on rfl rfl (fun w' => ?_) ?_; rotate_left 1; (focus ((try go_simp); (try go_bits); (first | done | with_reducible rfl))); simp only [Act.put, List.setIfInBounds_toArray, List.set_cons_zero, List.set_cons_succ]) | (refine wpT_pure_off rfl rfl ?_; simp only [Act.put, List.setIfInBounds_toArray, List.set_cons_zero, List.set_cons_succ]))
    iterate 2 (first | (refine' wpT_take_on_dddd rfl rfl (fun w' hc hl hsz => ?_) ?_; rotate_left 1; (focus ((try go_simp); (try go_bits); (first | done | with_reducible rfl))); simp only [Act.put, List.setIfInBounds_toArray, List.set_cons_zero, List.set_cons_succ]) | (refine' wpT_take_on_ddd rfl rfl (fun w' hc hl hsz => ?_) ?_; rotate_left 1; (focus ((try go_simp); (try go_bits); (first | done | with_reducible rfl))); simp only [Act.put, List.setIfInBounds_toArray, List.set_cons_zero, List.set_cons_succ]) | (refine' wpT_take_on_dd rfl rfl (fun w' hc hl hsz => ?_) ?_; rotate_left 1; (focus ((try go_simp); (try go_bits); (first | done | with_reducible rfl))); simp only [Act.put, List.setIfInBounds_toArray, List.set_cons_zero, List.set_cons_succ]) | (refine' wpT_take_on_d rfl rfl (fun w' hc hl hsz => ?_) ?_; rotate_left 1; (focus ((try go_simp); (try go_bits); (first | done | with_reducible rfl))); simp only [Act.put, List.setIfInBounds_toArray, List.set_cons_zero, List.set_cons_succ]) | (refine wpT_take_off rfl rfl ?_; simp only [Act.put, List.setIfInBounds_toArray, List.set_cons_zero, List.set_cons_succ]))
    first | (refine' wpT_pure_on rfl rfl (fun w' => ?_) ?_; rotate_left 1; (focus ((try go_simp); (try go_bits); (first | done | with_reducible rfl))); simp only [Act.put, List.setIfInBounds_toArray, List.set_cons_zero, List.set_cons_succ]) | (refine wpT_pure_off rfl rfl ?_; simp only [Act.put, List.setIfInBounds_toArray, List.set_cons_zero, List.set_cons_succ])
    iterate 2 (refine' wpT_pure rfl rfl (fun w' => ?_) ?_; rotate_left 1; (focus ((try go_simp); (try go_bits); (first | done | with_reducible rfl))); simp only [Act.put, List.setIfInBounds_toArray, List.set_cons_zero, List.set_cons_succ])
    iterate 4 (first | (refine' wpT_pure_on rfl rfl (fun w' => ?_) ?_; rotate_left 1; (focus ((try go_simp); (try go_bits); (first | done | with_reducible rfl))); simp only [Act.put, List.setIfInBounds_toArray, List.set_cons_zero, List.set_cons_succ]) | (refine wpT_pure_off rfl rfl ?_; simp only [Act.put, List.setIfInBounds_toArray, List.set_cons_zero, List.set_cons_succ]))
    iterate 2 (first | (refine' wpT_take_on_dddd rfl rfl (fun w' hc hl hsz => ?_) ?_; rotate_left 1; (focus ((try go_simp); (try go_bits); (first | done | with_reducible rfl))); simp only [Act.put, List.setIfInBounds_toArray, List.set_cons_zero, List.set_cons_succ]) | (refine' wpT_take_on_ddd rfl rfl (fun w' hc hl hsz => ?_) ?_; rotate_left 1; (focus ((try go_simp); (try go_bits); (first | done | with_reducible rfl))); simp only [Act.put, List.setIfInBounds_toArray, List.set_cons_zero, List.set_cons_succ]) | (refine' wpT_take_on_dd rfl rfl (fun w' hc hl hsz => ?_) ?_; rotate_left 1; (focus ((try go_simp); (try go_bits); (first | done | with_reducible rfl))); simp only [Act.put, List.setIfInBounds_toArray, List.set_cons_zero, List.set_cons_succ]) | (refine' wpT_take_on_d rfl rfl (fun w' hc hl hsz => ?_) ?_; rotate_left 1; (focus ((try go_simp); (try go_bits); (first | done | with_reducible rfl))); simp only [Act.put, List.setIfInBounds_toArray, List.set_cons_zero, List.set_cons_succ]) | (refine wpT_take_off rfl rfl ?_; simp only [Act.put, List.setIfInBounds_toArray, List.set_cons_zero, List.set_cons_succ]))
    first | (refine' wpT_pure_on rfl rfl (fun w' => ?_) ?_; rotate_left 1; (focus ((try go_simp); (try go_bits); (first | done | with_reducible rfl))); simp only [Act.put, List.setIfInBounds_toArray, List.set_cons_zero, List.set_cons_succ]) | (refine wpT_pure_off rfl rfl ?_; simp only [Act.put, List.setIfInBounds_toArray, List.set_cons_zero, List.set_cons_succ])
    (refine' wpT_pure rfl rfl (fun w' => ?_) ?_; rotate_left 1; (focus ((try go_simp); (try go_bits); (first | done | with_reducible rfl))); simp only [Act.put, List.setIfInBounds_toArray, List.set_cons_zero, List.set_cons_succ])
    refine wpT_nil ?_
    go_wp2
    go_ret
    rw [HF.out]
    exact ⟨L, rfl, HC.out.ext (Ext.trans HX.out (Ext.refl W).dr), Moves.of_ext (Ext.trans HX.out (Ext.refl W).dr)⟩
  | false =>
    have hno := hno.resolve_left (by simpa using t1)
    cases t2 : decide (c.n < v.frm) with
    | true =>
      clear hno
      have hbox := boxed w (voteCells v (.slice A v.value.length C)) 28
      obtain ⟨W, hW⟩ : ∃ W, W = w.alloc (.cells (voteCells v (.slice A v.value.length C)) 28) := ⟨_, rfl⟩
      rw [← hW] at hbox
      obtain ⟨hx, hcells, hsz⟩ := hbox
      have hcW := hc.ext hx
      have hlt := hc.lt
      have hlt2 := hcW.lt
      have hvb : w.heap.size < W.heap.size := by omega
      have v1 : W.cell? ⟨w.heap.size, 1, none⟩ = some (.int .i64 v.frm) := hcells 1
      have v2 : W.cell? ⟨w.heap.size, 2, none⟩ = some (.int .i64 v.slot) := hcells 2
      have c0 := hcW.c0
      have c1 := hcW.c1
      have c2 := hcW.c2
      have HC := Lib.hid hc
      have HCE := Lib.hid hcells
      have HX := Lib.hid hx
      have HW := Lib.hid hw
      have HA := Lib.hid ha
      have HSEP := Lib.hid hsep
      have HV := Lib.hid hv
      have HLEN := Lib.hid hlen
      have HIN := Lib.hid hin
      have HWE := Lib.hid hW
      clear hc hcells hx hw ha hsep hv hlen hin hW hcW
      go_enter Try.func13, Try.ntmps13
      go_wp2
      unfold voteCells at *
      rw [← HWE.out]
      refine wp_region_T [] (.pure 0 (.pure 1 (.pure 2 (.pure 3 (.pure 5 (.pure 6 (.pure 7 (.take 4 (.take 8 (.pure 9 (.pure 10 (.pure 11 (.pure 12 (.pure 14 (.pure 15 (.pure 16 (.take 13 (.take 17 (.pure 18 (.pure 19 (.pure 20 (.pure 21 (.pure 23 (.pure 24 (.pure 25 (.take 22 (.take 26 (.pure 27 (.pure 28 .nil))))))))))))))))))))))))))))) (by kernel_rfl) (by kernel_rfl) ?_
      iterate 3 (refine' wpT_pure rfl rfl (fun w' => ?_) ?_; rotate_left 1; (focus ((try go_simp); (try go_bits); (first | done | with_reducible rfl))); simp only [Act.put, List.setIfInBounds_toArray, List.set_cons_zero, List.set_cons_succ])
      iterate 4 (first | (refine' wpT_pure_on rfl rfl (fun w' => ?_) ?_; rotate_left 1; (focus ((try go_simp); (try go_bits); (first | done | with_reducible rfl))); simp only [Act.put, List.setIfInBounds_toArray, List.set_cons_zero, List.set_cons_succ]) | (refine wpT_pure_off rfl rfl ?_; simp only [Act.put, List.setIfInBounds_toArray, List.set_cons_zero, List.set_cons_succ]))
      iterate 2 (first | (refine' wpT_take_on_dddd rfl rfl (fun w' hc hl hsz => ?_) ?_; rotate_left 1; (focus ((try go_simp); (try go_bits); (first | done | with_reducible rfl))); simp only [Act.put, List.setIfInBounds_toArray, List.set_cons_zero, List.set_cons_succ]) | (refine' wpT_take_on_ddd rfl rfl (fun w' hc hl hsz => ?_) ?_; rotate_left 1; (focus ((try go_simp); (try go_bits); (first | done | with_reducible rfl))); simp only [Act.put, List.setIfInBounds_toArray, List.set_cons_zero, List.set_cons_succ]) | (refine' wpT_take_on_dd rfl rfl (fun w' hc hl hsz => ?_) ?_; rotate_left 1; (focus ((try go_simp); (try go_bits); (first | done | with_reducible rfl))); simp only [Act.put, List.setIfInBounds_toArray, List.set_cons_zero, List.set_cons_succ]) | (refine' wpT_take_on_d rfl rfl (fun w' hc hl hsz => ?_) ?_; rotate_left 1; (focus ((try go_simp); (try go_bits); (first | done | with_reducible rfl))); simp only [Act.put, List.setIfInBounds_toArray, List.set_cons_zero, List.set_cons_succ]) | (refine wpT_take_off rfl rfl ?_; simp only [Act.put, List.setIfInBounds_toArray, List.set_cons_zero, List.set_cons_succ]))
      first | (refine' wpT_pure_on rfl rfl (fun w' => ?_) ?_; rotate_left 1; (focus ((try go_simp); (try go_bits); (first | done | with_reducible rfl))); simp only [Act.put, List.setIfInBounds_toArray, List.set_cons_zero, List.set_cons_succ]) | (refine wpT_pure_off rfl rfl ?_; simp only [Act.put, List.setIfInBounds_toArray, List.set_cons_zero, List.set_cons_succ])
      iterate 2 (refine' wpT_pure rfl rfl (fun w' => ?_) ?_; rotate_left 1; (focus ((try go_simp); (try go_bits); (first | done | with_reducible rfl))); simp only [Act.put, List.setIfInBounds_toArray, List.set_cons_zero, List.set_cons_succ])
      iterate 4 (first | (refine' wpT_pure_on rfl rfl (fun w' => ?_) ?_; rotate_left 1; (focus ((try go_simp); (try go_bits); (first | done | with_reducible rfl))); simp only [Act.put, List.setIfInBounds_toArray, List.set_cons_zero, List.set_cons_succ]) | (refine wpT_pure_off rfl rfl ?_; simp only [Act.put, List.setIfInBounds_toArray, List.set_cons_zero, List.set_cons_succ]))
      iterate 2 (first | (refine' wpT_take_on_dddd rfl rfl (fun w' hc hl hsz => ?_) ?_; rotate_left 1; (focus ((try go_simp); (try go_bits); (first | done | with_reducible rfl))); simp only [Act.put, List.setIfInBounds_toArray, List.set_cons_zero, List.set_cons_succ]) | (refine' wpT_take_on_ddd rfl rfl (fun w' hc hl hsz => ?_) ?_; rotate_left 1; (focus ((try go_simp); (try go_bits); (first | done | with_reducible rfl))); simp only [Act.put, List.setIfInBounds_toArray, List.set_cons_zero, List.set_cons_succ]) | (refine' wpT_take_on_dd rfl rfl (fun w' hc hl hsz => ?_) ?_; rotate_left 1; (focus ((try go_simp); (try go_bits); (first | done | with_reducible rfl))); simp only [Act.put, List.setIfInBounds_toArray, List.set_cons_zero, List.set_cons_succ]) | (refine' wpT_take_on_d rfl rfl (fun w' hc hl hsz => ?_) ?_; rotate_left 1; (focus ((try go_simp); (try go_bits); (first | done | with_reducible rfl))); simp only [Act.put, List.setIfInBounds_toArray, List.set_cons_zero, List.set_cons_succ]) | (refine wpT_take_off rfl rfl ?_; simp only [Act.put, List.setIfInBounds_toArray, List.set_cons_zero, List.set_cons_succ]))
      first | (refine' wpT_pure_on rfl rfl (fun w' => ?_) ?_; rotate_left 1; (focus ((try go_simp); (try go_bits); (first | done | with_reducible rfl))); simp only [Act.put, List.setIfInBounds_toArray, List.set_cons_zero, List.set_cons_succ]) | (refine wpT_pure_off rfl rfl ?_; simp only [Act.put, List.setIfInBounds_toArray, List.set_cons_zero, List.set_cons_succ])
      iterate 2 (refine' wpT_pure rfl rfl (fun w' => ?_) ?_; rotate_left 1; (focus ((try go_simp); (try go_bits); (first | done | with_reducible rfl))); simp only [Act.put, List.setIfInBounds_toArray, List.set_cons_zero, List.set_cons_succ])
      iterate 4 (first | (refine' wpT_pure_on rfl rfl (fun w' => ?_) ?_; rotate_left 1; (focus ((try go_simp); (try go_bits); (first | done | with_reducible rfl))); simp only [Act.put, List.setIfInBounds_toArray, List.set_cons_zero, List.set_cons_succ]) | (refine wpT_pure_off rfl rfl ?_; simp only [Act.put, List.setIfInBounds_toArray, List.set_cons_zero, List.set_cons_succ]))
      iterate 2 (first | (refine' wpT_take_on_dddd rfl rfl (fun w' hc hl hsz => ?_) ?_; rotate_left 1; (focus ((try go_simp); (try go_bits); (first | done | with_reducible rfl))); simp only [Act.put, List.setIfInBounds_toArray, List.set_cons_zero, List.set_cons_succ]) | (refine' wpT_take_on_ddd rfl rfl (fun w' hc hl hsz => ?_) ?_; rotate_left 1; (focus ((try go_simp); (try go_bits); (first | done | with_reducible rfl))); simp only [Act.put, List.setIfInBounds_toArray, List.set_cons_zero, List.set_cons_succ]) | (refine' wpT_take_on_dd rfl rfl (fun w' hc hl hsz => ?_) ?_; rotate_left 1; (focus ((try go_simp); (try go_bits); (first | done | with_reducible rfl))); simp only [Act.put, List.setIfInBounds_toArray, List.set_cons_zero, List.set_cons_succ]) | (refine' wpT_take_on_d rfl rfl (fun w' hc hl hsz => ?_) ?_; rotate_left 1; (focus ((try go_simp); (try go_bits); (first | done | with_reducible rfl))); simp only [Act.put, List.setIfInBounds_toArray, List.set_cons_zero, List.set_cons_succ]) | (refine wpT_take_off rfl rfl ?_; simp only [Act.put, List.setIfInBounds_toArray, List.set_cons_zero, List.set_cons_succ]))
      first | (refine' wpT_pure_on rfl rfl (fun w' => ?_) ?_; rotate_left 1; (focus ((try go_simp); (try go_bits); (first | done | with_reducible rfl))); simp only [Act.put, List.setIfInBounds_toArray, List.set_cons_zero, List.set_cons_succ]) | (refine wpT_pure_off rfl rfl ?_; simp only [Act.put, List.setIfInBounds_toArray, List.set_cons_zero, List.set_cons_succ])
      (refine' wpT_pure rfl rfl (fun w' => ?_) ?_; rotate_left 1; (focus ((try go_simp); (try go_bits); (first | done | with_reducible rfl))); simp only [Act.put, List.setIfInBounds_toArray, List.set_cons_zero, List.set_cons_succ])
      refine wpT_nil ?_
      go_wp2
      go_ret
      rw [HF.out]
      exact ⟨L, rfl, HC.out.ext (Ext.trans HX.out (Ext.refl W).dr), Moves.of_ext (Ext.trans HX.out (Ext.refl W).dr)⟩
    | false =>
      have hno := hno.resolve_left (by simpa using t2)
      have t3 : (v.frm == c.me) = true := by simpa using hno
      clear hno
      have hbox := boxed w (voteCells v (.slice A v.value.length C)) 28
      obtain ⟨W, hW⟩ : ∃ W, W = w.alloc (.cells (voteCells v (.slice A v.value.length C)) 28) := ⟨_, rfl⟩
      rw [← hW] at hbox
      obtain ⟨hx, hcells, hsz⟩ := hbox
      have hcW := hc.ext hx
      have hlt := hc.lt
      have hlt2 := hcW.lt
      have hvb : w.heap.size < W.heap.size := by omega
      have v1 : W.cell? ⟨w.heap.size, 1, none⟩ = some (.int .i64 v.frm) := hcells 1
      have v2 : W.cell? ⟨w.heap.size, 2, none⟩ = some (.int .i64 v.slot) := hcells 2
      have c0 := hcW.c0
      have c1 := hcW.c1
      have c2 := hcW.c2
      have HC := Lib.hid hc
      have HCE := Lib.hid hcells
      have HX := Lib.hid hx
      have HW := Lib.hid hw
      have HA := Lib.hid ha
      have HSEP := Lib.hid hsep
      have HV := Lib.hid hv
      have HLEN := Lib.hid hlen
      have HIN := Lib.hid hin
      have HWE := Lib.hid hW
      clear hc hcells hx hw ha hsep hv hlen hin hW hcW
      go_enter Try.func13, Try.ntmps13
      go_wp2
      unfold voteCells at *
      rw [← HWE.out]
      refine wp_region_T [] (.pure 0 (.pure 1 (.pure 2 (.pure 3 (.pure 5 (.pure 6 (.pure 7 (.take 4 (.take 8 (.pure 9 (.pure 10 (.pure 11 (.pure 12 (.pure 14 (.pure 15 (.pure 16 (.take 13 (.take 17 (.pure 18 (.pure 19 (.pure 20 (.pure 21 (.pure 23 (.pure 24 (.pure 25 (.take 22 (.take 26 (.pure 27 (.pure 28 .nil))))))))))))))))))))))))))))) (by kernel_rfl) (by kernel_rfl) ?_
      iterate 3 (refine' wpT_pure rfl rfl (fun w' => ?_) ?_; rotate_left 1; (focus ((try go_simp); (try go_bits); (first | done | with_reducible rfl))); simp only [Act.put, List.setIfInBounds_toArray, List.set_cons_zero, List.set_cons_succ])
      iterate 4 (first | (refine' wpT_pure_on rfl rfl (fun w' => ?_) ?_; rotate_left 1; (focus ((try go_simp); (try go_bits); (first | done | with_reducible rfl))); simp only [Act.put, List.setIfInBounds_toArray, List.set_cons_zero, List.set_cons_succ]) | (refine wpT_pure_off rfl rfl ?_; simp only [Act.put, List.setIfInBounds_toArray, List.set_cons_zero, List.set_cons_succ]))
      iterate 2 (first | (refine' wpT_take_on_dddd rfl rfl (fun w' hc hl hsz => ?_) ?_; rotate_left 1; (focus ((try go_simp); (try go_bits); (first | done | with_reducible rfl))); simp only [Act.put, List.setIfInBounds_toArray, List.set_cons_zero, List.set_cons_succ]) | (refine' wpT_take_on_ddd rfl rfl (fun w' hc hl hsz => ?_) ?_; rotate_left 1; (focus ((try go_simp); (try go_bits); (first | done | with_reducible rfl))); simp only [Act.put, List.setIfInBounds_toArray, List.set_cons_zero, List.set_cons_succ]) | (refine' wpT_take_on_dd rfl rfl (fun w' hc hl hsz => ?_) ?_; rotate_left 1; (focus ((try go_simp); (try go_bits); (first | done | with_reducible rfl))); simp only [Act.put, List.setIfInBounds_toArray, List.set_cons_zero, List.set_cons_succ]) | (refine' wpT_take_on_d rfl rfl (fun w' hc hl hsz => ?_) ?_; rotate_left 1; (focus ((try go_simp); (try go_bits); (first | done | with_reducible rfl))); simp only [Act.put, List.setIfInBounds_toArray, List.set_cons_zero, List.set_cons_succ]) | (refine wpT_take_off rfl rfl ?_; simp only [Act.put, List.setIfInBounds_toArray, List.set_cons_zero, List.set_cons_succ]))
      first | (refine' wpT_pure_on rfl rfl (fun w' => ?_) ?_; rotate_left 1; (focus ((try go_simp); (try go_bits); (first | done | with_reducible rfl))); simp only [Act.put, List.setIfInBounds_toArray, List.set_cons_zero, List.set_cons_succ]) | (refine wpT_pure_off rfl rfl ?_; simp only [Act.put, List.setIfInBounds_toArray, List.set_cons_zero, List.set_cons_succ])
      iterate 2 (refine' wpT_pure rfl rfl (fun w' => ?_) ?_; rotate_left 1; (focus ((try go_simp); (try go_bits); (first | done | with_reducible rfl))); simp only [Act.put, List.setIfInBounds_toArray, List.set_cons_zero, List.set_cons_succ])
      iterate 4 (first | (refine' wpT_pure_on rfl rfl (fun w' => ?_) ?_; rotate_left 1; (focus ((try go_simp); (try go_bits); (first | done | with_reducible rfl))); simp only [Act.put, List.setIfInBounds_toArray, List.set_cons_zero, List.set_cons_succ]) | (refine wpT_pure_off rfl rfl ?_; simp only [Act.put, List.setIfInBounds_toArray, List.set_cons_zero, List.set_cons_succ]))
      iterate 2 (first | (refine' wpT_take_on_dddd rfl rfl (fun w' hc hl hsz => ?_) ?_; rotate_left 1; (focus ((try go_simp); (try go_bits); (first | done | with_reducible rfl))); simp only [Act.put, List.setIfInBounds_toArray, List.set_cons_zero, List.set_cons_succ]) | (refine' wpT_take_on_ddd rfl rfl (fun w' hc hl hsz => ?_) ?_; rotate_left 1; (focus ((try go_simp); (try go_bits); (first | done | with_reducible rfl))); simp only [Act.put, List.setIfInBounds_toArray, List.set_cons_zero, List.set_cons_succ]) | (refine' wpT_take_on_dd rfl rfl (fun w' hc hl hsz => ?_) ?_; rotate_left 1; (focus ((try go_simp); (try go_bits); (first | done | with_reducible rfl))); simp only [Act.put, List.setIfInBounds_toArray, List.set_cons_zero, List.set_cons_succ]) | (refine' wpT_take_on_d rfl rfl (fun w' hc hl hsz => ?_) ?_; rotate_left 1; (focus ((try go_simp); (try go_bits); (first | done | with_reducible rfl))); simp only [Act.put, List.setIfInBounds_toArray, List.set_cons_zero, List.set_cons_succ]) | (refine wpT_take_off rfl rfl ?_; simp only [Act.put, List.setIfInBounds_toArray, List.set_cons_zero, List.set_cons_succ]))
      first | (refine' wpT_pure_on rfl rfl (fun w' => ?_) ?_; rotate_left 1; (focus ((try go_simp); (try go_bits); (first | done | with_reducible rfl))); simp only [Act.put, List.setIfInBounds_toArray, List.set_cons_zero, List.set_cons_succ]) | (refine wpT_pure_off rfl rfl ?_; simp only [Act.put, List.setIfInBounds_toArray, List.set_cons_zero, List.set_cons_succ])
      iterate 2 (refine' wpT_pure rfl rfl (fun w' => ?_) ?_; rotate_left 1; (focus ((try go_simp); (try go_bits); (first | done | with_reducible rfl))); simp only [Act.put, List.setIfInBounds_toArray, List.set_cons_zero, List.set_cons_succ])
      iterate 4 (first | (refine' wpT_pure_on rfl rfl (fun w' => ?_) ?_; rotate_left 1; (focus ((try go_simp); (try go_bits); (first | done | with_reducible rfl))); simp only [Act.put, List.setIfInBounds_toArray, List.set_cons_zero, List.set_cons_succ]) | (refine wpT_pure_off rfl rfl ?_; simp only [Act.put, List.setIfInBounds_toArray, List.set_cons_zero, List.set_cons_succ]))
      iterate 2 (first | (refine' wpT_take_on_dddd rfl rfl (fun w' hc hl hsz => ?_) ?_; rotate_left 1; (focus ((try go_simp); (try go_bits); (first | done | with_reducible rfl))); simp only [Act.put, List.setIfInBounds_toArray, List.set_cons_zero, List.set_cons_succ]) | (refine' wpT_take_on_ddd rfl rfl (fun w' hc hl hsz => ?_) ?_; rotate_left 1; (focus ((try go_simp); (try go_bits); (first | done | with_reducible rfl))); simp only [Act.put, List.setIfInBounds_toArray, List.set_cons_zero, List.set_cons_succ]) | (refine' wpT_take_on_dd rfl rfl (fun w' hc hl hsz => ?_) ?_; rotate_left 1; (focus ((try go_simp); (try go_bits); (first | done | with_reducible rfl))); simp only [Act.put, List.setIfInBounds_toArray, List.set_cons_zero, List.set_cons_succ]) | (refine' wpT_take_on_d rfl rfl (fun w' hc hl hsz => ?_) ?_; rotate_left 1; (focus ((try go_simp); (try go_bits); (first | done | with_reducible rfl))); simp only [Act.put, List.setIfInBounds_toArray, List.set_cons_zero, List.set_cons_succ]) | (refine wpT_take_off rfl rfl ?_; simp only [Act.put, List.setIfInBounds_toArray, List.set_cons_zero, List.set_cons_succ]))
      first | (refine' wpT_pure_on rfl rfl (fun w' => ?_) ?_; rotate_left 1; (focus ((try go_simp); (try go_bits); (first | done | with_reducible rfl))); simp only [Act.put, List.setIfInBounds_toArray, List.set_cons_zero, List.set_cons_succ]) | (refine wpT_pure_off rfl rfl ?_; simp only [Act.put, List.setIfInBounds_toArray, List.set_cons_zero, List.set_cons_succ])
      (refine' wpT_pure rfl rfl (fun w' => ?_) ?_; rotate_left 1; (focus ((try go_simp); (try go_bits); (first | done | with_reducible rfl))); simp only [Act.put, List.setIfInBounds_toArray, List.set_cons_zero, List.set_cons_succ])
      refine wpT_nil ?_
      go_wp2
      go_ret
      rw [HF.out]
      exact ⟨L, rfl, HC.out.ext (Ext.trans HX.out (Ext.refl W).dr), Moves.of_ext (Ext.trans HX.out (Ext.refl W).dr)⟩

theorem not_own {w : World} {cb : Nat} {c : Core} {L : Lay} (h : CoreAt w cb c L) {b : Nat} (hb : w.heap.size ≤ b) : ¬ Own cb L b := by
  rintro (h1 | h1)
  · have := h.lt; omega
  · have := h.maps_lt b h1; omega

theorem seen_look {w : World} {r : Nat} {s : AL Int} (h : SeenAt w r s) (who : Int) :
    ∀ w', w'.heap[r]? = w.heap[r]? → (Instr.lookup 67 (.map (some r)) (.int .i64 who) false).run Try.prog w' = .ok (.int .i64 ((AL.get? s who).getD 0)) w' := fun w' hw => by
  have := (h.1.kept hw).lookup (P := Try.prog) (t := 67) (e := 3) Try.underlying67 Try.underlying3 (zero3 w') who false
  rw [this, AL.get?_mapVal]
  cases AL.get? s who <;> rfl


set_option maxRecDepth 100000 in
set_option maxHeartbeats 800000 in
theorem take_bad (cb : Nat) (c : Core) (L : Lay) (acc : Bytes → Bool) (Cs : List Nat) (k : FuncId) (caps : Array Value) (v : Vote) (A : Option Addr) (C : Nat) (w : World) (hc : CoreAt w cb c L) (hw : Wf c) (ha : AccAt w L.acc acc Cs k caps) (hsep : ∀ b ∈ Cs, ¬ Own cb L b) (hv : BytesAt w (.slice A v.value.length C) v.value) (hlen : v.value.length ≤ 1000000) (hin : VoteIn v) (hyes : v.slot = c.slot ∧ v.frm ≤ c.n ∧ v.frm ≠ c.me) (hbad : voteOk v = false) :
    Calls Try.prog 13 #[.pointer (some ⟨cb, 0, none⟩), .agg (voteCells v (.slice A v.value.length C))] w (TakePost cb L (c.take acc v) w) := by
  have HF : Hid (c.take acc v = (false, c)) := Lib.hid (by unfold Core.take; rw [if_pos (by simp [hbad])])
  have HE : Hid (voteErr v = 3) := Lib.hid (by unfold voteErr; rw [hbad]; rfl)
  clear hbad
  have t1 : (v.slot != c.slot) = false := by simp [hyes.1]
  have t2 : decide (c.n < v.frm) = false := by have := hyes.2.1; simp; omega
  have t3 : (v.frm == c.me) = false := by simpa using hyes.2.2
  clear hyes
  have hbox := boxed w (voteCells v (.slice A v.value.length C)) 28
  obtain ⟨W, hW⟩ : ∃ W, W = w.alloc (.cells (voteCells v (.slice A v.value.length C)) 28) := ⟨_, rfl⟩
  rw [← hW] at hbox
  obtain ⟨hx, hcells, hsz⟩ := hbox
  have hcW := hc.ext hx
  have hlt := hc.lt
  have hlt2 := hcW.lt
  have hvb : w.heap.size < W.heap.size := by omega
  have v0 : W.cell? ⟨w.heap.size, 0, none⟩ = some (.int .i64 v.kind) := hcells 0
  have v1 : W.cell? ⟨w.heap.size, 1, none⟩ = some (.int .i64 v.frm) := hcells 1
  have v2 : W.cell? ⟨w.heap.size, 2, none⟩ = some (.int .i64 v.slot) := hcells 2
  have v3 : W.cell? ⟨w.heap.size, 3, none⟩ = some (.int .i64 v.view) := hcells 3
  have v4 : W.cell? ⟨w.heap.size, 4, none⟩ = some (.int .i64 v.valid) := hcells 4
  have v5 : W.cell? ⟨w.heap.size, 5, none⟩ = some (.slice A v.value.length C) := hcells 5
  have c0 := hcW.c0
  have c1 := hcW.c1
  have c2 := hcW.c2
  have hmid : Mid cb c L acc Cs k caps W c L W := ⟨hcW, Moves.refl cb L W, hw, ha.ext hx, hsep⟩
  have HMID := Lib.hid hmid
  have HOWN := Lib.hid (not_own hc (Nat.le_refl _))
  have HCE := Lib.hid hcells
  have HX := Lib.hid hx
  have HV := Lib.hid (hv.ext hx)
  have HLEN := Lib.hid hlen
  have HIN := Lib.hid hin
  have HWE := Lib.hid hW
  clear hc hcells hx hw ha hsep hv hlen hin hW hcW hmid
  go_enter Try.func13, Try.ntmps13
  go_wp2
  unfold voteCells at *
  rw [← HWE.out]
  refine wp_region_T [] (.pure 0 (.pure 1 (.pure 2 (.pure 3 (.pure 5 (.pure 6 (.pure 7 (.take 4 (.take 8 (.pure 9 (.pure 10 (.pure 11 (.pure 12 (.pure 14 (.pure 15 (.pure 16 (.take 13 (.take 17 (.pure 18 (.pure 19 (.pure 20 (.pure 21 (.pure 23 (.pure 24 (.pure 25 (.take 22 (.take 26 (.pure 27 (.pure 28 .nil))))))))))))))))))))))))))))) (by kernel_rfl) (by kernel_rfl) ?_
  iterate 3 (refine' wpT_pure rfl rfl (fun w' => ?_) ?_; rotate_left 1; (focus ((try go_simp); (try go_bits); (first | done | with_reducible rfl))); simp only [Act.put, List.setIfInBounds_toArray, List.set_cons_zero, List.set_cons_succ])
  iterate 4 (first | (refine' wpT_pure_on rfl rfl (fun w' => ?_) ?_; rotate_left 1; (focus ((try go_simp); (try go_bits); (first | done | with_reducible rfl))); simp only [Act.put, List.setIfInBounds_toArray, List.set_cons_zero, List.set_cons_succ]) | (refine wpT_pure_off rfl rfl ?_; simp only [Act.put, List.setIfInBounds_toArray, List.set_cons_zero, List.set_cons_succ]))
  iterate 2 (first | (refine' wpT_take_on_dddd rfl rfl (fun w' hc hl hsz => ?_) ?_; rotate_left 1; (focus ((try go_simp); (try go_bits); (first | done | with_reducible rfl))); simp only [Act.put, List.setIfInBounds_toArray, List.set_cons_zero, List.set_cons_succ]) | (refine' wpT_take_on_ddd rfl rfl (fun w' hc hl hsz => ?_) ?_; rotate_left 1; (focus ((try go_simp); (try go_bits); (first | done | with_reducible rfl))); simp only [Act.put, List.setIfInBounds_toArray, List.set_cons_zero, List.set_cons_succ]) | (refine' wpT_take_on_dd rfl rfl (fun w' hc hl hsz => ?_) ?_; rotate_left 1; (focus ((try go_simp); (try go_bits); (first | done | with_reducible rfl))); simp only [Act.put, List.setIfInBounds_toArray, List.set_cons_zero, List.set_cons_succ]) | (refine' wpT_take_on_d rfl rfl (fun w' hc hl hsz => ?_) ?_; rotate_left 1; (focus ((try go_simp); (try go_bits); (first | done | with_reducible rfl))); simp only [Act.put, List.setIfInBounds_toArray, List.set_cons_zero, List.set_cons_succ]) | (refine wpT_take_off rfl rfl ?_; simp only [Act.put, List.setIfInBounds_toArray, List.set_cons_zero, List.set_cons_succ]))
  first | (refine' wpT_pure_on rfl rfl (fun w' => ?_) ?_; rotate_left 1; (focus ((try go_simp); (try go_bits); (first | done | with_reducible rfl))); simp only [Act.put, List.setIfInBounds_toArray, List.set_cons_zero, List.set_cons_succ]) | (refine wpT_pure_off rfl rfl ?_; simp only [Act.put, List.setIfInBounds_toArray, List.set_cons_zero, List.set_cons_succ])
  iterate 2 (refine' wpT_pure rfl rfl (fun w' => ?_) ?_; rotate_left 1; (focus ((try go_simp); (try go_bits); (first | done | with_reducible rfl))); simp only [Act.put, List.setIfInBounds_toArray, List.set_cons_zero, List.set_cons_succ])
  iterate 4 (first | (refine' wpT_pure_on rfl rfl (fun w' => ?_) ?_; rotate_left 1; (focus ((try go_simp); (try go_bits); (first | done | with_reducible rfl))); simp only [Act.put, List.setIfInBounds_toArray, List.set_cons_zero, List.set_cons_succ]) | (refine wpT_pure_off rfl rfl ?_; simp only [Act.put, List.setIfInBounds_toArray, List.set_cons_zero, List.set_cons_succ]))
  iterate 2 (first | (refine' wpT_take_on_dddd rfl rfl (fun w' hc hl hsz => ?_) ?_; rotate_left 1; (focus ((try go_simp); (try go_bits); (first | done | with_reducible rfl))); simp only [Act.put, List.setIfInBounds_toArray, List.set_cons_zero, List.set_cons_succ]) | (refine' wpT_take_on_ddd rfl rfl (fun w' hc hl hsz => ?_) ?_; rotate_left 1; (focus ((try go_simp); (try go_bits); (first | done | with_reducible rfl))); simp only [Act.put, List.setIfInBounds_toArray, List.set_cons_zero, List.set_cons_succ]) | (refine' wpT_take_on_dd rfl rfl (fun w' hc hl hsz => ?_) ?_; rotate_left 1; (focus ((try go_simp); (try go_bits); (first | done | with_reducible rfl))); simp only [Act.put, List.setIfInBounds_toArray, List.set_cons_zero, List.set_cons_succ]) | (refine' wpT_take_on_d rfl rfl (fun w' hc hl hsz => ?_) ?_; rotate_left 1; (focus ((try go_simp); (try go_bits); (first | done | with_reducible rfl))); simp only [Act.put, List.setIfInBounds_toArray, List.set_cons_zero, List.set_cons_succ]) | (refine wpT_take_off rfl rfl ?_; simp only [Act.put, List.setIfInBounds_toArray, List.set_cons_zero, List.set_cons_succ]))
  first | (refine' wpT_pure_on rfl rfl (fun w' => ?_) ?_; rotate_left 1; (focus ((try go_simp); (try go_bits); (first | done | with_reducible rfl))); simp only [Act.put, List.setIfInBounds_toArray, List.set_cons_zero, List.set_cons_succ]) | (refine wpT_pure_off rfl rfl ?_; simp only [Act.put, List.setIfInBounds_toArray, List.set_cons_zero, List.set_cons_succ])
  iterate 2 (refine' wpT_pure rfl rfl (fun w' => ?_) ?_; rotate_left 1; (focus ((try go_simp); (try go_bits); (first | done | with_reducible rfl))); simp only [Act.put, List.setIfInBounds_toArray, List.set_cons_zero, List.set_cons_succ])
  iterate 4 (first | (refine' wpT_pure_on rfl rfl (fun w' => ?_) ?_; rotate_left 1; (focus ((try go_simp); (try go_bits); (first | done | with_reducible rfl))); simp only [Act.put, List.setIfInBounds_toArray, List.set_cons_zero, List.set_cons_succ]) | (refine wpT_pure_off rfl rfl ?_; simp only [Act.put, List.setIfInBounds_toArray, List.set_cons_zero, List.set_cons_succ]))
  iterate 2 (first | (refine' wpT_take_on_dddd rfl rfl (fun w' hc hl hsz => ?_) ?_; rotate_left 1; (focus ((try go_simp); (try go_bits); (first | done | with_reducible rfl))); simp only [Act.put, List.setIfInBounds_toArray, List.set_cons_zero, List.set_cons_succ]) | (refine' wpT_take_on_ddd rfl rfl (fun w' hc hl hsz => ?_) ?_; rotate_left 1; (focus ((try go_simp); (try go_bits); (first | done | with_reducible rfl))); simp only [Act.put, List.setIfInBounds_toArray, List.set_cons_zero, List.set_cons_succ]) | (refine' wpT_take_on_dd rfl rfl (fun w' hc hl hsz => ?_) ?_; rotate_left 1; (focus ((try go_simp); (try go_bits); (first | done | with_reducible rfl))); simp only [Act.put, List.setIfInBounds_toArray, List.set_cons_zero, List.set_cons_succ]) | (refine' wpT_take_on_d rfl rfl (fun w' hc hl hsz => ?_) ?_; rotate_left 1; (focus ((try go_simp); (try go_bits); (first | done | with_reducible rfl))); simp only [Act.put, List.setIfInBounds_toArray, List.set_cons_zero, List.set_cons_succ]) | (refine wpT_take_off rfl rfl ?_; simp only [Act.put, List.setIfInBounds_toArray, List.set_cons_zero, List.set_cons_succ]))
  first | (refine' wpT_pure_on rfl rfl (fun w' => ?_) ?_; rotate_left 1; (focus ((try go_simp); (try go_bits); (first | done | with_reducible rfl))); simp only [Act.put, List.setIfInBounds_toArray, List.set_cons_zero, List.set_cons_succ]) | (refine wpT_pure_off rfl rfl ?_; simp only [Act.put, List.setIfInBounds_toArray, List.set_cons_zero, List.set_cons_succ])
  (refine' wpT_pure rfl rfl (fun w' => ?_) ?_; rotate_left 1; (focus ((try go_simp); (try go_bits); (first | done | with_reducible rfl))); simp only [Act.put, List.setIfInBounds_toArray, List.set_cons_zero, List.set_cons_succ])
  refine wpT_nil ?_
  go_wp2_with (go_at_call 35; refine (encode_calls v A C _ (HV.out.ext (Ext.refl W).dr) HIN.out).mono ?_; rw [HE.out]; rintro e w3 ⟨⟨b3, rfl⟩, hx3⟩)
  go_ret
  rw [HF.out]
  exact ⟨L, rfl, HMID.out.core.ext (Ext.undrew hx3), Moves.of_ext (Ext.trans HX.out (Ext.undrew hx3))⟩


theorem voteOk_b {v : Vote} (h : voteOk v = true) : (1 ≤ v.kind ∧ v.kind ≤ 5) ∧ 0 ≤ v.view ∧ v.view ≤ 1048576 := by
  unfold voteOk at h
  simp at h
  omega

set_option maxRecDepth 100000 in
set_option maxHeartbeats 800000 in
theorem take_known (cb : Nat) (c : Core) (L : Lay) (acc : Bytes → Bool) (Cs : List Nat) (k : FuncId) (caps : Array Value) (v : Vote) (A : Option Addr) (C : Nat) (w : World) (hc : CoreAt w cb c L) (hw : Wf c) (ha : AccAt w L.acc acc Cs k caps) (hsep : ∀ b ∈ Cs, ¬ Own cb L b) (hv : BytesAt w (.slice A v.value.length C) v.value) (hlen : v.value.length ≤ 1000000) (hin : VoteIn v) (hyes : v.slot = c.slot ∧ v.frm ≤ c.n ∧ v.frm ≠ c.me) (hok : voteOk v = true) (hk : (c.know v).1 = false) (hsame : (c.know v).2 = c) :
    Calls Try.prog 13 #[.pointer (some ⟨cb, 0, none⟩), .agg (voteCells v (.slice A v.value.length C))] w (TakePost cb L (c.take acc v) w) := by
  have HF : Hid (c.take acc v = (false, c)) := Lib.hid (by unfold Core.take; rw [if_neg (by simp [hyes, hok])]; simp [hk])
  have HB := Lib.hid (voteOk_b hok)
  have HK := Lib.hid hk
  have HS := Lib.hid hsame
  clear hk hsame
  have HE : Hid (voteErr v = 0) := Lib.hid (by unfold voteErr; rw [hok]; rfl)
  have HOK := Lib.hid hok
  clear hok
  have t1 : (v.slot != c.slot) = false := by simp [hyes.1]
  have t2 : decide (c.n < v.frm) = false := by have := hyes.2.1; simp; omega
  have t3 : (v.frm == c.me) = false := by simpa using hyes.2.2
  clear hyes
  have hbox := boxed w (voteCells v (.slice A v.value.length C)) 28
  obtain ⟨W, hW⟩ : ∃ W, W = w.alloc (.cells (voteCells v (.slice A v.value.length C)) 28) := ⟨_, rfl⟩
  rw [← hW] at hbox
  obtain ⟨hx, hcells, hsz⟩ := hbox
  have hcW := hc.ext hx
  have hlt := hc.lt
  have hlt2 := hcW.lt
  have hvb : w.heap.size < W.heap.size := by omega
  have v0 : W.cell? ⟨w.heap.size, 0, none⟩ = some (.int .i64 v.kind) := hcells 0
  have v1 : W.cell? ⟨w.heap.size, 1, none⟩ = some (.int .i64 v.frm) := hcells 1
  have v2 : W.cell? ⟨w.heap.size, 2, none⟩ = some (.int .i64 v.slot) := hcells 2
  have v3 : W.cell? ⟨w.heap.size, 3, none⟩ = some (.int .i64 v.view) := hcells 3
  have v4 : W.cell? ⟨w.heap.size, 4, none⟩ = some (.int .i64 v.valid) := hcells 4
  have v5 : W.cell? ⟨w.heap.size, 5, none⟩ = some (.slice A v.value.length C) := hcells 5
  have c0 := hcW.c0
  have c1 := hcW.c1
  have c2 := hcW.c2
  have hmid : Mid cb c L acc Cs k caps W c L W := ⟨hcW, Moves.refl cb L W, hw, ha.ext hx, hsep⟩
  have HMID := Lib.hid hmid
  have HOWN := Lib.hid (not_own hc (Nat.le_refl _))
  have HCE := Lib.hid hcells
  have HX := Lib.hid hx
  have HV := Lib.hid (hv.ext hx)
  have HLEN := Lib.hid hlen
  have HIN := Lib.hid hin
  have HWE := Lib.hid hW
  clear hc hcells hx hw ha hsep hv hlen hin hW hcW hmid
  go_enter Try.func13, Try.ntmps13
  go_wp2
  unfold voteCells at *
  rw [← HWE.out]
  refine wp_region_T [] (.pure 0 (.pure 1 (.pure 2 (.pure 3 (.pure 5 (.pure 6 (.pure 7 (.take 4 (.take 8 (.pure 9 (.pure 10 (.pure 11 (.pure 12 (.pure 14 (.pure 15 (.pure 16 (.take 13 (.take 17 (.pure 18 (.pure 19 (.pure 20 (.pure 21 (.pure 23 (.pure 24 (.pure 25 (.take 22 (.take 26 (.pure 27 (.pure 28 .nil))))))))))))))))))))))))))))) (by kernel_rfl) (by kernel_rfl) ?_
  iterate 3 (refine' wpT_pure rfl rfl (fun w' => ?_) ?_; rotate_left 1; (focus ((try go_simp); (try go_bits); (first | done | with_reducible rfl))); simp only [Act.put, List.setIfInBounds_toArray, List.set_cons_zero, List.set_cons_succ])
  iterate 4 (first | (refine' wpT_pure_on rfl rfl (fun w' => ?_) ?_; rotate_left 1; (focus ((try go_simp); (try go_bits); (first | done | with_reducible rfl))); simp only [Act.put, List.setIfInBounds_toArray, List.set_cons_zero, List.set_cons_succ]) | (refine wpT_pure_off rfl rfl ?_; simp only [Act.put, List.setIfInBounds_toArray, List.set_cons_zero, List.set_cons_succ]))
  iterate 2 (first | (refine' wpT_take_on_dddd rfl rfl (fun w' hc hl hsz => ?_) ?_; rotate_left 1; (focus ((try go_simp); (try go_bits); (first | done | with_reducible rfl))); simp only [Act.put, List.setIfInBounds_toArray, List.set_cons_zero, List.set_cons_succ]) | (refine' wpT_take_on_ddd rfl rfl (fun w' hc hl hsz => ?_) ?_; rotate_left 1; (focus ((try go_simp); (try go_bits); (first | done | with_reducible rfl))); simp only [Act.put, List.setIfInBounds_toArray, List.set_cons_zero, List.set_cons_succ]) | (refine' wpT_take_on_dd rfl rfl (fun w' hc hl hsz => ?_) ?_; rotate_left 1; (focus ((try go_simp); (try go_bits); (first | done | with_reducible rfl))); simp only [Act.put, List.setIfInBounds_toArray, List.set_cons_zero, List.set_cons_succ]) | (refine' wpT_take_on_d rfl rfl (fun w' hc hl hsz => ?_) ?_; rotate_left 1; (focus ((try go_simp); (try go_bits); (first | done | with_reducible rfl))); simp only [Act.put, List.setIfInBounds_toArray, List.set_cons_zero, List.set_cons_succ]) | (refine wpT_take_off rfl rfl ?_; simp only [Act.put, List.setIfInBounds_toArray, List.set_cons_zero, List.set_cons_succ]))
  first | (refine' wpT_pure_on rfl rfl (fun w' => ?_) ?_; rotate_left 1; (focus ((try go_simp); (try go_bits); (first | done | with_reducible rfl))); simp only [Act.put, List.setIfInBounds_toArray, List.set_cons_zero, List.set_cons_succ]) | (refine wpT_pure_off rfl rfl ?_; simp only [Act.put, List.setIfInBounds_toArray, List.set_cons_zero, List.set_cons_succ])
  iterate 2 (refine' wpT_pure rfl rfl (fun w' => ?_) ?_; rotate_left 1; (focus ((try go_simp); (try go_bits); (first | done | with_reducible rfl))); simp only [Act.put, List.setIfInBounds_toArray, List.set_cons_zero, List.set_cons_succ])
  iterate 4 (first | (refine' wpT_pure_on rfl rfl (fun w' => ?_) ?_; rotate_left 1; (focus ((try go_simp); (try go_bits); (first | done | with_reducible rfl))); simp only [Act.put, List.setIfInBounds_toArray, List.set_cons_zero, List.set_cons_succ]) | (refine wpT_pure_off rfl rfl ?_; simp only [Act.put, List.setIfInBounds_toArray, List.set_cons_zero, List.set_cons_succ]))
  iterate 2 (first | (refine' wpT_take_on_dddd rfl rfl (fun w' hc hl hsz => ?_) ?_; rotate_left 1; (focus ((try go_simp); (try go_bits); (first | done | with_reducible rfl))); simp only [Act.put, List.setIfInBounds_toArray, List.set_cons_zero, List.set_cons_succ]) | (refine' wpT_take_on_ddd rfl rfl (fun w' hc hl hsz => ?_) ?_; rotate_left 1; (focus ((try go_simp); (try go_bits); (first | done | with_reducible rfl))); simp only [Act.put, List.setIfInBounds_toArray, List.set_cons_zero, List.set_cons_succ]) | (refine' wpT_take_on_dd rfl rfl (fun w' hc hl hsz => ?_) ?_; rotate_left 1; (focus ((try go_simp); (try go_bits); (first | done | with_reducible rfl))); simp only [Act.put, List.setIfInBounds_toArray, List.set_cons_zero, List.set_cons_succ]) | (refine' wpT_take_on_d rfl rfl (fun w' hc hl hsz => ?_) ?_; rotate_left 1; (focus ((try go_simp); (try go_bits); (first | done | with_reducible rfl))); simp only [Act.put, List.setIfInBounds_toArray, List.set_cons_zero, List.set_cons_succ]) | (refine wpT_take_off rfl rfl ?_; simp only [Act.put, List.setIfInBounds_toArray, List.set_cons_zero, List.set_cons_succ]))
  first | (refine' wpT_pure_on rfl rfl (fun w' => ?_) ?_; rotate_left 1; (focus ((try go_simp); (try go_bits); (first | done | with_reducible rfl))); simp only [Act.put, List.setIfInBounds_toArray, List.set_cons_zero, List.set_cons_succ]) | (refine wpT_pure_off rfl rfl ?_; simp only [Act.put, List.setIfInBounds_toArray, List.set_cons_zero, List.set_cons_succ])
  iterate 2 (refine' wpT_pure rfl rfl (fun w' => ?_) ?_; rotate_left 1; (focus ((try go_simp); (try go_bits); (first | done | with_reducible rfl))); simp only [Act.put, List.setIfInBounds_toArray, List.set_cons_zero, List.set_cons_succ])
  iterate 4 (first | (refine' wpT_pure_on rfl rfl (fun w' => ?_) ?_; rotate_left 1; (focus ((try go_simp); (try go_bits); (first | done | with_reducible rfl))); simp only [Act.put, List.setIfInBounds_toArray, List.set_cons_zero, List.set_cons_succ]) | (refine wpT_pure_off rfl rfl ?_; simp only [Act.put, List.setIfInBounds_toArray, List.set_cons_zero, List.set_cons_succ]))
  iterate 2 (first | (refine' wpT_take_on_dddd rfl rfl (fun w' hc hl hsz => ?_) ?_; rotate_left 1; (focus ((try go_simp); (try go_bits); (first | done | with_reducible rfl))); simp only [Act.put, List.setIfInBounds_toArray, List.set_cons_zero, List.set_cons_succ]) | (refine' wpT_take_on_ddd rfl rfl (fun w' hc hl hsz => ?_) ?_; rotate_left 1; (focus ((try go_simp); (try go_bits); (first | done | with_reducible rfl))); simp only [Act.put, List.setIfInBounds_toArray, List.set_cons_zero, List.set_cons_succ]) | (refine' wpT_take_on_dd rfl rfl (fun w' hc hl hsz => ?_) ?_; rotate_left 1; (focus ((try go_simp); (try go_bits); (first | done | with_reducible rfl))); simp only [Act.put, List.setIfInBounds_toArray, List.set_cons_zero, List.set_cons_succ]) | (refine' wpT_take_on_d rfl rfl (fun w' hc hl hsz => ?_) ?_; rotate_left 1; (focus ((try go_simp); (try go_bits); (first | done | with_reducible rfl))); simp only [Act.put, List.setIfInBounds_toArray, List.set_cons_zero, List.set_cons_succ]) | (refine wpT_take_off rfl rfl ?_; simp only [Act.put, List.setIfInBounds_toArray, List.set_cons_zero, List.set_cons_succ]))
  first | (refine' wpT_pure_on rfl rfl (fun w' => ?_) ?_; rotate_left 1; (focus ((try go_simp); (try go_bits); (first | done | with_reducible rfl))); simp only [Act.put, List.setIfInBounds_toArray, List.set_cons_zero, List.set_cons_succ]) | (refine wpT_pure_off rfl rfl ?_; simp only [Act.put, List.setIfInBounds_toArray, List.set_cons_zero, List.set_cons_succ])
  (refine' wpT_pure rfl rfl (fun w' => ?_) ?_; rotate_left 1; (focus ((try go_simp); (try go_bits); (first | done | with_reducible rfl))); simp only [Act.put, List.setIfInBounds_toArray, List.set_cons_zero, List.set_cons_succ])
  refine wpT_nil ?_
  go_wp2_with (first | (go_at_call 35; refine (encode_calls v A C _ (HV.out.ext (Ext.refl W).dr) HIN.out).mono ?_; rw [HE.out]; rintro e w3 ⟨⟨b3, rfl⟩, hx3⟩; have hx3 := Ext.undrew hx3; have y0 := hx3.at v0; have y1 := hx3.at v1; have y2 := hx3.at v2; have y3 := hx3.at v3; have y4 := hx3.at v4; have y5 := hx3.at v5; have hvb3 := Nat.lt_of_lt_of_le hvb hx3.size; have HX3 := Lib.hid hx3; clear hx3) | (go_at_call 39; refine (know_calls cb c L v (.slice A v.value.length C) _ (HMID.out.core.ext HX3.out) (HV.out.ext HX3.out) HLEN.out HMID.out.wf.toNums HB.out.1 HB.out.2.1 HB.out.2.2).mono ?_; rw [HK.out]; rintro e w4 ⟨L4, rfl, hc4, hm4⟩))
  go_ret
  rw [HF.out]
  exact ⟨L4, rfl, by rw [HS.out] at hc4; exact hc4, (Moves.of_ext (Ext.trans HX.out HX3.out)).trans hm4⟩

theorem know_false {c : Core} {v : Vote} (h : (c.know v).1 = false) : (c.know v).2 = c := by
  unfold Core.know at h ⊢
  have st : ∀ (m : AL Told) (a b : Int) (x : Bytes), (setTold m a b x).1 = false → (setTold m a b x).2 = m := fun m a b x hx => by
    unfold setTold at hx ⊢
    split
    · rfl
    · rename_i hn; rw [if_neg hn] at hx; cases hx
  split
  · rename_i hk
    rw [if_pos hk] at h
    split
    · rfl
    · rename_i hn; rw [if_neg hn] at h; cases h
  · rename_i hk
    rw [if_neg hk] at h
    split
    · rename_i hk2
      rw [if_pos hk2] at h
      simp only at h ⊢
      rw [st _ _ _ _ h]
    · rename_i hk2
      rw [if_neg hk2] at h
      split
      · rename_i hk3
        rw [if_pos hk3] at h
        simp only at h ⊢
        rw [st _ _ _ _ h]
      · rename_i hk3
        rw [if_neg hk3] at h
        split
        · rename_i hk5
          rw [if_pos hk5] at h
          simp only at h ⊢
          rw [st _ _ _ _ h]
        · rename_i hk5
          rw [if_neg hk5] at h
          split
          · rfl
          · rename_i hn; rw [if_neg hn] at h; cases h


theorem ActEnds.take {cb : Nat} {L L' : Lay} {c' : Core} {w w1 : World} {e : Ending} {w' : World} (h : ActEnds cb L' c' w1 e w') (hm : Moves cb L L' w w1) : ∃ L'', CoreAt w' cb c' L'' ∧ Moves cb L L'' w w' := by
  obtain ⟨_, L'', h1, h2⟩ := h
  exact ⟨L'', h1, hm.trans h2⟩

set_option maxRecDepth 100000 in
set_option maxHeartbeats 800000 in
theorem take_decided (cb : Nat) (c : Core) (L : Lay) (acc : Bytes → Bool) (Cs : List Nat) (k : FuncId) (caps : Array Value) (v : Vote) (A : Option Addr) (C : Nat) (w : World) (hc : CoreAt w cb c L) (hw : Wf c) (ha : AccAt w L.acc acc Cs k caps) (hsep : ∀ b ∈ Cs, ¬ Own cb L b) (hv : BytesAt w (.slice A v.value.length C) v.value) (hlen : v.value.length ≤ 1000000) (hin : VoteIn v) (hyes : v.slot = c.slot ∧ v.frm ≤ c.n ∧ v.frm ≠ c.me) (hok : voteOk v = true) (hk : (c.know v).1 = true) (hkind : v.kind = 4) :
    Calls Try.prog 13 #[.pointer (some ⟨cb, 0, none⟩), .agg (voteCells v (.slice A v.value.length C))] w (TakePost cb L (c.take acc v) w) := by
  have HF : Hid (c.take acc v = (true, (c.know v).2.act acc)) := Lib.hid (by unfold Core.take; rw [if_neg (by simp [hyes, hok])]; simp [hk, hkind])
  have HB := Lib.hid (voteOk_b hok)
  have HK := Lib.hid hk
  have t4 : (v.kind != 4) = false := by simp [hkind]
  clear hk hkind
  have HE : Hid (voteErr v = 0) := Lib.hid (by unfold voteErr; rw [hok]; rfl)
  have HOK := Lib.hid hok
  clear hok
  have t1 : (v.slot != c.slot) = false := by simp [hyes.1]
  have t2 : decide (c.n < v.frm) = false := by have := hyes.2.1; simp; omega
  have t3 : (v.frm == c.me) = false := by simpa using hyes.2.2
  clear hyes
  have hbox := boxed w (voteCells v (.slice A v.value.length C)) 28
  obtain ⟨W, hW⟩ : ∃ W, W = w.alloc (.cells (voteCells v (.slice A v.value.length C)) 28) := ⟨_, rfl⟩
  rw [← hW] at hbox
  obtain ⟨hx, hcells, hsz⟩ := hbox
  have hcW := hc.ext hx
  have hlt := hc.lt
  have hlt2 := hcW.lt
  have hvb : w.heap.size < W.heap.size := by omega
  have v0 : W.cell? ⟨w.heap.size, 0, none⟩ = some (.int .i64 v.kind) := hcells 0
  have v1 : W.cell? ⟨w.heap.size, 1, none⟩ = some (.int .i64 v.frm) := hcells 1
  have v2 : W.cell? ⟨w.heap.size, 2, none⟩ = some (.int .i64 v.slot) := hcells 2
  have v3 : W.cell? ⟨w.heap.size, 3, none⟩ = some (.int .i64 v.view) := hcells 3
  have v4 : W.cell? ⟨w.heap.size, 4, none⟩ = some (.int .i64 v.valid) := hcells 4
  have v5 : W.cell? ⟨w.heap.size, 5, none⟩ = some (.slice A v.value.length C) := hcells 5
  have c0 := hcW.c0
  have c1 := hcW.c1
  have c2 := hcW.c2
  have hmid : Mid cb c L acc Cs k caps W c L W := ⟨hcW, Moves.refl cb L W, hw, ha.ext hx, hsep⟩
  have HMID := Lib.hid hmid
  have HOWN := Lib.hid (not_own hc (Nat.le_refl _))
  have HCE := Lib.hid hcells
  have HX := Lib.hid hx
  have HV := Lib.hid (hv.ext hx)
  have HLEN := Lib.hid hlen
  have HIN := Lib.hid hin
  have HWE := Lib.hid hW
  clear hc hcells hx hw ha hsep hv hlen hin hW hcW hmid
  go_enter Try.func13, Try.ntmps13
  go_wp2
  unfold voteCells at *
  rw [← HWE.out]
  refine wp_region_T [] (.pure 0 (.pure 1 (.pure 2 (.pure 3 (.pure 5 (.pure 6 (.pure 7 (.take 4 (.take 8 (.pure 9 (.pure 10 (.pure 11 (.pure 12 (.pure 14 (.pure 15 (.pure 16 (.take 13 (.take 17 (.pure 18 (.pure 19 (.pure 20 (.pure 21 (.pure 23 (.pure 24 (.pure 25 (.take 22 (.take 26 (.pure 27 (.pure 28 .nil))))))))))))))))))))))))))))) (by kernel_rfl) (by kernel_rfl) ?_
  iterate 3 (refine' wpT_pure rfl rfl (fun w' => ?_) ?_; rotate_left 1; (focus ((try go_simp); (try go_bits); (first | done | with_reducible rfl))); simp only [Act.put, List.setIfInBounds_toArray, List.set_cons_zero, List.set_cons_succ])
  iterate 4 (first | (refine' wpT_pure_on rfl rfl (fun w' => ?_) ?_; rotate_left 1; (focus ((try go_simp); (try go_bits); (first | done | with_reducible rfl))); simp only [Act.put, List.setIfInBounds_toArray, List.set_cons_zero, List.set_cons_succ]) | (refine wpT_pure_off rfl rfl ?_; simp only [Act.put, List.setIfInBounds_toArray, List.set_cons_zero, List.set_cons_succ]))
  iterate 2 (first | (refine' wpT_take_on_dddd rfl rfl (fun w' hc hl hsz => ?_) ?_; rotate_left 1; (focus ((try go_simp); (try go_bits); (first | done | with_reducible rfl))); simp only [Act.put, List.setIfInBounds_toArray, List.set_cons_zero, List.set_cons_succ]) | (refine' wpT_take_on_ddd rfl rfl (fun w' hc hl hsz => ?_) ?_; rotate_left 1; (focus ((try go_simp); (try go_bits); (first | done | with_reducible rfl))); simp only [Act.put, List.setIfInBounds_toArray, List.set_cons_zero, List.set_cons_succ]) | (refine' wpT_take_on_dd rfl rfl (fun w' hc hl hsz => ?_) ?_; rotate_left 1; (focus ((try go_simp); (try go_bits); (first | done | with_reducible rfl))); simp only [Act.put, List.setIfInBounds_toArray, List.set_cons_zero, List.set_cons_succ]) | (refine' wpT_take_on_d rfl rfl (fun w' hc hl hsz => ?_) ?_; rotate_left 1; (focus ((try go_simp); (try go_bits); (first | done | with_reducible rfl))); simp only [Act.put, List.setIfInBounds_toArray, List.set_cons_zero, List.set_cons_succ]) | (refine wpT_take_off rfl rfl ?_; simp only [Act.put, List.setIfInBounds_toArray, List.set_cons_zero, List.set_cons_succ]))
  first | (refine' wpT_pure_on rfl rfl (fun w' => ?_) ?_; rotate_left 1; (focus ((try go_simp); (try go_bits); (first | done | with_reducible rfl))); simp only [Act.put, List.setIfInBounds_toArray, List.set_cons_zero, List.set_cons_succ]) | (refine wpT_pure_off rfl rfl ?_; simp only [Act.put, List.setIfInBounds_toArray, List.set_cons_zero, List.set_cons_succ])
  iterate 2 (refine' wpT_pure rfl rfl (fun w' => ?_) ?_; rotate_left 1; (focus ((try go_simp); (try go_bits); (first | done | with_reducible rfl))); simp only [Act.put, List.setIfInBounds_toArray, List.set_cons_zero, List.set_cons_succ])
  iterate 4 (first | (refine' wpT_pure_on rfl rfl (fun w' => ?_) ?_; rotate_left 1; (focus ((try go_simp); (try go_bits); (first | done | with_reducible rfl))); simp only [Act.put, List.setIfInBounds_toArray, List.set_cons_zero, List.set_cons_succ]) | (refine wpT_pure_off rfl rfl ?_; simp only [Act.put, List.setIfInBounds_toArray, List.set_cons_zero, List.set_cons_succ]))
  iterate 2 (first | (refine' wpT_take_on_dddd rfl rfl (fun w' hc hl hsz => ?_) ?_; rotate_left 1; (focus ((try go_simp); (try go_bits); (first | done | with_reducible rfl))); simp only [Act.put, List.setIfInBounds_toArray, List.set_cons_zero, List.set_cons_succ]) | (refine' wpT_take_on_ddd rfl rfl (fun w' hc hl hsz => ?_) ?_; rotate_left 1; (focus ((try go_simp); (try go_bits); (first | done | with_reducible rfl))); simp only [Act.put, List.setIfInBounds_toArray, List.set_cons_zero, List.set_cons_succ]) | (refine' wpT_take_on_dd rfl rfl (fun w' hc hl hsz => ?_) ?_; rotate_left 1; (focus ((try go_simp); (try go_bits); (first | done | with_reducible rfl))); simp only [Act.put, List.setIfInBounds_toArray, List.set_cons_zero, List.set_cons_succ]) | (refine' wpT_take_on_d rfl rfl (fun w' hc hl hsz => ?_) ?_; rotate_left 1; (focus ((try go_simp); (try go_bits); (first | done | with_reducible rfl))); simp only [Act.put, List.setIfInBounds_toArray, List.set_cons_zero, List.set_cons_succ]) | (refine wpT_take_off rfl rfl ?_; simp only [Act.put, List.setIfInBounds_toArray, List.set_cons_zero, List.set_cons_succ]))
  first | (refine' wpT_pure_on rfl rfl (fun w' => ?_) ?_; rotate_left 1; (focus ((try go_simp); (try go_bits); (first | done | with_reducible rfl))); simp only [Act.put, List.setIfInBounds_toArray, List.set_cons_zero, List.set_cons_succ]) | (refine wpT_pure_off rfl rfl ?_; simp only [Act.put, List.setIfInBounds_toArray, List.set_cons_zero, List.set_cons_succ])
  iterate 2 (refine' wpT_pure rfl rfl (fun w' => ?_) ?_; rotate_left 1; (focus ((try go_simp); (try go_bits); (first | done | with_reducible rfl))); simp only [Act.put, List.setIfInBounds_toArray, List.set_cons_zero, List.set_cons_succ])
  iterate 4 (first | (refine' wpT_pure_on rfl rfl (fun w' => ?_) ?_; rotate_left 1; (focus ((try go_simp); (try go_bits); (first | done | with_reducible rfl))); simp only [Act.put, List.setIfInBounds_toArray, List.set_cons_zero, List.set_cons_succ]) | (refine wpT_pure_off rfl rfl ?_; simp only [Act.put, List.setIfInBounds_toArray, List.set_cons_zero, List.set_cons_succ]))
  iterate 2 (first | (refine' wpT_take_on_dddd rfl rfl (fun w' hc hl hsz => ?_) ?_; rotate_left 1; (focus ((try go_simp); (try go_bits); (first | done | with_reducible rfl))); simp only [Act.put, List.setIfInBounds_toArray, List.set_cons_zero, List.set_cons_succ]) | (refine' wpT_take_on_ddd rfl rfl (fun w' hc hl hsz => ?_) ?_; rotate_left 1; (focus ((try go_simp); (try go_bits); (first | done | with_reducible rfl))); simp only [Act.put, List.setIfInBounds_toArray, List.set_cons_zero, List.set_cons_succ]) | (refine' wpT_take_on_dd rfl rfl (fun w' hc hl hsz => ?_) ?_; rotate_left 1; (focus ((try go_simp); (try go_bits); (first | done | with_reducible rfl))); simp only [Act.put, List.setIfInBounds_toArray, List.set_cons_zero, List.set_cons_succ]) | (refine' wpT_take_on_d rfl rfl (fun w' hc hl hsz => ?_) ?_; rotate_left 1; (focus ((try go_simp); (try go_bits); (first | done | with_reducible rfl))); simp only [Act.put, List.setIfInBounds_toArray, List.set_cons_zero, List.set_cons_succ]) | (refine wpT_take_off rfl rfl ?_; simp only [Act.put, List.setIfInBounds_toArray, List.set_cons_zero, List.set_cons_succ]))
  first | (refine' wpT_pure_on rfl rfl (fun w' => ?_) ?_; rotate_left 1; (focus ((try go_simp); (try go_bits); (first | done | with_reducible rfl))); simp only [Act.put, List.setIfInBounds_toArray, List.set_cons_zero, List.set_cons_succ]) | (refine wpT_pure_off rfl rfl ?_; simp only [Act.put, List.setIfInBounds_toArray, List.set_cons_zero, List.set_cons_succ])
  (refine' wpT_pure rfl rfl (fun w' => ?_) ?_; rotate_left 1; (focus ((try go_simp); (try go_bits); (first | done | with_reducible rfl))); simp only [Act.put, List.setIfInBounds_toArray, List.set_cons_zero, List.set_cons_succ])
  refine wpT_nil ?_
  go_wp2_with (first | (go_at_call 35; refine (encode_calls v A C _ (HV.out.ext (Ext.refl W).dr) HIN.out).mono ?_; rw [HE.out]; rintro e w3 ⟨⟨b3, rfl⟩, hx3⟩; have hx3 := Ext.undrew hx3; have y0 := hx3.at v0; have y1 := hx3.at v1; have y2 := hx3.at v2; have y3 := hx3.at v3; have y4 := hx3.at v4; have y5 := hx3.at v5; have hvb3 := Nat.lt_of_lt_of_le hvb hx3.size; have HX3 := Lib.hid hx3; clear hx3) | (go_at_call 39; refine (know_calls cb c L v (.slice A v.value.length C) _ (HMID.out.core.ext HX3.out) (HV.out.ext HX3.out) HLEN.out HMID.out.wf.toNums HB.out.1 HB.out.2.1 HB.out.2.2).mono ?_; rw [HK.out]; rintro e w4 ⟨L4, rfl, hc4, hm4⟩; have h4 := HMID.out.same (w'' := w3) (L'' := L) (c1 := c) (HMID.out.core.ext HX3.out) rfl (Moves.of_ext HX3.out); have hM4 := h4.next hc4 hm4 (HMID.out.wf.know HOK.out); have hblk := hm4.turn.block w.heap.size hvb3 HOWN.out; have x0 := (World.cell?_of_block (a := ⟨w.heap.size, 0, none⟩) hblk).trans y0; have x1 := (World.cell?_of_block (a := ⟨w.heap.size, 1, none⟩) hblk).trans y1; have x3 := (World.cell?_of_block (a := ⟨w.heap.size, 3, none⟩) hblk).trans y3; have hvb4 := Nat.lt_of_lt_of_le hvb3 hm4.turn.size; have hlt4 := hc4.lt; have z11 := hc4.c11; have hsn := hc4.seen.1.lt; have hsl := seen_look hc4.seen v.frm; have HM4 := Lib.hid hM4; have HC4 := Lib.hid hc4; clear h4 hM4 hblk hc4 hm4) | (go_at_call 40; refine (act_calls cb _ L4 acc Cs k caps _ HM4.out.core HM4.out.wf HM4.out.acc HM4.out.sep).mono ?_; rintro e w5 ⟨⟨_, rfl⟩, L5, hc5, hm5⟩))
  go_ret
  rw [HF.out]
  exact ⟨L5, rfl, hc5, (Moves.of_ext HX.out).trans (HM4.out.moves.trans hm5)⟩

set_option maxRecDepth 100000 in
set_option maxHeartbeats 800000 in
theorem take_other (cb : Nat) (c : Core) (L : Lay) (acc : Bytes → Bool) (Cs : List Nat) (k : FuncId) (caps : Array Value) (v : Vote) (A : Option Addr) (C : Nat) (w : World) (hc : CoreAt w cb c L) (hw : Wf c) (ha : AccAt w L.acc acc Cs k caps) (hsep : ∀ b ∈ Cs, ¬ Own cb L b) (hv : BytesAt w (.slice A v.value.length C) v.value) (hlen : v.value.length ≤ 1000000) (hin : VoteIn v) (hyes : v.slot = c.slot ∧ v.frm ≤ c.n ∧ v.frm ≠ c.me) (hok : voteOk v = true) (hk : (c.know v).1 = true) (hkind : v.kind ≠ 4) :
    Calls Try.prog 13 #[.pointer (some ⟨cb, 0, none⟩), .agg (voteCells v (.slice A v.value.length C))] w (TakePost cb L (c.take acc v) w) := by
  have HF : Hid (c.take acc v = (true, ({ (c.know v).2 with seen := AL.put (c.know v).2.seen v.frm (max ((AL.get? (c.know v).2.seen v.frm).getD 0) v.view) } : Core).act acc)) := Lib.hid (by unfold Core.take; rw [if_neg (by simp [hyes, hok])]; simp [hk, hkind])
  have HB := Lib.hid (voteOk_b hok)
  have HK := Lib.hid hk
  have hfb : 1 ≤ v.frm ∧ v.frm ≤ 64 := by have := hok; unfold voteOk at this; simp at this; omega
  have HBF := Lib.hid hfb
  have hsx : 0 ≤ max ((AL.get? (c.know v).2.seen v.frm).getD 0) v.view ∧ max ((AL.get? (c.know v).2.seen v.frm).getD 0) v.view ≤ 1048576 := by
    have h1 := voteOk_b hok
    cases hg : AL.get? (c.know v).2.seen v.frm with
    | none => simp; omega
    | some x => have := (hw.know hok).seen v.frm x hg; simp; omega
  have HBX := Lib.hid hsx
  clear hfb hsx
  have t4 : (v.kind != 4) = true := by simp [hkind]
  clear hk hkind
  have HE : Hid (voteErr v = 0) := Lib.hid (by unfold voteErr; rw [hok]; rfl)
  have HOK := Lib.hid hok
  clear hok
  have t1 : (v.slot != c.slot) = false := by simp [hyes.1]
  have t2 : decide (c.n < v.frm) = false := by have := hyes.2.1; simp; omega
  have t3 : (v.frm == c.me) = false := by simpa using hyes.2.2
  clear hyes
  have hbox := boxed w (voteCells v (.slice A v.value.length C)) 28
  obtain ⟨W, hW⟩ : ∃ W, W = w.alloc (.cells (voteCells v (.slice A v.value.length C)) 28) := ⟨_, rfl⟩
  rw [← hW] at hbox
  obtain ⟨hx, hcells, hsz⟩ := hbox
  have hcW := hc.ext hx
  have hlt := hc.lt
  have hlt2 := hcW.lt
  have hvb : w.heap.size < W.heap.size := by omega
  have v0 : W.cell? ⟨w.heap.size, 0, none⟩ = some (.int .i64 v.kind) := hcells 0
  have v1 : W.cell? ⟨w.heap.size, 1, none⟩ = some (.int .i64 v.frm) := hcells 1
  have v2 : W.cell? ⟨w.heap.size, 2, none⟩ = some (.int .i64 v.slot) := hcells 2
  have v3 : W.cell? ⟨w.heap.size, 3, none⟩ = some (.int .i64 v.view) := hcells 3
  have v4 : W.cell? ⟨w.heap.size, 4, none⟩ = some (.int .i64 v.valid) := hcells 4
  have v5 : W.cell? ⟨w.heap.size, 5, none⟩ = some (.slice A v.value.length C) := hcells 5
  have c0 := hcW.c0
  have c1 := hcW.c1
  have c2 := hcW.c2
  have hmid : Mid cb c L acc Cs k caps W c L W := ⟨hcW, Moves.refl cb L W, hw, ha.ext hx, hsep⟩
  have HMID := Lib.hid hmid
  have HOWN := Lib.hid (not_own hc (Nat.le_refl _))
  have HCE := Lib.hid hcells
  have HX := Lib.hid hx
  have HV := Lib.hid (hv.ext hx)
  have HLEN := Lib.hid hlen
  have HIN := Lib.hid hin
  have HWE := Lib.hid hW
  clear hc hcells hx hw ha hsep hv hlen hin hW hcW hmid
  go_enter Try.func13, Try.ntmps13
  go_wp2
  unfold voteCells at *
  rw [← HWE.out]
  refine wp_region_T [] (.pure 0 (.pure 1 (.pure 2 (.pure 3 (.pure 5 (.pure 6 (.pure 7 (.take 4 (.take 8 (.pure 9 (.pure 10 (.pure 11 (.pure 12 (.pure 14 (.pure 15 (.pure 16 (.take 13 (.take 17 (.pure 18 (.pure 19 (.pure 20 (.pure 21 (.pure 23 (.pure 24 (.pure 25 (.take 22 (.take 26 (.pure 27 (.pure 28 .nil))))))))))))))))))))))))))))) (by kernel_rfl) (by kernel_rfl) ?_
  iterate 3 (refine' wpT_pure rfl rfl (fun w' => ?_) ?_; rotate_left 1; (focus ((try go_simp); (try go_bits); (first | done | with_reducible rfl))); simp only [Act.put, List.setIfInBounds_toArray, List.set_cons_zero, List.set_cons_succ])
  iterate 4 (first | (refine' wpT_pure_on rfl rfl (fun w' => ?_) ?_; rotate_left 1; (focus ((try go_simp); (try go_bits); (first | done | with_reducible rfl))); simp only [Act.put, List.setIfInBounds_toArray, List.set_cons_zero, List.set_cons_succ]) | (refine wpT_pure_off rfl rfl ?_; simp only [Act.put, List.setIfInBounds_toArray, List.set_cons_zero, List.set_cons_succ]))
  iterate 2 (first | (refine' wpT_take_on_dddd rfl rfl (fun w' hc hl hsz => ?_) ?_; rotate_left 1; (focus ((try go_simp); (try go_bits); (first | done | with_reducible rfl))); simp only [Act.put, List.setIfInBounds_toArray, List.set_cons_zero, List.set_cons_succ]) | (refine' wpT_take_on_ddd rfl rfl (fun w' hc hl hsz => ?_) ?_; rotate_left 1; (focus ((try go_simp); (try go_bits); (first | done | with_reducible rfl))); simp only [Act.put, List.setIfInBounds_toArray, List.set_cons_zero, List.set_cons_succ]) | (refine' wpT_take_on_dd rfl rfl (fun w' hc hl hsz => ?_) ?_; rotate_left 1; (focus ((try go_simp); (try go_bits); (first | done | with_reducible rfl))); simp only [Act.put, List.setIfInBounds_toArray, List.set_cons_zero, List.set_cons_succ]) | (refine' wpT_take_on_d rfl rfl (fun w' hc hl hsz => ?_) ?_; rotate_left 1; (focus ((try go_simp); (try go_bits); (first | done | with_reducible rfl))); simp only [Act.put, List.setIfInBounds_toArray, List.set_cons_zero, List.set_cons_succ]) | (refine wpT_take_off rfl rfl ?_; simp only [Act.put, List.setIfInBounds_toArray, List.set_cons_zero, List.set_cons_succ]))
  first | (refine' wpT_pure_on rfl rfl (fun w' => ?_) ?_; rotate_left 1; (focus ((try go_simp); (try go_bits); (first | done | with_reducible rfl))); simp only [Act.put, List.setIfInBounds_toArray, List.set_cons_zero, List.set_cons_succ]) | (refine wpT_pure_off rfl rfl ?_; simp only [Act.put, List.setIfInBounds_toArray, List.set_cons_zero, List.set_cons_succ])
  iterate 2 (refine' wpT_pure rfl rfl (fun w' => ?_) ?_; rotate_left 1; (focus ((try go_simp); (try go_bits); (first | done | with_reducible rfl))); simp only [Act.put, List.setIfInBounds_toArray, List.set_cons_zero, List.set_cons_succ])
  iterate 4 (first | (refine' wpT_pure_on rfl rfl (fun w' => ?_) ?_; rotate_left 1; (focus ((try go_simp); (try go_bits); (first | done | with_reducible rfl))); simp only [Act.put, List.setIfInBounds_toArray, List.set_cons_zero, List.set_cons_succ]) | (refine wpT_pure_off rfl rfl ?_; simp only [Act.put, List.setIfInBounds_toArray, List.set_cons_zero, List.set_cons_succ]))
  iterate 2 (first | (refine' wpT_take_on_dddd rfl rfl (fun w' hc hl hsz => ?_) ?_; rotate_left 1; (focus ((try go_simp); (try go_bits); (first | done | with_reducible rfl))); simp only [Act.put, List.setIfInBounds_toArray, List.set_cons_zero, List.set_cons_succ]) | (refine' wpT_take_on_ddd rfl rfl (fun w' hc hl hsz => ?_) ?_; rotate_left 1; (focus ((try go_simp); (try go_bits); (first | done | with_reducible rfl))); simp only [Act.put, List.setIfInBounds_toArray, List.set_cons_zero, List.set_cons_succ]) | (refine' wpT_take_on_dd rfl rfl (fun w' hc hl hsz => ?_) ?_; rotate_left 1; (focus ((try go_simp); (try go_bits); (first | done | with_reducible rfl))); simp only [Act.put, List.setIfInBounds_toArray, List.set_cons_zero, List.set_cons_succ]) | (refine' wpT_take_on_d rfl rfl (fun w' hc hl hsz => ?_) ?_; rotate_left 1; (focus ((try go_simp); (try go_bits); (first | done | with_reducible rfl))); simp only [Act.put, List.setIfInBounds_toArray, List.set_cons_zero, List.set_cons_succ]) | (refine wpT_take_off rfl rfl ?_; simp only [Act.put, List.setIfInBounds_toArray, List.set_cons_zero, List.set_cons_succ]))
  first | (refine' wpT_pure_on rfl rfl (fun w' => ?_) ?_; rotate_left 1; (focus ((try go_simp); (try go_bits); (first | done | with_reducible rfl))); simp only [Act.put, List.setIfInBounds_toArray, List.set_cons_zero, List.set_cons_succ]) | (refine wpT_pure_off rfl rfl ?_; simp only [Act.put, List.setIfInBounds_toArray, List.set_cons_zero, List.set_cons_succ])
  iterate 2 (refine' wpT_pure rfl rfl (fun w' => ?_) ?_; rotate_left 1; (focus ((try go_simp); (try go_bits); (first | done | with_reducible rfl))); simp only [Act.put, List.setIfInBounds_toArray, List.set_cons_zero, List.set_cons_succ])
  iterate 4 (first | (refine' wpT_pure_on rfl rfl (fun w' => ?_) ?_; rotate_left 1; (focus ((try go_simp); (try go_bits); (first | done | with_reducible rfl))); simp only [Act.put, List.setIfInBounds_toArray, List.set_cons_zero, List.set_cons_succ]) | (refine wpT_pure_off rfl rfl ?_; simp only [Act.put, List.setIfInBounds_toArray, List.set_cons_zero, List.set_cons_succ]))
  iterate 2 (first | (refine' wpT_take_on_dddd rfl rfl (fun w' hc hl hsz => ?_) ?_; rotate_left 1; (focus ((try go_simp); (try go_bits); (first | done | with_reducible rfl))); simp only [Act.put, List.setIfInBounds_toArray, List.set_cons_zero, List.set_cons_succ]) | (refine' wpT_take_on_ddd rfl rfl (fun w' hc hl hsz => ?_) ?_; rotate_left 1; (focus ((try go_simp); (try go_bits); (first | done | with_reducible rfl))); simp only [Act.put, List.setIfInBounds_toArray, List.set_cons_zero, List.set_cons_succ]) | (refine' wpT_take_on_dd rfl rfl (fun w' hc hl hsz => ?_) ?_; rotate_left 1; (focus ((try go_simp); (try go_bits); (first | done | with_reducible rfl))); simp only [Act.put, List.setIfInBounds_toArray, List.set_cons_zero, List.set_cons_succ]) | (refine' wpT_take_on_d rfl rfl (fun w' hc hl hsz => ?_) ?_; rotate_left 1; (focus ((try go_simp); (try go_bits); (first | done | with_reducible rfl))); simp only [Act.put, List.setIfInBounds_toArray, List.set_cons_zero, List.set_cons_succ]) | (refine wpT_take_off rfl rfl ?_; simp only [Act.put, List.setIfInBounds_toArray, List.set_cons_zero, List.set_cons_succ]))
  first | (refine' wpT_pure_on rfl rfl (fun w' => ?_) ?_; rotate_left 1; (focus ((try go_simp); (try go_bits); (first | done | with_reducible rfl))); simp only [Act.put, List.setIfInBounds_toArray, List.set_cons_zero, List.set_cons_succ]) | (refine wpT_pure_off rfl rfl ?_; simp only [Act.put, List.setIfInBounds_toArray, List.set_cons_zero, List.set_cons_succ])
  (refine' wpT_pure rfl rfl (fun w' => ?_) ?_; rotate_left 1; (focus ((try go_simp); (try go_bits); (first | done | with_reducible rfl))); simp only [Act.put, List.setIfInBounds_toArray, List.set_cons_zero, List.set_cons_succ])
  refine wpT_nil ?_
  go_wp2_with (first | (go_at_call 35; refine (encode_calls v A C _ (HV.out.ext (Ext.refl W).dr) HIN.out).mono ?_; rw [HE.out]; rintro e w3 ⟨⟨b3, rfl⟩, hx3⟩; have hx3 := Ext.undrew hx3; have y0 := hx3.at v0; have y1 := hx3.at v1; have y2 := hx3.at v2; have y3 := hx3.at v3; have y4 := hx3.at v4; have y5 := hx3.at v5; have hvb3 := Nat.lt_of_lt_of_le hvb hx3.size; have HX3 := Lib.hid hx3; clear hx3) | (go_at_call 39; refine (know_calls cb c L v (.slice A v.value.length C) _ (HMID.out.core.ext HX3.out) (HV.out.ext HX3.out) HLEN.out HMID.out.wf.toNums HB.out.1 HB.out.2.1 HB.out.2.2).mono ?_; rw [HK.out]; rintro e w4 ⟨L4, rfl, hc4, hm4⟩; have h4 := HMID.out.same (w'' := w3) (L'' := L) (c1 := c) (HMID.out.core.ext HX3.out) rfl (Moves.of_ext HX3.out); have hM4 := h4.next hc4 hm4 (HMID.out.wf.know HOK.out); have hblk := hm4.turn.block w.heap.size hvb3 HOWN.out; have x0 := (World.cell?_of_block (a := ⟨w.heap.size, 0, none⟩) hblk).trans y0; have x1 := (World.cell?_of_block (a := ⟨w.heap.size, 1, none⟩) hblk).trans y1; have x3 := (World.cell?_of_block (a := ⟨w.heap.size, 3, none⟩) hblk).trans y3; have hvb4 := Nat.lt_of_lt_of_le hvb3 hm4.turn.size; have hlt4 := hc4.lt; have z11 := hc4.c11; have hsn := hc4.seen.1.lt; have hsl := seen_look hc4.seen v.frm; have HM4 := Lib.hid hM4; have HC4 := Lib.hid hc4; clear h4 hM4 hblk hc4 hm4))
  refine wp_region_T [16] (.pure 0 (.pure 1 (.pure 2 (.pure 4 (.pure 6 (.pure 7 (.pure 8 (.pure 10 (.pure 13 (.take 3 (.take 5 (.take 9 (.take 11 (.take 12 (.take 14 (.pure 15 (.one 16 .nil))))))))))))))))) (by kernel_rfl) (by kernel_rfl) ?_
  iterate 9 (refine' wpT_pure rfl rfl (fun w' => ?_) ?_; rotate_left 1; (focus ((try go_simp); (try go_bits); (first | done | with_reducible rfl))); simp only [Act.put, List.setIfInBounds_toArray, List.set_cons_zero, List.set_cons_succ])
  iterate 6 (first | (refine' wpT_take_dddd rfl rfl (fun w' hc hl hsz => ?_) ?_; rotate_left 1; (focus ((try go_simp); (try go_bits); (first | done | with_reducible rfl))); simp only [Act.put, List.setIfInBounds_toArray, List.set_cons_zero, List.set_cons_succ]) | (refine' wpT_take_ddd rfl rfl (fun w' hc hl hsz => ?_) ?_; rotate_left 1; (focus ((try go_simp); (try go_bits); (first | done | with_reducible rfl))); simp only [Act.put, List.setIfInBounds_toArray, List.set_cons_zero, List.set_cons_succ]) | (refine' wpT_take_dd rfl rfl (fun w' hc hl hsz => ?_) ?_; rotate_left 1; (focus ((try go_simp); (try go_bits); (first | done | with_reducible rfl))); simp only [Act.put, List.setIfInBounds_toArray, List.set_cons_zero, List.set_cons_succ]) | (refine' wpT_take_d rfl rfl (fun w' hc hl hsz => ?_) ?_; rotate_left 1; (focus ((try go_simp); (try go_bits); (first | done | with_reducible rfl))); simp only [Act.put, List.setIfInBounds_toArray, List.set_cons_zero, List.set_cons_succ]))
  (refine' wpT_pure rfl rfl (fun w' => ?_) ?_; rotate_left 1; (focus ((try go_simp); (try go_bits); (first | done | with_reducible rfl))); simp only [Act.put, List.setIfInBounds_toArray, List.set_cons_zero, List.set_cons_succ])
  refine wpT_writer rfl rfl (by decide) (fun K hK => ?_)
  refine wp_mapUpdate _ 67 3 _ _ _ rfl Try.underlying67 L4.seen _ rfl (HC4.out.ext (Ext.refl w4).dr).seen.1 v.frm rfl _ rfl ?_
  intro w8 hm8 hb8
  have h8 := (HC4.out.ext (Ext.refl w4).dr).set_seen (who := v.frm) hm8 hb8
  have H8 := Lib.hid (HM4.out.next h8.1 ((Moves.of_ext (Ext.refl w4).dr).trans h8.2) (HM4.out.wf.put_seen HBF.out HBX.out))
  clear hm8 hb8 h8
  first | (refine hK _ _ ?_; clear hK K) | skip
  refine wpT_nil ?_
  go_wp2_with (go_at_call 40; refine (act_calls cb _ L4 acc Cs k caps _ H8.out.core H8.out.wf H8.out.acc H8.out.sep).mono ?_; rintro e w5 ⟨⟨_, rfl⟩, L5, hc5, hm5⟩)
  go_ret
  rw [HF.out]
  exact ⟨L5, rfl, hc5, (Moves.of_ext HX.out).trans (H8.out.moves.trans hm5)⟩

theorem take_calls (cb : Nat) (c : Core) (L : Lay) (acc : Bytes → Bool) (Cs : List Nat) (k : FuncId) (caps : Array Value) (v : Vote) (A : Option Addr) (C : Nat) (w : World) (hc : CoreAt w cb c L) (hw : Wf c) (ha : AccAt w L.acc acc Cs k caps) (hsep : ∀ b ∈ Cs, ¬ Own cb L b) (hv : BytesAt w (.slice A v.value.length C) v.value) (hlen : v.value.length ≤ 1000000) (hin : VoteIn v) : Calls Try.prog 13 #[.pointer (some ⟨cb, 0, none⟩), .agg (voteCells v (.slice A v.value.length C))] w (TakePost cb L (c.take acc v) w) := by
  by_cases hyes : v.slot = c.slot ∧ v.frm ≤ c.n ∧ v.frm ≠ c.me
  · cases hok : voteOk v with
    | false => exact take_bad cb c L acc Cs k caps v A C w hc hw ha hsep hv hlen hin hyes hok
    | true =>
      cases hk : (c.know v).1 with
      | false => exact take_known cb c L acc Cs k caps v A C w hc hw ha hsep hv hlen hin hyes hok hk (know_false hk)
      | true =>
        by_cases hkind : v.kind = 4
        · exact take_decided cb c L acc Cs k caps v A C w hc hw ha hsep hv hlen hin hyes hok hk hkind
        · exact take_other cb c L acc Cs k caps v A C w hc hw ha hsep hv hlen hin hyes hok hk hkind
  · exact take_alien cb c L acc Cs k caps v A C w hc hw ha hsep hv hlen hin (by omega)
end Go.Proofs.Ytkpllkjionegeaa

/- Walks: a wish, the next view; what is decided, the view (Wish, Late, Decided, View). -/
namespace Go.Proofs.Ytkpllkjionegeaa
open Go Go.RowKit


set_option maxRecDepth 100000 in
set_option maxHeartbeats 800000 in
theorem wish_no (cb : Nat) (c : Core) (L : Lay) (acc : Bytes → Bool) (Cs : List Nat) (k : FuncId) (caps : Array Value) (w : World) (hc : CoreAt w cb c L) (hw : Wf c) (ha : AccAt w L.acc acc Cs k caps) (hsep : ∀ b ∈ Cs, ¬ Own cb L b) (A : Option Addr) (C : Nat) (value : Bytes) (hno : c.wishes = true ∨ value.length > 4096) :
    Calls Try.prog 14 #[.pointer (some ⟨cb, 0, none⟩), .slice A value.length C] w (ActEnds cb L (c.doWish acc value) w) := by
  have HF : Hid (c.doWish acc value = c) := Lib.hid (by unfold Core.doWish; rw [if_pos hno])
  have hlt := hc.lt
  have c6 := hc.c6
  have HC := Lib.hid hc
  clear hc hw ha hsep
  cases hwi : c.wishes with
  | true =>
    rw [hwi] at c6
    clear hno
    go_enter Try.func14, Try.ntmps14
    go_wp2
    refine bodyPost_ret (results_none rfl _ _ _) rfl ?_
    exact ⟨⟨_, rfl⟩, L, by rw [HF.out]; exact HC.out, Moves.refl _ _ _⟩
  | false =>
    rw [hwi] at c6
    have hlong : decide (4096 < (value.length : Int)) = true := by rcases hno with h | h <;> simp_all; omega
    clear hno
    go_enter Try.func14, Try.ntmps14
    go_wp2
    refine bodyPost_ret (results_none rfl _ _ _) rfl ?_
    exact ⟨⟨_, rfl⟩, L, by rw [HF.out]; exact HC.out, Moves.refl _ _ _⟩

set_option maxRecDepth 100000 in
set_option maxHeartbeats 800000 in
theorem wish_yes (cb : Nat) (c : Core) (L : Lay) (acc : Bytes → Bool) (Cs : List Nat) (k : FuncId) (caps : Array Value) (w : World) (hc : CoreAt w cb c L) (hw : Wf c) (ha : AccAt w L.acc acc Cs k caps) (hsep : ∀ b ∈ Cs, ¬ Own cb L b) (A : Option Addr) (C : Nat) (value : Bytes) (hv : BytesAt w (.slice A value.length C) value) (hyes : c.wishes = false ∧ value.length ≤ 4096) :
    Calls Try.prog 14 #[.pointer (some ⟨cb, 0, none⟩), .slice A value.length C] w (ActEnds cb L (c.doWish acc value) w) := by
  have HF : Hid (c.doWish acc value = ({ c with wish := value, wishes := true } : Core).act acc) := Lib.hid (by unfold Core.doWish; rw [if_neg (by simp [hyes])])
  obtain ⟨hwi, hlen⟩ := hyes
  have hmid : Mid cb c L acc Cs k caps w c L w := ⟨hc, Moves.refl cb L w, hw, ha, hsep⟩
  have hlt := hc.lt
  have c6 := hc.c6
  rw [hwi] at c6
  have HC := Lib.hid hc
  have HM := Lib.hid hmid
  have HV := Lib.hid hv
  have hlong : decide (4096 < (value.length : Int)) = false := by simp; omega
  clear hc hw ha hsep hmid hv
  go_enter Try.func14, Try.ntmps14
  go_wp2_with (first
    | (go_at_call 41; refine (clone_calls _ value _ HV.out (by omega)).mono ?_; rintro e w1 ⟨v1, rfl, hb1, hx1⟩; obtain ⟨A1, C1, rfl, _⟩ := id hb1; have hc1 := HC.out.ext hx1; have e5 := hc1.c5; have e6 := hc1.c6; have f5 := hc1.free 5; have f6 := hc1.free 6; have hlt1 := hc1.lt;
        have k1 := cells_store hc1.blk (.slice A1 value.length C1) (i := 5) (u := L.wish) rfl hc1.wish.not_u8;
        have k2 := cells_store k1.1 (.bool true) (i := 6) (u := .bool c.wishes) rfl (by intro x h; cases h);
        have ht := k1.2.trans k2.2 (fun _ _ h => h);
        have hs := CoreAt.set_cells hc1 (c' := { c with wish := value, wishes := true }) (L' := { L with wish := .slice A1 value.length C1 }) k2.1 ht rfl rfl (hb1.turn ht) (hc1.locked.turn ht) (hc1.value.turn ht) ⟨rfl, rfl, rfl, rfl, rfl, rfl⟩ ⟨rfl, rfl, rfl, rfl, rfl, rfl, rfl, rfl, rfl⟩;
        have hn := HM.out.next hs.1 ((Moves.of_ext hx1).trans hs.2) ({ HM.out.wf with wishL := hlen } : Wf { c with wish := value, wishes := true });
        have HN := Lib.hid hn; clear hn hs ht k1 k2 hc1)
    | (go_at_call 40; refine (act_calls cb _ _ acc Cs k caps _ HN.out.core HN.out.wf HN.out.acc HN.out.sep).mono ?_; rintro e w5 ⟨⟨_, rfl⟩, L5, hc5, hm5⟩))
  go_end0
  exact ⟨⟨_, rfl⟩, L5, by rw [HF.out]; exact hc5, HN.out.moves.trans hm5⟩

theorem wish_calls (cb : Nat) (c : Core) (L : Lay) (acc : Bytes → Bool) (Cs : List Nat) (k : FuncId) (caps : Array Value) (w : World) (hc : CoreAt w cb c L) (hw : Wf c) (ha : AccAt w L.acc acc Cs k caps) (hsep : ∀ b ∈ Cs, ¬ Own cb L b) (A : Option Addr) (C : Nat) (value : Bytes) (hv : BytesAt w (.slice A value.length C) value) :
    Calls Try.prog 14 #[.pointer (some ⟨cb, 0, none⟩), .slice A value.length C] w (ActEnds cb L (c.doWish acc value) w) := by
  by_cases h : c.wishes = true ∨ value.length > 4096
  · exact wish_no cb c L acc Cs k caps w hc hw ha hsep A C value h
  · exact wish_yes cb c L acc Cs k caps w hc hw ha hsep A C value hv ⟨by cases hw : c.wishes <;> simp_all, by omega⟩

set_option maxRecDepth 100000 in
set_option maxHeartbeats 800000 in
theorem late_no (cb : Nat) (c : Core) (L : Lay) (acc : Bytes → Bool) (Cs : List Nat) (k : FuncId) (caps : Array Value) (w : World) (hc : CoreAt w cb c L) (hw : Wf c) (ha : AccAt w L.acc acc Cs k caps) (hsep : ∀ b ∈ Cs, ¬ Own cb L b) (hno : ¬ (c.decided = false ∧ c.view < 1048576)) :
    Calls Try.prog 15 #[.pointer (some ⟨cb, 0, none⟩)] w (ActEnds cb L (c.late acc) w) := by
  have HF : Hid (c.late acc = c) := Lib.hid (by unfold Core.late; rw [if_neg hno])
  have hlt := hc.lt
  have c15 := hc.c15
  have c4 := hc.c4
  have HC := Lib.hid hc
  clear hc hw ha hsep
  cases hd : c.decided with
  | true =>
    rw [hd] at c15
    clear hno
    go_enter Try.func15, Try.ntmps15
    go_wp2
    go_end0
    exact ⟨⟨_, rfl⟩, L, by rw [HF.out]; exact HC.out, Moves.refl _ _ _⟩
  | false =>
    rw [hd] at c15
    have hlong : decide (c.view < 1048576) = false := by simp [hd] at hno; simp; omega
    clear hno
    go_enter Try.func15, Try.ntmps15
    go_wp2
    go_end0
    exact ⟨⟨_, rfl⟩, L, by rw [HF.out]; exact HC.out, Moves.refl _ _ _⟩

set_option maxRecDepth 100000 in
set_option maxHeartbeats 800000 in
theorem late_yes (cb : Nat) (c : Core) (L : Lay) (acc : Bytes → Bool) (Cs : List Nat) (k : FuncId) (caps : Array Value) (w : World) (hc : CoreAt w cb c L) (hw : Wf c) (ha : AccAt w L.acc acc Cs k caps) (hsep : ∀ b ∈ Cs, ¬ Own cb L b) (hd : c.decided = false) (hvw : c.view < 1048576) :
    Calls Try.prog 15 #[.pointer (some ⟨cb, 0, none⟩)] w (ActEnds cb L (c.late acc) w) := by
  have HF : Hid (c.late acc = ({ c with view := c.view + 1 } : Core).act acc) := Lib.hid (by unfold Core.late; rw [if_pos ⟨hd, hvw⟩])
  have hmid : Mid cb c L acc Cs k caps w c L w := ⟨hc, Moves.refl cb L w, hw, ha, hsep⟩
  have hlt := hc.lt
  have c15 := hc.c15
  rw [hd] at c15
  have c4 := hc.c4
  have f4 := hc.free 4
  have hv0 := hw.v0
  have k1 := cells_store hc.blk (.int .i64 (c.view + 1)) (i := 4) (u := .int .i64 c.view) rfl (by intro x h; cases h)
  have hs := CoreAt.set_cells hc (c' := { c with view := c.view + 1 }) (L' := L) k1.1 k1.2 rfl rfl (hc.wish.turn k1.2) (hc.locked.turn k1.2) (hc.value.turn k1.2) ⟨rfl, rfl, rfl, rfl, rfl, rfl⟩ ⟨rfl, rfl, rfl, rfl, rfl, rfl, rfl, rfl, rfl⟩
  have hn := hmid.next hs.1 hs.2 ({ hw with v0 := (by show 0 ≤ c.view + 1; omega), v1 := (by show c.view + 1 ≤ 1048576; omega) } : Wf { c with view := c.view + 1 })
  have HN := Lib.hid hn
  have hlong : decide (c.view < 1048576) = true := by simpa using hvw
  clear hc hw ha hsep hmid hs hn k1
  go_enter Try.func15, Try.ntmps15
  go_wp2_with (go_at_call 40; refine (act_calls cb _ _ acc Cs k caps _ HN.out.core HN.out.wf HN.out.acc HN.out.sep).mono ?_; rintro e w5 ⟨⟨_, rfl⟩, L5, hc5, hm5⟩)
  go_end0
  exact ⟨⟨_, rfl⟩, L5, by rw [HF.out]; exact hc5, HN.out.moves.trans hm5⟩

theorem late_calls (cb : Nat) (c : Core) (L : Lay) (acc : Bytes → Bool) (Cs : List Nat) (k : FuncId) (caps : Array Value) (w : World) (hc : CoreAt w cb c L) (hw : Wf c) (ha : AccAt w L.acc acc Cs k caps) (hsep : ∀ b ∈ Cs, ¬ Own cb L b) : Calls Try.prog 15 #[.pointer (some ⟨cb, 0, none⟩)] w (ActEnds cb L (c.late acc) w) := by
  by_cases h : c.decided = false ∧ c.view < 1048576
  · exact late_yes cb c L acc Cs k caps w hc hw ha hsep h.1 h.2
  · exact late_no cb c L acc Cs k caps w hc hw ha hsep h

set_option maxRecDepth 100000 in
theorem view_calls (cb : Nat) (c : Core) (L : Lay) (w : World) (hc : CoreAt w cb c L) :
    Calls Try.prog 51 #[.pointer (some ⟨cb, 0, none⟩)] w (fun e w' => e = .returned (.int .i64 c.view) ∧ w' = w) := by
  have hlt := hc.lt
  have c4 := hc.c4
  clear hc
  go_enter Try.func51, Try.ntmps51
  go_wp2
  go_ret
  exact ⟨rfl, rfl⟩

set_option maxRecDepth 100000 in
set_option maxHeartbeats 400000 in
theorem decided_calls (cb : Nat) (c : Core) (L : Lay) (w : World) (hc : CoreAt w cb c L) (hw : Wf c) :
    Calls Try.prog 50 #[.pointer (some ⟨cb, 0, none⟩)] w (GivesMaybe (if c.decided then some c.value else none) w) := by
  have hlt := hc.lt
  have c15 := hc.c15
  have c16 := hc.c16
  have HC := Lib.hid hc
  have HL := Lib.hid hw.valueL
  clear hc hw
  cases hd : c.decided with
  | false =>
    rw [hd] at c15
    go_enter Try.func50, Try.ntmps50
    go_wp2
    go_ret2
    exact ⟨_, rfl, BytesAt.nil w, Ext.refl w⟩
  | true =>
    rw [hd] at c15
    go_enter Try.func50, Try.ntmps50
    go_wp2_with (go_at_call 41; refine (clone_calls _ c.value _ HC.out.value (by have := HL.out; omega)).mono ?_; rintro e w1 ⟨v1, rfl, hb1, hx1⟩)
    go_ret2
    exact ⟨_, rfl, hb1, hx1⟩
end Go.Proofs.Ytkpllkjionegeaa

/- Walks: how much there is (Grown). -/
namespace Go.Proofs.Ytkpllkjionegeaa
open Go Go.RowKit

theorem told_entries {m : AL Told} {im : AL Nat} {R : Nat → Told → Prop} (h : ARel R im m) (hm : AL.Rising im) (hr : AL.Rising m) (me : Int) :
    (m.filter fun p => (AL.get? p.2 me).isSome).length = im.countP (fun p => (AL.get? (inner m p.1) me).isSome) := by
  have e1 : (m.filter fun p => (AL.get? p.2 me).isSome).length = (AL.keys m).countP (fun k => (AL.get? (inner m k) me).isSome) := by
    unfold AL.keys
    rw [List.countP_map, List.countP_eq_length_filter]
    congr 1
    refine List.filter_congr fun q hq => ?_
    simp only [Function.comp, inner, AL.get?_of_mem hr (show (q.1, q.2) ∈ m from hq), Option.getD_some]
  rw [e1, ← h.keys hm hr, AL.keys, List.countP_map]
  rfl

theorem IterAt.block {w w' : World} {i r : Nat} {todo : List (Int × Value)} (h : IterAt w i r todo) (hi : w'.heap[i]? = w.heap[i]?) (hr : w'.heap[r]? = w.heap[r]?) : IterAt w' i r todo := by
  obtain ⟨es, clk, since, seen, c0, h1, h2, h3⟩ := h
  exact ⟨es, clk, since, seen, c0, hi.trans h1, hr.trans h2, h3⟩

/-- the two arrays of Grown -/
def Arrs (N : Nat) (view n1 n2 : Int) (w : World) : Prop :=
  w.heap[N]? = some (.cells #[.int .i64 0, .int .i64 0, .int .i64 0] 62 (0, 0)) ∧ w.heap[N + 1]? = some (.cells #[.int .i64 view, .int .i64 n1, .int .i64 n2] 62 (0, 0))

theorem told_of_entry {w : World} {r : Nat} {m : AL Told} {im : AL Nat} (h : TMapAt w r m im) {k : Int} {v : Value} (hm : (k, v) ∈ AL.mapVal (fun i => Value.map (some i)) im) : ∃ i, v = .map (some i) ∧ InnerAt w i (inner m k) := by
  obtain ⟨q, hq, e⟩ := List.mem_map.1 hm
  cases e
  have hg := AL.get?_of_mem h.2.1 (show (q.1, q.2) ∈ im from hq)
  obtain ⟨t, ht, hr⟩ := h.2.2.2.fwd hg
  have he : inner m q.1 = t := by simp [inner, ht]
  exact ⟨q.2, rfl, by rw [he]; exact hr⟩

theorem countP_mapVal {im : AL Nat} {f : Nat → Value} (p : Int → Bool) : (AL.mapVal f im).countP (fun q => p q.1) = im.countP (fun q => p q.1) := by
  unfold AL.mapVal
  rw [List.countP_map]
  rfl



set_option maxRecDepth 100000 in
set_option maxHeartbeats 4000000 in
theorem grown_calls (cb : Nat) (c : Core) (L : Lay) (w : World) (hc : CoreAt w cb c L) (hw : Wf c) :
    Calls Try.prog 37 #[.pointer (some ⟨cb, 0, none⟩)] w (fun e w' => e = .returned (.agg #[.int .i64 c.grown.1, .int .i64 c.grown.2.1, .int .i64 c.grown.2.2]) ∧ Ext w w') := by
  have hlt := hc.lt
  have c4 := hc.c4
  have c8 := hc.c8
  obtain ⟨t1, ht1⟩ : ∃ t : Int, t = c.grown.2.1 := ⟨_, rfl⟩
  obtain ⟨t2, ht2⟩ : ∃ t : Int, t = c.grown.2.2 := ⟨_, rfl⟩
  have e1 : t1 = (((AL.mapVal (fun i => Value.map (some i)) L.ip).countP (fun p => (AL.get? (inner c.preps p.1) c.me).isSome) : Nat) : Int) := by
    rw [countP_mapVal (fun k => (AL.get? (inner c.preps k) c.me).isSome), ← told_entries hc.preps.2.2.2 hc.preps.2.1 hc.preps.2.2.1 c.me, ht1]; rfl
  have e2 : t2 = (((AL.mapVal (fun i => Value.map (some i)) L.ic).countP (fun p => (AL.get? (inner c.comms p.1) c.me).isSome) : Nat) : Int) := by
    rw [countP_mapVal (fun k => (AL.get? (inner c.comms k) c.me).isSome), ← told_entries hc.comms.2.2.2 hc.comms.2.1 hc.comms.2.2.1 c.me, ht2]; rfl
  have hm1 : t1 ≤ 1048577 := by
    have h1 : t1 = ((c.preps.filter fun p => (AL.get? p.2 c.me).isSome).length : Int) := ht1
    have := List.length_filter_le (fun p : Int × Told => (AL.get? p.2 c.me).isSome) c.preps
    have := hw.preps.keys.2
    omega
  have hm2 : t2 ≤ 1048577 := by
    have h1 : t2 = ((c.comms.filter fun p => (AL.get? p.2 c.me).isSome).length : Int) := ht2
    have := List.length_filter_le (fun p : Int × Told => (AL.get? p.2 c.me).isSome) c.comms
    have := hw.comms.keys.2
    omega
  have HTOT1 := Lib.hid hm1
  have HTOT2 := Lib.hid hm2
  have HT1 := Lib.hid ht1
  have HT2 := Lib.hid ht2
  have HE1 := Lib.hid e1
  have HE2 := Lib.hid e2
  have HC := Lib.hid hc
  clear hc hw ht1 ht2 e1 e2 hm1 hm2
  have hxa : Below w.heap.size w ((w.alloc (Obj.cells #[.int .i64 0, .int .i64 0, .int .i64 0] 62)).alloc (Obj.cells #[.int .i64 c.view, .int .i64 0, .int .i64 0] 62)) := ((Below.refl _ w).alloc (Nat.le_refl _) _).alloc (by simp) _
  have harr : Arrs w.heap.size c.view 0 0 ((w.alloc (Obj.cells #[.int .i64 0, .int .i64 0, .int .i64 0] 62)).alloc (Obj.cells #[.int .i64 c.view, .int .i64 0, .int .i64 0] 62)) :=
    ⟨(Below.heap_alloc _ _ _ (by simp)).trans (heap_alloc_new w _), by have := heap_alloc_new (w.alloc (Obj.cells #[.int .i64 0, .int .i64 0, .int .i64 0] 62)) (Obj.cells #[.int .i64 c.view, .int .i64 0, .int .i64 0] 62); rw [World.size_alloc] at this; exact this⟩
  have HXA := Lib.hid hxa
  have HARR := Lib.hid harr
  clear hxa harr
  go_enter Try.func37, Try.ntmps37
  go_wp2_with (first
    | (at_range; refine wpList_range _ rfl _ 66 69 rfl Try.underlying66 L.preps _ rfl (HC.out.ext HXA.out).preps.1 ?_; intro w5 hit5 hx5 hs5)
    | go_in)
  go_frame
  simp only [World.size_alloc] at hit5 hs5 ⊢
  obtain ⟨I1, hI1⟩ : ∃ I1, I1 = w.heap.size + 1 + 1 := ⟨_, rfl⟩
  rw [← hI1] at hit5 ⊢
  have hI2 : w.heap.size + 2 ≤ I1 := by omega
  clear hI1
  have HIT5 := Lib.hid hit5
  have HX5 := Lib.hid hx5
  clear hit5 hx5
  go_loopw [5] (fun _ wi => ∃ (n : Int) (todo : List (Int × Value)), Arrs w.heap.size c.view n 0 wi ∧ 0 ≤ n ∧ IterAt wi I1 L.preps todo ∧ Below w.heap.size w wi ∧ (∀ p ∈ todo, p ∈ AL.mapVal (fun i => Value.map (some i)) L.ip) ∧ n + (todo.countP (fun p => (AL.get? (inner c.preps p.1) c.me).isSome) : Int) = t1) (fun _ wi => iterLeft I1 L.preps wi)
  case atStart =>
    refine ⟨0, _, ?_, Int.le_refl _, HIT5.out, HXA.out.trans (Below.mono HX5.out (by simp; omega)), fun p hp => hp, by rw [HE1.out]; simp⟩
    exact ⟨(HX5.out.block _ (by simp; omega)).trans HARR.out.1, (HX5.out.block _ (by simp)).trans HARR.out.2⟩
  case round =>
    obtain ⟨n, todo, hA, hn0, hit, hbl, hsub, hcnt⟩ := hrel
    have hn1 : n ≤ 2000000 := by
      have := HTOT1.out
      omega
    have a1 : wr.cell? ⟨w.heap.size + 1, 1, none⟩ = some (.int .i64 n) := by simp [World.cell?, hA.2]
    have af : wr.frozen? ⟨w.heap.size + 1, 1, none⟩ = false := by simp [World.frozen?, hA.2]
    have hl1 : w.heap.size + 1 < wr.heap.size := (Array.getElem?_eq_some_iff.1 hA.2).1
    have HA := Lib.hid hA
    have HITi := Lib.hid hit
    have HBL := Lib.hid hbl
    have HSUB := Lib.hid hsub
    have HCNT := Lib.hid hcnt
    clear hA hit hbl hsub hcnt
    go_wp2_with (first
      | (at_next; refine wpList_next _ rfl _ rfl I1 L.preps todo rfl HITi.out ?_ ?_)
      | go_in)
    · intro htodo
      have hnt : n = t1 := by have := HCNT.out; rw [htodo] at this; simpa using this
      obtain ⟨wo, hwo⟩ : ∃ wo : World, wo = wr := ⟨_, rfl⟩
      subst hwo
      have hcr := HC.out.ext HBL.out
      have c9 := hcr.c9
      have hltr := hcr.lt
      have HCR := Lib.hid hcr
      have HNT := Lib.hid hnt
      clear hcr hnt htodo a1 af
      go_wp2_with (first
        | (at_range; refine wpList_range _ rfl _ 66 69 rfl Try.underlying66 L.comms _ rfl HCR.out.comms.1 ?_; intro w7 hit7 hx7 hs7)
        | go_in)
      go_frame
      obtain ⟨I2, hJ1⟩ : ∃ I2, I2 = wo.heap.size := ⟨_, rfl⟩
      rw [← hJ1] at hit7 ⊢
      have hJ2 : w.heap.size + 2 ≤ I2 := by omega
      clear hJ1
      have HIT7 := Lib.hid hit7
      have HX7 := Lib.hid hx7
      clear hit7 hx7 hn0 hn1
      go_loopw [9] (fun _ wi => ∃ (n : Int) (todo : List (Int × Value)), Arrs w.heap.size c.view t1 n wi ∧ 0 ≤ n ∧ IterAt wi I2 L.comms todo ∧ Below w.heap.size w wi ∧ (∀ p ∈ todo, p ∈ AL.mapVal (fun i => Value.map (some i)) L.ic) ∧ n + (todo.countP (fun p => (AL.get? (inner c.comms p.1) c.me).isSome) : Int) = t2) (fun _ wi => iterLeft I2 L.comms wi)
      case atStart =>
        refine ⟨0, _, ?_, Int.le_refl _, HIT7.out, HBL.out.trans (Below.mono HX7.out (by omega)), fun p hp => hp, by rw [HE2.out]; simp⟩
        rw [← HNT.out]
        exact ⟨(HX7.out.block _ (by omega)).trans HA.out.1, (HX7.out.block _ (by omega)).trans HA.out.2⟩
      case round =>
        obtain ⟨n, todo, hA, hn0, hit, hbl, hsub, hcnt⟩ := hrel
        have hn1 : n ≤ 2000000 := by
          have := HTOT2.out
          omega
        have a1 : wr.cell? ⟨w.heap.size + 1, 2, none⟩ = some (.int .i64 n) := by simp [World.cell?, hA.2]
        have af : wr.frozen? ⟨w.heap.size + 1, 2, none⟩ = false := by simp [World.frozen?, hA.2]
        have hl1 : w.heap.size + 1 < wr.heap.size := (Array.getElem?_eq_some_iff.1 hA.2).1
        have HA := Lib.hid hA
        have HITi := Lib.hid hit
        have HBL := Lib.hid hbl
        have HSUB := Lib.hid hsub
        have HCNT := Lib.hid hcnt
        clear hA hit hbl hsub hcnt
        go_wp2_with (first
          | (at_next; refine wpList_next _ rfl _ rfl I2 L.comms todo rfl HITi.out ?_ ?_)
          | go_in)
        · intro htodo
          have hnt : n = t2 := by have := HCNT.out; rw [htodo] at this; simpa using this
          subst hnt
          have r0 : ∀ i : Nat, wr.cell? ⟨w.heap.size, i, none⟩ = (#[.int .i64 0, .int .i64 0, .int .i64 0] : Array Value)[i]? := fun i => by simp [World.cell?, HA.out.1]
          have q0 : ∀ i : Nat, wr.cell? ⟨w.heap.size + 1, i, none⟩ = (#[.int .i64 c.view, .int .i64 t1, .int .i64 n] : Array Value)[i]? := fun i => by simp [World.cell?, HA.out.2]
          have rf : ∀ i : Nat, wr.frozen? ⟨w.heap.size, i, none⟩ = false := fun i => by simp [World.frozen?, HA.out.1]
          have hb := HA.out
          go_wp2
          have hf := heap_setCell_same (heap_setCell_same (heap_setCell_same HA.out.1 (i := 0) (.int .i64 c.view)) (i := 1) (.int .i64 t1)) (i := 2) (.int .i64 n)
          have hfb := ((HBL.out.setCell (p := ⟨w.heap.size, 0, none⟩) (Nat.le_refl _) (.int .i64 c.view)).setCell (p := ⟨w.heap.size, 1, none⟩) (Nat.le_refl _) (.int .i64 t1)).setCell (p := ⟨w.heap.size, 2, none⟩) (Nat.le_refl _) (.int .i64 n)
          obtain ⟨wf, hwf⟩ : ∃ wf, wf = (((wr.setCell ⟨w.heap.size, 0, none⟩ (.int .i64 c.view)).setCell ⟨w.heap.size, 1, none⟩ (.int .i64 t1)).setCell ⟨w.heap.size, 2, none⟩ (.int .i64 n)) := ⟨_, rfl⟩
          rw [← hwf] at hf hfb ⊢
          have g0 : wf.cell? ⟨w.heap.size, 0, none⟩ = some (.int .i64 c.view) := by simp [World.cell?, hf]
          have g1 : wf.cell? ⟨w.heap.size, 1, none⟩ = some (.int .i64 t1) := by simp [World.cell?, hf]
          have g2 : wf.cell? ⟨w.heap.size, 2, none⟩ = some (.int .i64 n) := by simp [World.cell?, hf]
          clear hwf hf r0 q0 rf hb
          refine bodyPost_ret (v := .agg #[.int .i64 c.view, .int .i64 t1, .int .i64 n]) ?_ rfl ⟨by rw [HT1.out, HT2.out]; rfl, hfb⟩
          simp [results, Try.f37, go_sem, g0, g1, g2]
        · intro kk vv todo' wj hperm hitj hbj hent
          have hmem := HSUB.out _ (hperm.mem_iff.2 (by simp) : (kk, vv) ∈ todo)
          have hcore : CoreAt wj cb c L := HC.out.ext (Below.mono (HBL.out.grown hbj.grown (by have := HBL.out.size; omega) (fun k e => by cases e; omega)) (Nat.le_refl _))
          obtain ⟨id, rfl, hin⟩ := told_of_entry hcore.comms hmem
          obtain ⟨xk, hl2, _, _⟩ := inner_look hin c.me
          have hidl := hin.lt
          have q1 := hcore.c1
          have hltj := hcore.lt
          have hAj : Arrs w.heap.size c.view t1 n wj := ⟨(hbj.block _ (by omega)).trans HA.out.1, (hbj.block _ (by omega)).trans HA.out.2⟩
          have b1 : wj.cell? ⟨w.heap.size + 1, 2, none⟩ = some (.int .i64 n) := by simp [World.cell?, hAj.2]
          have bf : wj.frozen? ⟨w.heap.size + 1, 2, none⟩ = false := by simp [World.frozen?, hAj.2]
          have hlj : w.heap.size + 1 < wj.heap.size := (Array.getElem?_eq_some_iff.1 hAj.2).1
          have hc2 : (todo.countP (fun p => (AL.get? (inner c.comms p.1) c.me).isSome)) = todo'.countP (fun p => (AL.get? (inner c.comms p.1) c.me).isSome) + (if (AL.get? (inner c.comms kk) c.me).isSome then 1 else 0) := by
            rw [hperm.countP_eq, List.countP_cons]
          have hlenp : todo.length = todo'.length + 1 := by have := hperm.length_eq; simpa using this
          have HAJ := Lib.hid hAj
          have HC2 := Lib.hid hc2
          have HITJ := Lib.hid hitj
          have HBJ := Lib.hid hbj
          have HLP := Lib.hid hlenp
          have HPE := Lib.hid hperm
          have HBJ2 := Lib.hid (HBL.out.grown hbj.grown (by have := HBL.out.size; omega) (fun k e => by cases e; omega))
          clear hc2 hitj hbj hlenp hperm hmem hcore hin hAj
          cases hs : (AL.get? (inner c.comms kk) c.me).isSome with
          | false =>
            rw [hs] at hl2
            have HS := Lib.hid hs
            clear hs
            go_wp2
            go_roundw
            case rel =>
              refine ⟨n, todo', HAJ.out, hn0, HITJ.out, HBJ2.out, fun p hp => HSUB.out p (HPE.out.mem_iff.2 (by simp [hp])), ?_⟩
              have h1 := HCNT.out
              have h2 := HC2.out
              rw [HS.out] at h2
              rw [h2] at h1
              simp at h1 ⊢; omega
            case measure => rw [HITJ.out.left, HITi.out.left]; have := HLP.out; omega
          | true =>
            rw [hs] at hl2
            have HS := Lib.hid hs
            clear hs
            go_wp2
            have hne1 : L.comms ≠ w.heap.size + 1 := by have := HC.out.comms.lt; omega
            have hit6 : IterAt (wj.setCell ⟨w.heap.size + 1, 2, none⟩ (.int .i64 (n + 1))) I2 L.comms todo' := HITJ.out.block (Below.heap_setCell _ _ _ _ (by simp; omega)) (Below.heap_setCell _ _ _ _ (by simpa using hne1))
            go_roundw
            case rel =>
              refine ⟨n + 1, todo', ⟨(Below.heap_setCell _ _ _ _ (by simp)).trans HAJ.out.1, ?_⟩, by omega, hit6, HBJ2.out.setCell (p := ⟨w.heap.size + 1, 2, none⟩) (by simp) _, fun p hp => HSUB.out p (HPE.out.mem_iff.2 (by simp [hp])), ?_⟩
              · have := heap_setCell_same HAJ.out.2 (i := 2) (.int .i64 (n + 1))
                exact this
              · have h1 := HCNT.out
                have h2 := HC2.out
                rw [HS.out] at h2
                rw [h2] at h1
                simp at h1 ⊢; omega
            case measure => rw [hit6.left, HITi.out.left]; have := HLP.out; omega
    · intro kk vv todo' wj hperm hitj hbj hent
      have hmem := HSUB.out _ (hperm.mem_iff.2 (by simp) : (kk, vv) ∈ todo)
      have hcore : CoreAt wj cb c L := HC.out.ext (Below.mono (HBL.out.grown hbj.grown (by have := HBL.out.size; omega) (fun k e => by cases e; omega)) (Nat.le_refl _))
      obtain ⟨id, rfl, hin⟩ := told_of_entry hcore.preps hmem
      obtain ⟨xk, hl2, _, _⟩ := inner_look hin c.me
      have hidl := hin.lt
      have q1 := hcore.c1
      have hltj := hcore.lt
      have hAj : Arrs w.heap.size c.view n 0 wj := ⟨(hbj.block _ (by omega)).trans HA.out.1, (hbj.block _ (by omega)).trans HA.out.2⟩
      have b1 : wj.cell? ⟨w.heap.size + 1, 1, none⟩ = some (.int .i64 n) := by simp [World.cell?, hAj.2]
      have bf : wj.frozen? ⟨w.heap.size + 1, 1, none⟩ = false := by simp [World.frozen?, hAj.2]
      have hlj : w.heap.size + 1 < wj.heap.size := (Array.getElem?_eq_some_iff.1 hAj.2).1
      have hc2 : (todo.countP (fun p => (AL.get? (inner c.preps p.1) c.me).isSome)) = todo'.countP (fun p => (AL.get? (inner c.preps p.1) c.me).isSome) + (if (AL.get? (inner c.preps kk) c.me).isSome then 1 else 0) := by
        rw [hperm.countP_eq, List.countP_cons]
      have hlenp : todo.length = todo'.length + 1 := by have := hperm.length_eq; simpa using this
      have HAJ := Lib.hid hAj
      have HC2 := Lib.hid hc2
      have HITJ := Lib.hid hitj
      have HBJ := Lib.hid hbj
      have HLP := Lib.hid hlenp
      have HPE := Lib.hid hperm
      have HBJ2 := Lib.hid (HBL.out.grown hbj.grown (by have := HBL.out.size; omega) (fun k e => by cases e; omega))
      clear hc2 hitj hbj hlenp hperm hmem hcore hin hAj
      cases hs : (AL.get? (inner c.preps kk) c.me).isSome with
      | false =>
        rw [hs] at hl2
        have HS := Lib.hid hs
        clear hs
        go_wp2
        go_roundw
        case rel =>
          refine ⟨n, todo', HAJ.out, hn0, HITJ.out, HBJ2.out, fun p hp => HSUB.out p (HPE.out.mem_iff.2 (by simp [hp])), ?_⟩
          have h1 := HCNT.out
          have h2 := HC2.out
          rw [HS.out] at h2
          rw [h2] at h1
          simp at h1 ⊢; omega
        case measure => rw [HITJ.out.left, HITi.out.left]; have := HLP.out; omega
      | true =>
        rw [hs] at hl2
        have HS := Lib.hid hs
        clear hs
        go_wp2
        have hne1 : L.preps ≠ w.heap.size + 1 := by have := HC.out.preps.lt; omega
        have hit6 : IterAt (wj.setCell ⟨w.heap.size + 1, 1, none⟩ (.int .i64 (n + 1))) I1 L.preps todo' := HITJ.out.block (Below.heap_setCell _ _ _ _ (by simp; omega)) (Below.heap_setCell _ _ _ _ (by simpa using hne1))
        go_roundw
        case rel =>
          refine ⟨n + 1, todo', ⟨(Below.heap_setCell _ _ _ _ (by simp)).trans HAJ.out.1, ?_⟩, by omega, hit6, HBJ2.out.setCell (p := ⟨w.heap.size + 1, 1, none⟩) (by simp) _, fun p hp => HSUB.out p (HPE.out.mem_iff.2 (by simp [hp])), ?_⟩
          · have := heap_setCell_same HAJ.out.2 (i := 1) (.int .i64 (n + 1))
            exact this
          · have h1 := HCNT.out
            have h2 := HC2.out
            rw [HS.out] at h2
            rw [h2] at h1
            simp at h1 ⊢; omega
        case measure => rw [hit6.left, HITi.out.left]; have := HLP.out; omega
end Go.Proofs.Ytkpllkjionegeaa

/- Walks: a core's own votes (mine). -/
namespace Go.Proofs.Ytkpllkjionegeaa
open Go Go.RowKit

theorem info28 : (Try.prog.info? 28).map (fun i => (i.zero, i.size, i.bytes)) = some (some (.agg #[.int .i64 0, .int .i64 0, .int .i64 0, .int .i64 0, .int .i64 0, .slice none 0 0]), 6, 64) := by kernel_rfl

def OwnBytes (B : Nat) (l : Bytes) (w : World) (e : Ending) (w' : World) : Prop := ∃ v', e = .returned v' ∧ w'.ownsRow B 5 1 v' l.length (byteCells l) ∧ Ext w w'

set_option maxRecDepth 100000 in
set_option maxHeartbeats 400000 in
/-- a clone is a row of its own -/
theorem clone_own (v : Value) (l : Bytes) (w : World) (h : BytesAt w v l) (hlen : l.length ≤ 1000000) :
    Calls Try.prog 41 #[v] w (OwnBytes w.heap.size l w) := by
  obtain ⟨a, cap, rfl, hcap, hr⟩ := h
  cases a with
  | none =>
    have hl : l = [] := by
      cases l with
      | nil => rfl
      | cons x r => obtain ⟨b, o, h, _⟩ := hr (by simp); cases h
    subst hl
    clear hr hlen hcap
    go_enter Try.func41, Try.ntmps41
    go_wp2
    go_ret
    exact ⟨_, rfl, World.ownsRow_nil w _ _ _, Ext.refl w⟩
  | some p =>
    obtain ⟨i0, hi, hz0, hz1, hz2⟩ := info_parts info5
    have hown : (w.alloc (.cells #[] 5)).ownsRow w.heap.size 5 1 (.slice (some ⟨w.heap.size, 0, none⟩) 0 0) 0 [] := World.ownsRow_made w #[] 0 (Nat.le_refl _) (by decide) rfl
    have hnews : ∀ j u, (byteCells l)[j]? = some u → (w.alloc (.cells #[] 5)).cell? (p.add j) = some u := by
      by_cases hl : l = []
      · subst hl; intro j u hu; simp [byteCells] at hu
      · obtain ⟨b, o, he, hc⟩ := hr hl
        cases he
        intro j u hu
        have hx : Ext w (w.alloc (.cells #[] 5)) := (Ext.refl w).alloc (Nat.le_refl _) _
        have h0 := BytesAt.news (cap := cap) hc j u hu
        rw [hx.cell (World.block_lt_of_cell? w _ h0)]; exact h0
    have HO := Lib.hid hown
    have HN := Lib.hid hnews
    have HR := Lib.hid hr
    have HI := Lib.hid hi
    have HM : Hid (0 + l.length ≤ maxLen ∧ (0 + l.length) * 1 ≤ 140737488355328) := Lib.hid (by unfold maxLen; omega)
    clear hr hown hnews hi hlen hcap
    go_enter Try.func41, Try.ntmps41
    go_wp2_with (first
      | (at_builtin; refine wpList_append_own _ rfl _ _ 26 rfl w.heap.size 5 i0 (.int .u8 0) 1 1 Try.underlying26 HI.out hz0 hz1 hz2 rfl (by decide) _ _ _ rfl HO.out p l.length cap (byteCells l) rfl (by simp [byteCells_length]) HN.out (byteCells_one l) HM.out.1 HM.out.2 (by simp) ?_; intro v' w1 hown1 hgrow1 _)
      | go_in)
    go_ret
    exact ⟨_, rfl, by simpa using hown1, ((Ext.refl w).alloc (Nat.le_refl _) _).grown hgrow1 (by simp) (fun k hk => by cases hk; exact Nat.le_refl _)⟩

/-- the cells of votes whose values lie at vs -/
def votesCells (l : List Vote) (vs : List Value) : List Value := (l.zip vs).flatMap fun p => (voteCells p.1 p.2).toList

theorem votesCells_length : ∀ (l : List Vote) (vs : List Value), vs.length = l.length → (votesCells l vs).length = l.length * 6
  | [], vs, h => by simp [votesCells]
  | a :: l, [], h => by simp at h
  | a :: l, v :: vs, h => by
    have := votesCells_length l vs (by simpa using h)
    simp only [votesCells, List.zip_cons_cons, List.flatMap_cons, List.length_append, List.length_cons] at this ⊢
    rw [this]
    simp [voteCells]
    omega

theorem votesCells_snoc (l : List Vote) (vs : List Value) (a : Vote) (v : Value) (h : vs.length = l.length) : votesCells (l ++ [a]) (vs ++ [v]) = votesCells l vs ++ (voteCells a v).toList := by
  unfold votesCells
  rw [List.zip_append h.symm, List.flatMap_append]
  simp

/-- a row of votes of one's own; their values lie in rows of their own, too -/
def VotesOwn (B : Nat) (w : World) (v : Value) (l : List Vote) : Prop :=
  ∃ vs : List Value, vs.length = l.length ∧ w.ownsRow B 28 6 v l.length (votesCells l vs) ∧ ∀ p ∈ l.zip vs, w.ownsRow B 5 1 p.2 p.1.value.length (byteCells p.1.value)

theorem VotesOwn.nil (B : Nat) (w : World) : VotesOwn B w (.slice none 0 0) [] := ⟨[], rfl, World.ownsRow_nil w _ _ _, by simp⟩

/-- the votes of one's own at some views -/
def mineIn (c : Core) (kind : Int) (m : AL Told) (Z : List Int) : List Vote := Z.filterMap fun view => (AL.get? (inner m view) c.me).map fun value => { kind, frm := c.me, slot := c.slot, view, valid := -1, value }

theorem filterMap_congr' {α β : Type} {f g : α → Option β} : ∀ {l : List α}, (∀ x ∈ l, f x = g x) → l.filterMap f = l.filterMap g
  | [], _ => rfl
  | a :: l, h => by
    have h1 := h a (by simp)
    have h2 := filterMap_congr' (f := f) (g := g) (l := l) (fun x hx => h x (by simp [hx]))
    simp only [List.filterMap_cons, h1, h2]

theorem mine_keys {c : Core} {m : AL Told} (hr : AL.Rising m) (kind : Int) : c.mine kind m = mineIn c kind m (AL.keys m) := by
  unfold Core.mine mineIn AL.keys
  rw [List.filterMap_map]
  refine filterMap_congr' fun q hq => ?_
  simp only [Function.comp, inner, AL.get?_of_mem hr (show (q.1, q.2) ∈ m from hq), Option.getD_some]

theorem mineIn_succ (c : Core) (kind : Int) (m : AL Told) {Z : List Int} {k : Nat} (hk : k < Z.length) :
    mineIn c kind m (Z.take (k + 1)) = mineIn c kind m (Z.take k) ++ (match AL.get? (inner m (Z.getD k 0)) c.me with | some value => [{ kind, frm := c.me, slot := c.slot, view := Z.getD k 0, valid := -1, value }] | none => []) := by
  unfold mineIn
  rw [List.take_add_one, List.filterMap_append]
  congr 1
  simp only [List.getD, List.getElem?_eq_getElem hk, Option.toList_some, Option.getD_some, List.filterMap_cons, List.filterMap_nil]
  cases AL.get? (inner m Z[k]) c.me <;> rfl

theorem own_extG {w w' : World} {B e s n : Nat} {v : Value} {xs : List Value} (h : w.ownsRow B e s v n xs) (hx : ∀ k, v.ownBlock = some k → w'.heap[k]? = w.heap[k]?) : w'.ownsRow B e s v n xs := by
  obtain ⟨h1, h2⟩ := h
  refine ⟨h1, ?_⟩
  rcases h2 with h | ⟨g, cap, cur, rfl, hB, hg, h3⟩
  · exact Or.inl h
  · exact Or.inr ⟨g, cap, cur, rfl, hB, (hx g rfl).trans hg, h3⟩

theorem own_lt {w : World} {B e s n : Nat} {v : Value} {xs : List Value} (h : w.ownsRow B e s v n xs) : ∀ k, v.ownBlock = some k → B ≤ k ∧ k < w.heap.size := by
  rcases h.2 with ⟨rfl, _⟩ | ⟨g, cap, cur, rfl, hB, hg, _⟩
  · intro k hk; simp [Value.ownBlock] at hk
  · intro k hk
    have : g = k := by simpa [Value.ownBlock] using hk
    have := (Array.getElem?_eq_some_iff.1 hg).1
    omega

/-- rows of different elements lie in different blocks -/
theorem own_apart {w : World} {B B' e s n e' s' n' : Nat} {v v' : Value} {xs xs' : List Value} (h : w.ownsRow B e s v n xs) (h' : w.ownsRow B' e' s' v' n' xs') (he : e ≠ e') : ∀ k, v'.ownBlock = some k → some k ≠ v.ownBlock := by
  intro k hk e
  rcases h.2 with ⟨rfl, _⟩ | ⟨g, cap, cur, rfl, _, hg, _⟩
  · simp [Value.ownBlock] at e
  · rcases h'.2 with ⟨rfl, _⟩ | ⟨g', cap', cur', rfl, _, hg', _⟩
    · simp [Value.ownBlock] at hk
    · have e1 : g' = k := by simpa [Value.ownBlock] using hk
      have e2 : k = g := by simpa [Value.ownBlock] using e
      subst e1; subst e2
      rw [hg] at hg'
      cases hg'
      exact he rfl

theorem own_mono {w : World} {B B' e s n : Nat} {v : Value} {xs : List Value} (h : w.ownsRow B e s v n xs) (hb : B' ≤ B) : w.ownsRow B' e s v n xs := by
  obtain ⟨h1, h2⟩ := h
  refine ⟨h1, ?_⟩
  rcases h2 with h | ⟨g, cap, cur, rfl, hB, h3⟩
  · exact Or.inl h
  · exact Or.inr ⟨g, cap, cur, rfl, Nat.le_trans hb hB, h3⟩

theorem VotesOwn.ext {B : Nat} {w w' : World} {v : Value} {l : List Vote} (h : VotesOwn B w v l) (hx : Ext w w') : VotesOwn B w' v l := by
  obtain ⟨vs, h1, h2, h3⟩ := h
  exact ⟨vs, h1, own_extG h2 (fun k hk => hx.block k (own_lt h2 k hk).2), fun p hp => own_extG (h3 p hp) (fun k hk => hx.block k (own_lt (h3 p hp) k hk).2)⟩

theorem VotesOwn.mono {B B' : Nat} {w : World} {v : Value} {l : List Vote} (h : VotesOwn B w v l) (hb : B' ≤ B) : VotesOwn B' w v l := by
  obtain ⟨vs, h1, h2, h3⟩ := h
  exact ⟨vs, h1, own_mono h2 hb, fun p hp => own_mono (h3 p hp) hb⟩

/-- a vote has been appended -/
theorem VotesOwn.more {B : Nat} {w w' : World} {v v' u : Value} {l : List Vote} {vs : List Value} {a : Vote} (hl : vs.length = l.length) (hrow : w.ownsRow B 28 6 v l.length (votesCells l vs))
    (hs : ∀ p ∈ l.zip vs, w.ownsRow B 5 1 p.2 p.1.value.length (byteCells p.1.value)) (hu : w.ownsRow B 5 1 u a.value.length (byteCells a.value)) (hrow' : w'.ownsRow B 28 6 v' (l.length + 1) (votesCells l vs ++ (voteCells a u).toList)) (hg : w.grownBy w' v.ownBlock) : VotesOwn B w' v' (l ++ [a]) := by
  have keep : ∀ {p : Value} {m : Nat} {ys : List Value}, w.ownsRow B 5 1 p m ys → w'.ownsRow B 5 1 p m ys := fun h => own_extG h (fun k hk => hg.block k (own_lt h k hk).2 (own_apart hrow h (by decide) k hk))
  refine ⟨vs ++ [u], by simp [hl], ?_, fun p hp => ?_⟩
  · rw [votesCells_snoc l vs a u hl, List.length_append]; exact hrow'
  · rw [List.zip_append hl.symm] at hp
    rcases List.mem_append.1 hp with hp | hp
    · exact keep (hs p hp)
    · simp at hp; subst hp; exact keep hu

set_option maxRecDepth 100000 in
set_option maxHeartbeats 2000000 in
theorem mine_calls (cb : Nat) (c : Core) (L : Lay) (kind : Int) (r : Nat) (m : AL Told) (im : AL Nat) (w : World) (hc : CoreAt w cb c L) (hm : TMapAt w r m im) (hw : TWf m) :
    Calls Try.prog 49 #[.pointer (some ⟨cb, 0, none⟩), .int .i64 kind, .map (some r)] w (fun e w' => ∃ v, e = .returned v ∧ VotesOwn w.heap.size w' v (c.mine kind m) ∧ Ext w w') := by
  obtain ⟨Z, hZ⟩ : ∃ Z, Z = AL.keys m := ⟨_, rfl⟩
  have hzl : Z.length ≤ 1048577 := by rw [hZ]; simpa [AL.keys] using hw.keys.2
  have hmine := mine_keys (c := c) hw.1 kind
  rw [← hZ] at hmine
  obtain ⟨i0, hi, hz0, hz1, hz2⟩ := info_parts info28
  have HI := Lib.hid hi
  have hlt := hc.lt
  have hrl := hm.lt
  have HC := Lib.hid hc
  have HM := Lib.hid hm
  have HW := Lib.hid hw
  have HZ := Lib.hid hZ
  have HZL := Lib.hid hzl
  have HMINE := Lib.hid hmine
  clear hc hm hw hZ hzl hmine hi
  go_enter Try.func49, Try.ntmps49
  go_wp2_with (first
    | (go_at_call 46; refine (keysA_calls _ _).mono ?_; rintro e w1 ⟨rfl, rfl⟩)
    | (go_at_call 45; refine (sortedA_tmap w.heap.size r m im _ (HM.out.turn (Turn.of_ext (S := fun _ => False) ((Ext.refl w).alloc (Nat.le_refl _) _)) (fun h => h) (fun _ _ h => h)) HW.out (boxed w _ 66 |>.2.1 0)).mono ?_; rw [← HZ.out]; rintro e w2 ⟨v2, rfl, hi2, hx2⟩; obtain ⟨A2, C2, rfl, _⟩ := id hi2))
  have HX2 : Hid (Ext w w2) := Lib.hid (Ext.trans (Ext.al (Ext.refl w) _) hx2)
  have HI2 := Lib.hid hi2
  clear hi2 hx2
  have hlt2 := Nat.lt_of_lt_of_le hlt HX2.out.size
  go_loopw [16, 7] (fun v vo wr => ∃ k : Nat, k ≤ Z.length ∧ v = .int .i64 k ∧ VotesOwn w2.heap.size wr vo (mineIn c kind m (Z.take k)) ∧ Ext w2 wr) (fun v _ _ => Z.length - (intOf v).toNat)
  case atStart => exact ⟨0, Nat.zero_le _, rfl, VotesOwn.nil _ _, Ext.refl _⟩
  case round =>
    obtain ⟨k, hk, rfl, hvo, hxr⟩ := hrel
    have hkz2 := HZL.out
    by_cases hlt : k < Z.length
    · obtain ⟨cbk, co, hA, hcell⟩ := HI2.out.at hlt
      have hcell := hxr.at hcell
      subst hA
      have hsucc := mineIn_succ c kind m hlt
      obtain ⟨zk, hzk⟩ : ∃ z, z = Z.getD k 0 := ⟨_, rfl⟩
      rw [← hzk] at hcell hsucc
      have hxw := Ext.trans HX2.out hxr
      have hcr := HC.out.ext hxw
      have hmr := HM.out.turn (Turn.of_ext (S := fun _ => False) hxw) (fun h => h) (fun _ _ h => h)
      have ho := outer_look hmr zk
      obtain ⟨xk, ik, hik, hlk, _, hxk⟩ := told_look2 hmr zk c.me
      have hrlr := hmr.lt
      have d1 := hcr.c1
      have d2 := hcr.c2
      have hltr := hcr.lt
      have HVO := Lib.hid hvo
      have HXR := Lib.hid hxr
      have HS := Lib.hid hsucc
      have HXK := Lib.hid hxk
      clear hvo hxr hsucc hzk hxw hcr hmr hxk
      cases hg : AL.get? (inner m zk) c.me with
      | none =>
        rw [hg] at hlk
        have HG := Lib.hid hg
        clear hg
        go_wp2
        refine wp_region_T [] (.pure 0 (.pure 1 (.pure 3 (.pure 4 (.pure 5 (.take 2 (.take 6 (.take 7 (.pure 8 (.pure 9 (.pure 10 (.pure 11 (.pure 12 .nil))))))))))))) (by kernel_rfl) (by kernel_rfl) ?_
        iterate 5 (refine' wpT_pure rfl rfl (fun w' => ?_) ?_; rotate_left 1; (focus ((try go_simp); (try go_bits); (first | done | with_reducible rfl))); simp only [Act.put, List.setIfInBounds_toArray, List.set_cons_zero, List.set_cons_succ])
        iterate 3 (first | (refine' wpT_take_dddd rfl rfl (fun w' hc hl hsz => ?_) ?_; rotate_left 1; (focus ((try go_simp); (try go_bits); (first | done | with_reducible rfl))); simp only [Act.put, List.setIfInBounds_toArray, List.set_cons_zero, List.set_cons_succ]) | (refine' wpT_take_ddd rfl rfl (fun w' hc hl hsz => ?_) ?_; rotate_left 1; (focus ((try go_simp); (try go_bits); (first | done | with_reducible rfl))); simp only [Act.put, List.setIfInBounds_toArray, List.set_cons_zero, List.set_cons_succ]) | (refine' wpT_take_dd rfl rfl (fun w' hc hl hsz => ?_) ?_; rotate_left 1; (focus ((try go_simp); (try go_bits); (first | done | with_reducible rfl))); simp only [Act.put, List.setIfInBounds_toArray, List.set_cons_zero, List.set_cons_succ]) | (refine' wpT_take_d rfl rfl (fun w' hc hl hsz => ?_) ?_; rotate_left 1; (focus ((try go_simp); (try go_bits); (first | done | with_reducible rfl))); simp only [Act.put, List.setIfInBounds_toArray, List.set_cons_zero, List.set_cons_succ]))
        iterate 5 (refine' wpT_pure rfl rfl (fun w' => ?_) ?_; rotate_left 1; (focus ((try go_simp); (try go_bits); (first | done | with_reducible rfl))); simp only [Act.put, List.setIfInBounds_toArray, List.set_cons_zero, List.set_cons_succ])
        refine wpT_nil ?_
        go_wp2
        refine ⟨⟨k + 1, by omega, by go_num, ?_, Ext.trans HXR.out (Ext.refl wr).dr⟩, by (simp [intOf] <;> omega)⟩
        rw [HS.out, HG.out, List.append_nil]
        exact HVO.out.ext (Ext.refl wr).dr
      | some value =>
        rw [hg] at hlk
        have HG := Lib.hid hg
        have hvl := ((HW.out.inner zk).2 _ _ hg).2
        clear hg
        go_wp2
        refine wp_region_T [] (.pure 0 (.pure 1 (.pure 3 (.pure 4 (.pure 5 (.take 2 (.take 6 (.take 7 (.pure 8 (.pure 9 (.pure 10 (.pure 11 (.pure 12 .nil))))))))))))) (by kernel_rfl) (by kernel_rfl) ?_
        iterate 5 (refine' wpT_pure rfl rfl (fun w' => ?_) ?_; rotate_left 1; (focus ((try go_simp); (try go_bits); (first | done | with_reducible rfl))); simp only [Act.put, List.setIfInBounds_toArray, List.set_cons_zero, List.set_cons_succ])
        iterate 3 (first | (refine' wpT_take_dddd rfl rfl (fun w' hc hl hsz => ?_) ?_; rotate_left 1; (focus ((try go_simp); (try go_bits); (first | done | with_reducible rfl))); simp only [Act.put, List.setIfInBounds_toArray, List.set_cons_zero, List.set_cons_succ]) | (refine' wpT_take_ddd rfl rfl (fun w' hc hl hsz => ?_) ?_; rotate_left 1; (focus ((try go_simp); (try go_bits); (first | done | with_reducible rfl))); simp only [Act.put, List.setIfInBounds_toArray, List.set_cons_zero, List.set_cons_succ]) | (refine' wpT_take_dd rfl rfl (fun w' hc hl hsz => ?_) ?_; rotate_left 1; (focus ((try go_simp); (try go_bits); (first | done | with_reducible rfl))); simp only [Act.put, List.setIfInBounds_toArray, List.set_cons_zero, List.set_cons_succ]) | (refine' wpT_take_d rfl rfl (fun w' hc hl hsz => ?_) ?_; rotate_left 1; (focus ((try go_simp); (try go_bits); (first | done | with_reducible rfl))); simp only [Act.put, List.setIfInBounds_toArray, List.set_cons_zero, List.set_cons_succ]))
        iterate 5 (refine' wpT_pure rfl rfl (fun w' => ?_) ?_; rotate_left 1; (focus ((try go_simp); (try go_bits); (first | done | with_reducible rfl))); simp only [Act.put, List.setIfInBounds_toArray, List.set_cons_zero, List.set_cons_succ])
        refine wpT_nil ?_
        go_wp2
        refine wp_fresh wr (Ext.refl wr).dr (fun W4 hx4 => ?_)
        have e1 := hx4.at d1
        have e2 := hx4.at d2
        have hlt4 := Nat.lt_of_lt_of_le hltr hx4.size
        have hb4 : BytesAt W4 xk value := by have := HXK.out.ext hx4; rw [HG.out] at this; exact this
        obtain ⟨vs, hvl1, hvr, hvs⟩ := HVO.out.ext hx4
        have HX4 := Lib.hid hx4
        have HB4 := Lib.hid hb4
        have HVL1 := Lib.hid hvl1
        have HVR := Lib.hid hvr
        have HVS := Lib.hid hvs
        have hsz4 : w2.heap.size ≤ W4.heap.size := Nat.le_trans HXR.out.size hx4.size
        have hml : (mineIn c kind m (Z.take k)).length ≤ 1048577 := by
          refine Nat.le_trans (List.length_filterMap_le _ _) ?_
          simp; omega
        have HML := Lib.hid hml
        clear hx4 hb4 hvl1 hvr hvs d1 d2 hltr hml ho hlk
        refine wp_region_T [15] (.pure 0 (.pure 1 (.pure 2 (.pure 3 (.pure 4 (.pure 6 (.pure 7 (.pure 8 (.pure 10 (.pure 11 (.take 5 (.take 9 (.one 12 (.pure 13 (.one 14 (.one 15 (.pure 16 .nil))))))))))))))))) (by kernel_rfl) (by kernel_rfl) ?_
        iterate 10 (refine' wpT_pure rfl rfl (fun w' => ?_) ?_; rotate_left 1; (focus ((try go_simp); (try go_bits); (first | done | with_reducible rfl))); simp only [Act.put, List.setIfInBounds_toArray, List.set_cons_zero, List.set_cons_succ])
        iterate 2 (first | (refine' wpT_take_dddd rfl rfl (fun w' hc hl hsz => ?_) ?_; rotate_left 1; (focus ((try go_simp); (try go_bits); (first | done | with_reducible rfl))); simp only [Act.put, List.setIfInBounds_toArray, List.set_cons_zero, List.set_cons_succ]) | (refine' wpT_take_ddd rfl rfl (fun w' hc hl hsz => ?_) ?_; rotate_left 1; (focus ((try go_simp); (try go_bits); (first | done | with_reducible rfl))); simp only [Act.put, List.setIfInBounds_toArray, List.set_cons_zero, List.set_cons_succ]) | (refine' wpT_take_dd rfl rfl (fun w' hc hl hsz => ?_) ?_; rotate_left 1; (focus ((try go_simp); (try go_bits); (first | done | with_reducible rfl))); simp only [Act.put, List.setIfInBounds_toArray, List.set_cons_zero, List.set_cons_succ]) | (refine' wpT_take_d rfl rfl (fun w' hc hl hsz => ?_) ?_; rotate_left 1; (focus ((try go_simp); (try go_bits); (first | done | with_reducible rfl))); simp only [Act.put, List.setIfInBounds_toArray, List.set_cons_zero, List.set_cons_succ]))
        refine wpT_one rfl rfl (fun K hK => ?_)
        go_wp2_with (go_at_call 41; refine (clone_own xk value _ (HB4.out.ext (Ext.refl W4).dr) (by omega)).mono ?_; rintro e w5 ⟨v5, rfl, ho5, hx5⟩; obtain ⟨A5, K5, rfl⟩ := own_slice ho5)
        refine hK _ _ hx5 ?_
        clear hK K
        (refine' wpT_pure rfl rfl (fun w' => ?_) ?_; rotate_left 1; (focus ((try go_simp); (try go_bits); (first | done | with_reducible rfl))); simp only [Act.put, List.setIfInBounds_toArray, List.set_cons_zero, List.set_cons_succ])
        refine wpT_one rfl rfl (fun K hK => ?_)
        go_wp2
        refine hK _ _ (Ext.al (Ext.refl _) _) ?_
        clear hK K
        refine wpT_writer rfl rfl (by decide) (fun K hK => ?_)
        have hx9 : Ext W4 (w5.alloc (Obj.cells #[.int .i64 kind, .int .i64 c.me, .int .i64 c.slot, .int .i64 zk, .int .i64 (-1), .slice A5 value.length K5] 28)) := Ext.al (Ext.undrew hx5) _
        have hrow9 := own_extG HVR.out (fun k hk => hx9.block k (own_lt HVR.out k hk).2)
        have hs9 : ∀ p ∈ (mineIn c kind m (Z.take k)).zip vs, (w5.alloc (Obj.cells #[.int .i64 kind, .int .i64 c.me, .int .i64 c.slot, .int .i64 zk, .int .i64 (-1), .slice A5 value.length K5] 28)).ownsRow w2.heap.size 5 1 p.2 p.1.value.length (byteCells p.1.value) := fun p hp => own_extG (HVS.out p hp) (fun k hk => hx9.block k (own_lt (HVS.out p hp) k hk).2)
        have hu9 := own_mono (ho5.alloc (Obj.cells #[.int .i64 kind, .int .i64 c.me, .int .i64 c.slot, .int .i64 zk, .int .i64 (-1), .slice A5 value.length K5] 28)) hsz4
        refine wp_append _ _ 51 rfl w2.heap.size 28 i0 _ 6 64 Try.underlying51 HI.out hz0 hz1 hz2 rfl (by decide) _ _ _ rfl hrow9 ⟨w5.heap.size, 0, none⟩ 1 1 (voteCells ⟨kind, c.me, c.slot, zk, -1, value⟩ (.slice A5 value.length K5)).toList rfl rfl (World.news_of_block (heap_alloc_new w5 _)) (by simp [voteCells, Value.oneCell']) (by have := HML.out; unfold maxLen; omega) (by have := HML.out; omega) (Nat.le_trans hsz4 hx9.size) ?_
        intro v6 w6 hown6 hgrow6 _ hat
        have hmore := VotesOwn.more (a := ⟨kind, c.me, c.slot, zk, -1, value⟩) HVL1.out hrow9 hs9 hu9 hown6 hgrow6
        have hx6 : Ext w2 w6 := Below.grown ((Ext.trans HXR.out HX4.out).trans hx9) hgrow6 (Nat.le_trans hsz4 hx9.size) (fun k hk => (own_lt hrow9 k hk).1)
        have HMO := Lib.hid hmore
        have HX6 := Lib.hid hx6
        clear hmore hx6 hown6 hgrow6 hat hx9 hrow9 hs9 hu9 ho5 hx5
        first | (refine hK _ _ ?_; clear hK K) | skip
        (refine' wpT_pure rfl rfl (fun w' => ?_) ?_; rotate_left 1; (focus ((try go_simp); (try go_bits); (first | done | with_reducible rfl))); simp only [Act.put, List.setIfInBounds_toArray, List.set_cons_zero, List.set_cons_succ])
        refine wpT_nil ?_
        go_wp2

        refine ⟨⟨k + 1, by omega, by go_num, ?_, HX6.out⟩, by simp [intOf]; omega⟩
        rw [HS.out, HG.out]
        exact HMO.out
    · go_wp2
      go_ret
      have hke : k = Z.length := by omega
      refine ⟨_, rfl, ?_, Ext.trans HX2.out hxr⟩
      rw [HMINE.out]
      rw [hke, List.take_length] at hvo
      exact hvo.mono HX2.out.size
end Go.Proofs.Ytkpllkjionegeaa
