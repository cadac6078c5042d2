/- THE STATEMENT WholeHeard: without the votes that are not taken, each other one told twice, and another wish behind each wish, a core does the same, act by act, and has the same bytes. It holds for every input, without condition. -/
import Derived.Test.YtkpllkjionegeaaJ8
set_option linter.unusedVariables false
set_option linter.unusedSimpArgs false
/- Walks: what is told twice is told once (WholeHeard). -/
namespace Go.Proofs.Ytkpllkjionegeaa
open Go Go.RowKit


theorem peers_ok {n me slot : Int} (hn : 0 ≤ n ∧ n ≤ 255) (hme : 0 ≤ me ∧ me ≤ 255) (hslot : 0 ≤ slot ∧ slot ≤ 255) : 4 ≤ 4 + n % 7 ∧ 4 + n % 7 ≤ 10 ∧ 0 ≤ me % (4 + n % 7) ∧ me % (4 + n % 7) < 4 + n % 7 ∧ 0 ≤ slot % 150 ∧ slot % 150 ≤ 149 := by
  have h1 : 0 < 4 + n % 7 := by omega
  have h2 := Int.emod_nonneg me (show (4 + n % 7) ≠ 0 by omega)
  have h3 := Int.emod_lt_of_pos me h1
  omega

set_option maxRecDepth 100000 in
set_option maxHeartbeats 2000000 in
theorem heard_brief (n me slot : Int) (hn : 0 ≤ n ∧ n ≤ 255) (hme : 0 ≤ me ∧ me ≤ 255) (hslot : 0 ≤ slot ∧ slot ≤ 255) (l : List ActP) (A : Option Addr) (C : Nat) (ob : Bytes) (A' : Option Addr) (C' : Nat) (w : World) (hl : ActsAt w A l) (ho : BytesAt w (.slice A' ob.length C') ob) (hb : brief l = false ∨ 100 < ob.length) : Calls Try.prog 4 #[.int .u8 n, .int .u8 me, .int .u8 slot, .slice A l.length C, .slice A' ob.length C'] w (GivesBool true w) := by
  have HL := Lib.hid hl
  clear hl
  cases hbr : brief l with
  | false =>
    have HBR := Lib.hid hbr
    clear hb hbr
    go_enter Try.func4, Try.ntmps4
    go_wp2_with (first
      | (go_at_call 7; refine (proposes_calls _).mono ?_; rintro e w1 ⟨rfl, hx1⟩)
      | (go_at_call 8; refine (brief_calls l A C _ (HL.out.ext hx1)).mono ?_; rw [HBR.out]; rintro e w2 ⟨rfl, hx2⟩))
    go_ret
    exact ⟨rfl, Ext.trans hx1 hx2⟩
  | true =>
    have HBR := Lib.hid hbr
    have t1 : decide (100 < (ob.length : Int)) = true := by rw [hbr] at hb; simp at hb; simp; omega
    clear hb hbr
    go_enter Try.func4, Try.ntmps4
    go_wp2_with (first
      | (go_at_call 7; refine (proposes_calls _).mono ?_; rintro e w1 ⟨rfl, hx1⟩)
      | (go_at_call 8; refine (brief_calls l A C _ (HL.out.ext hx1)).mono ?_; rw [HBR.out]; rintro e w2 ⟨rfl, hx2⟩))
    go_ret
    exact ⟨rfl, Ext.trans hx1 hx2⟩

set_option maxRecDepth 100000 in
set_option maxHeartbeats 4000000 in
theorem heard_long (n me slot : Int) (hn : 0 ≤ n ∧ n ≤ 255) (hme : 0 ≤ me ∧ me ≤ 255) (hslot : 0 ≤ slot ∧ slot ≤ 255) (l : List ActP) (A : Option Addr) (C : Nat) (ob : Bytes) (A' : Option Addr) (C' : Nat) (w : World) (hl : ActsAt w A l) (ho : BytesAt w (.slice A' ob.length C') ob) (hb : brief l = true) (hob : ob.length ≤ 100) : Calls Try.prog 4 #[.int .u8 n, .int .u8 me, .int .u8 slot, .slice A l.length C, .slice A' ob.length C'] w (GivesBool true w) := by
  have hp := peers_ok hn hme hslot
  have t1 : decide (100 < (ob.length : Int)) = false := by simp; omega
  have hlen := brief_len hb
  obtain ⟨hn0, hn1⟩ := hn
  obtain ⟨hm0, hm1⟩ := hme
  obtain ⟨hs0, hs1⟩ := hslot
  obtain ⟨hp1, hp2, hp3, hp4, hp5, hp6⟩ := hp
  have hp7 : 4 + n % 7 ≠ 0 := by omega
  have HL := Lib.hid hl
  have HO := Lib.hid ho
  have HBR := Lib.hid hb
  have tok1 : True := trivial
  clear hl ho hb
  go_enter Try.func4, Try.ntmps4
  go_wp2_with (first
    | (go_at_call 7; refine (proposes_calls _).mono ?_; rintro e w1 ⟨rfl, hx1⟩)
    | (go_at_call 8; refine (brief_calls l A C _ (HL.out.ext hx1)).mono ?_; rw [HBR.out]; rintro e w2 ⟨rfl, hx2⟩; have HX2 := Lib.hid (Ext.trans hx1 hx2); clear hx1 hx2)
    | (go_at_call 11; clear tok1; obtain ⟨O, hO⟩ : ∃ O, O = 1 + me % (4 + n % 7) := ⟨_, rfl⟩; rw [← hO]; obtain ⟨P, hP⟩ : ∃ P, P = 4 + n % 7 := ⟨_, rfl⟩; rw [← hP]; obtain ⟨S, hS⟩ : ∃ S, S = slot % 150 := ⟨_, rfl⟩; rw [← hS]; have hok : Core.newOk P O S = true := (by unfold Core.newOk; simp only [decide_eq_true_eq]; rw [hP, hO, hS]; omega); have HOK := Lib.hid hok; clear hO hP hS hok; refine (new_calls P O S 12 #[] _ HOK.out).mono ?_; rintro e w3 ⟨cb, L, rfl, hcb, hmaps, hacc, hc1, hx3⟩; have H3 := Lib.hid (And.intro hc1 (And.intro hx3 (And.intro hcb (And.intro hmaps hacc)))); clear hcb hmaps hacc hc1 hx3)
    | (go_at_call 11; refine (new_calls P O S 12 #[] _ HOK.out).mono ?_; rintro e w4 ⟨db, M, rfl, hcb, hmaps, hacc, hc1, hx4⟩; have hT := Two.start H3.out.1 H3.out.2.1 H3.out.2.2.1 H3.out.2.2.2.1 H3.out.2.2.2.2 hc1 hx4 hcb hmaps hacc; have HT := Lib.hid hT; clear H3 hcb hmaps hacc hc1 hx4 hT))
  clear hp1 hp2 hp3 hp4 hp5 hp6 hp7
  have HI : Hid (Is (Core.make P O S) P O S) := Lib.hid ⟨rfl, rfl, rfl⟩
  have HF := Lib.hid (Fine.make HOK.out)
  go_loopw [58, 14, 15] (fun v vc vd wr => ∃ (i : Nat) (c : Core) (cb' db' : Nat) (L' M' : Lay), i ≤ l.length ∧ v = .int .i64 i ∧ vc = .pointer (some ⟨cb', 0, none⟩) ∧ vd = .pointer (some ⟨db', 0, none⟩) ∧ Two w2 accW cb' db' c c L' M' wr ∧ Is c P O S ∧ Fine c i) (fun v _ _ _ => l.length - (intOf v).toNat)
  case atStart => exact ⟨0, _, cb, db, L, M, Nat.zero_le _, rfl, rfl, rfl, HT.out, HI.out, HF.out⟩
  case round =>
    obtain ⟨i, c, cb', db', L', M', hi, rfl, rfl, rfl, hT, hI, hF⟩ := hrel
    clear HT HI HF
    by_cases hlt : i < l.length
    · obtain ⟨g, o, rfl, hact⟩ := HL.out i hlt
      obtain ⟨A1, C1, A2, C2, x0, x1, x2, x3, x4, x5, x6, x7, hbv, hba, hik, hiv⟩ := hact.ext (Ext.trans HX2.out hT.ext)
      obtain ⟨hla, hlv⟩ := brief_get HBR.out hlt
      have hbo := HO.out.ext (Ext.trans HX2.out hT.ext)
      obtain ⟨at', hat⟩ : ∃ a, a = l[i] := ⟨_, rfl⟩
      rw [← hat] at x0 x1 x2 x3 x4 x5 x6 x7 hbv hba hiv hla hlv
      obtain ⟨kd, hkd⟩ : ∃ kd, kd = at'.kind := ⟨_, rfl⟩
      rw [← hkd] at x0
      have hgl : g < wr.heap.size := World.block_lt_of_cell? wr _ x0
      have hT1 := hT.ext' (Ext.al (Ext.refl wr) (.cells #[.int .i64 kd, .int .i64 at'.vote.kind, .int .i64 at'.vote.frm, .int .i64 at'.vote.slot, .int .i64 at'.vote.view, .int .i64 at'.vote.valid, .slice A1 at'.vote.value.length C1, .slice A2 at'.value.length C2] 34))
      have hxb : Ext wr (wr.alloc (.cells #[.int .i64 kd, .int .i64 at'.vote.kind, .int .i64 at'.vote.frm, .int .i64 at'.vote.slot, .int .i64 at'.vote.view, .int .i64 at'.vote.valid, .slice A1 at'.vote.value.length C1, .slice A2 at'.value.length C2] 34)) := Ext.al (Ext.refl wr) _
      have hbox := heap_alloc_new wr (.cells #[.int .i64 kd, .int .i64 at'.vote.kind, .int .i64 at'.vote.frm, .int .i64 at'.vote.slot, .int .i64 at'.vote.view, .int .i64 at'.vote.valid, .slice A1 at'.vote.value.length C1, .slice A2 at'.value.length C2] 34)
      have hnb : ¬ Own cb' L' wr.heap.size := fun ho => by have := hT.hc.own_lt ho; omega
      have hnb' : ¬ Own db' M' wr.heap.size := fun ho => by have := hT.hd.own_lt ho; omega
      have HT := Lib.hid hT1
      have HBX := Lib.hid hbox
      have HNB := Lib.hid hnb
      have HNB' := Lib.hid hnb'
      have HBV := Lib.hid (hbv.ext hxb)
      have HBA := Lib.hid (hba.ext hxb)
      have HBO := Lib.hid (hbo.ext hxb)
      have HIV := Lib.hid hiv
      have HI := Lib.hid hI
      have HF := Lib.hid hF
      have hi2 : i ≤ 99 := by omega
      clear hact hT hT1 hxb hbox hnb hnb' hbv hba hbo hiv hik hI hF hat hkd
      by_cases k0 : kd = 0
      · subst k0
        cases htk : (c.take welcomed at'.vote).1 with
        | false =>
          have HTK : Hid (c.take welcomed at'.vote = (false, c)) := Lib.hid (Prod.ext htk (take_false htk))
          clear htk
          go_wp2_with (first
            | (go_at_call 13; refine (take_calls cb' c L' welcomed [] 12 #[] at'.vote A1 C1 _ HT.out.hc HF.out.wf (by rw [HT.out.accc]; exact accW_at _) no_sep HBV.out (by omega) HIV.out).mono ?_; rw [HTK.out]; rintro e w5 ⟨L5, rfl, hc5, hm5⟩; have HT5 := Lib.hid (HT.out.left hc5 hm5); clear hc5 hm5)
            | (go_at_call 18; refine (cores_calls cb' db' c c L5 M' (.func (.func 19) #[] #[]) id [] 19 #[] _ HT5.out.hc HT5.out.hd HF.out.wf HF.out.wf (voteAs_at _).fn (Alike.self _) (by have := HF.out.bytes_len (by omega); omega)).mono ?_; rintro e wz ⟨rfl, hxz⟩))
          exact ⟨⟨i + 1, _, _, _, _, _, by omega, by go_num, rfl, rfl, HT5.out.ext' hxz, HI.out, HF.out.mono (by omega)⟩, by simp [intOf]; omega⟩
        | true =>
          obtain ⟨c', hc'⟩ : ∃ c', c' = (c.take welcomed at'.vote).2 := ⟨_, rfl⟩
          have hno := take_again_no HF.out.wf htk
          rw [← hc'] at hno
          have HTK : Hid (c.take welcomed at'.vote = (true, c')) := Lib.hid (Prod.ext htk hc'.symm)
          have HTA := Lib.hid hno
          have HF' := Lib.hid (show Fine c' (i + 1) by rw [hc']; exact HF.out.take welcomed (by omega))
          have HI' := Lib.hid (show Is c' P O S by rw [hc']; exact HI.out.take HF.out welcomed (by omega))
          have tok1 : True := trivial
          have tok2 : True := trivial
          clear htk hc' hno
          go_wp2_with (first
            | (go_at_call 13; clear tok1; refine (take_calls cb' c L' welcomed [] 12 #[] at'.vote A1 C1 _ HT.out.hc HF.out.wf (by rw [HT.out.accc]; exact accW_at _) no_sep HBV.out (by omega) HIV.out).mono ?_; rw [HTK.out]; rintro e w5 ⟨L5, rfl, hc5, hm5⟩; have hb5 : w5.heap[wr.heap.size]? = _ := (hm5.turn.block wr.heap.size (by simp) HNB.out).trans HBX.out; have y1_5 : w5.cell? ⟨wr.heap.size, 1, none⟩ = some (.int .i64 at'.vote.kind) := (by simp [World.cell?, hb5]); have y2_5 : w5.cell? ⟨wr.heap.size, 2, none⟩ = some (.int .i64 at'.vote.frm) := (by simp [World.cell?, hb5]); have y3_5 : w5.cell? ⟨wr.heap.size, 3, none⟩ = some (.int .i64 at'.vote.slot) := (by simp [World.cell?, hb5]); have y4_5 : w5.cell? ⟨wr.heap.size, 4, none⟩ = some (.int .i64 at'.vote.view) := (by simp [World.cell?, hb5]); have y5_5 : w5.cell? ⟨wr.heap.size, 5, none⟩ = some (.int .i64 at'.vote.valid) := (by simp [World.cell?, hb5]); have y6_5 : w5.cell? ⟨wr.heap.size, 6, none⟩ = some (.slice A1 at'.vote.value.length C1) := (by simp [World.cell?, hb5]); have y7_5 : w5.cell? ⟨wr.heap.size, 7, none⟩ = some (.slice A2 at'.value.length C2) := (by simp [World.cell?, hb5]); have hl5 : wr.heap.size < w5.heap.size := (Array.getElem?_eq_some_iff.1 hb5).1; have HT5 := Lib.hid (HT.out.left hc5 hm5); have HB5 := Lib.hid hb5; have HV5 := Lib.hid (HBV.out.turn hm5.turn); clear hc5 hm5 hb5)
            | (go_at_call 13; clear tok2; refine (take_calls db' c M' welcomed [] 12 #[] at'.vote A1 C1 _ HT5.out.hd HF.out.wf (by rw [HT5.out.accd]; exact accW_at _) no_sep HV5.out (by omega) HIV.out).mono ?_; rw [HTK.out]; rintro e w6 ⟨M6, rfl, hc6, hm6⟩; have hb6 : w6.heap[wr.heap.size]? = _ := (hm6.turn.block wr.heap.size hl5 HNB'.out).trans HB5.out; have y1_6 : w6.cell? ⟨wr.heap.size, 1, none⟩ = some (.int .i64 at'.vote.kind) := (by simp [World.cell?, hb6]); have y2_6 : w6.cell? ⟨wr.heap.size, 2, none⟩ = some (.int .i64 at'.vote.frm) := (by simp [World.cell?, hb6]); have y3_6 : w6.cell? ⟨wr.heap.size, 3, none⟩ = some (.int .i64 at'.vote.slot) := (by simp [World.cell?, hb6]); have y4_6 : w6.cell? ⟨wr.heap.size, 4, none⟩ = some (.int .i64 at'.vote.view) := (by simp [World.cell?, hb6]); have y5_6 : w6.cell? ⟨wr.heap.size, 5, none⟩ = some (.int .i64 at'.vote.valid) := (by simp [World.cell?, hb6]); have y6_6 : w6.cell? ⟨wr.heap.size, 6, none⟩ = some (.slice A1 at'.vote.value.length C1) := (by simp [World.cell?, hb6]); have y7_6 : w6.cell? ⟨wr.heap.size, 7, none⟩ = some (.slice A2 at'.value.length C2) := (by simp [World.cell?, hb6]); have hl6 : wr.heap.size < w6.heap.size := (Array.getElem?_eq_some_iff.1 hb6).1; have HT6 := Lib.hid (HT5.out.right hc6 hm6); have HV6 := Lib.hid (HV5.out.turn hm6.turn); clear hc6 hm6 hb6)
            | (go_at_call 13; refine (take_calls db' c' M6 welcomed [] 12 #[] at'.vote A1 C1 _ HT6.out.hd HF'.out.wf (by rw [HT6.out.accd]; exact accW_at _) no_sep HV6.out (by omega) HIV.out).mono ?_; rw [HTA.out]; rintro e w7 ⟨M7, rfl, hc7, hm7⟩; have HT7 := Lib.hid (HT6.out.right hc7 hm7); clear hc7 hm7)
            | (go_at_call 18; refine (cores_calls cb' db' c' c' L5 M7 (.func (.func 19) #[] #[]) id [] 19 #[] _ HT7.out.hc HT7.out.hd HF'.out.wf HF'.out.wf (voteAs_at _).fn (Alike.self _) (by have := HF'.out.bytes_len (by omega); omega)).mono ?_; rintro e wz ⟨rfl, hxz⟩))
          exact ⟨⟨i + 1, _, _, _, _, _, by omega, by go_num, rfl, rfl, HT7.out.ext' hxz, HI'.out, HF'.out⟩, by simp [intOf]; omega⟩
      · by_cases k1 : kd = 1
        · subst k1
          obtain ⟨c', hc'⟩ : ∃ c', c' = c.doWish welcomed at'.value := ⟨_, rfl⟩
          have hwa := wish_again (acc := welcomed) (a := at'.value) (b := ob) HF.out.wf (by omega)
          rw [← hc'] at hwa
          have HC' := Lib.hid hc'
          have HWA := Lib.hid hwa
          have HF' := Lib.hid (show Fine c' (i + 1) by rw [hc']; exact HF.out.wish welcomed (by omega))
          have HI' := Lib.hid (show Is c' P O S by rw [hc']; exact HI.out.wish HF.out welcomed (by omega))
          have tok1 : True := trivial
          have tok2 : True := trivial
          clear hc' hwa
          by_cases hz : 0 < at'.value.length
          · have tlen : decide (0 < (at'.value.length : Int)) = true := by simp; omega
            go_wp2_with (first
              | (go_at_call 14; clear tok1; refine (wish_calls cb' c L' welcomed [] 12 #[] _ HT.out.hc HF.out.wf (by rw [HT.out.accc]; exact accW_at _) no_sep _ _ at'.value HBA.out).mono ?_; rw [← HC'.out]; rintro e w5 ⟨⟨_, rfl⟩, L5, hc5, hm5⟩; have hb5 : w5.heap[wr.heap.size]? = _ := (hm5.turn.block wr.heap.size (by simp) HNB.out).trans HBX.out; have y1_5 : w5.cell? ⟨wr.heap.size, 1, none⟩ = some (.int .i64 at'.vote.kind) := (by simp [World.cell?, hb5]); have y2_5 : w5.cell? ⟨wr.heap.size, 2, none⟩ = some (.int .i64 at'.vote.frm) := (by simp [World.cell?, hb5]); have y3_5 : w5.cell? ⟨wr.heap.size, 3, none⟩ = some (.int .i64 at'.vote.slot) := (by simp [World.cell?, hb5]); have y4_5 : w5.cell? ⟨wr.heap.size, 4, none⟩ = some (.int .i64 at'.vote.view) := (by simp [World.cell?, hb5]); have y5_5 : w5.cell? ⟨wr.heap.size, 5, none⟩ = some (.int .i64 at'.vote.valid) := (by simp [World.cell?, hb5]); have y6_5 : w5.cell? ⟨wr.heap.size, 6, none⟩ = some (.slice A1 at'.vote.value.length C1) := (by simp [World.cell?, hb5]); have y7_5 : w5.cell? ⟨wr.heap.size, 7, none⟩ = some (.slice A2 at'.value.length C2) := (by simp [World.cell?, hb5]); have hl5 : wr.heap.size < w5.heap.size := (Array.getElem?_eq_some_iff.1 hb5).1; have HT5 := Lib.hid (HT.out.left hc5 hm5); have HB5 := Lib.hid hb5; have HV5 := Lib.hid (HBA.out.turn hm5.turn); have HO5 := Lib.hid (HBO.out.turn hm5.turn); clear hc5 hm5 hb5)
              | (go_at_call 14; clear tok2; refine (wish_calls db' c M' welcomed [] 12 #[] _ HT5.out.hd HF.out.wf (by rw [HT5.out.accd]; exact accW_at _) no_sep _ _ at'.value HV5.out).mono ?_; rw [← HC'.out]; rintro e w6 ⟨⟨_, rfl⟩, M6, hc6, hm6⟩; have hb6 : w6.heap[wr.heap.size]? = _ := (hm6.turn.block wr.heap.size hl5 HNB'.out).trans HB5.out; have y1_6 : w6.cell? ⟨wr.heap.size, 1, none⟩ = some (.int .i64 at'.vote.kind) := (by simp [World.cell?, hb6]); have y2_6 : w6.cell? ⟨wr.heap.size, 2, none⟩ = some (.int .i64 at'.vote.frm) := (by simp [World.cell?, hb6]); have y3_6 : w6.cell? ⟨wr.heap.size, 3, none⟩ = some (.int .i64 at'.vote.slot) := (by simp [World.cell?, hb6]); have y4_6 : w6.cell? ⟨wr.heap.size, 4, none⟩ = some (.int .i64 at'.vote.view) := (by simp [World.cell?, hb6]); have y5_6 : w6.cell? ⟨wr.heap.size, 5, none⟩ = some (.int .i64 at'.vote.valid) := (by simp [World.cell?, hb6]); have y6_6 : w6.cell? ⟨wr.heap.size, 6, none⟩ = some (.slice A1 at'.vote.value.length C1) := (by simp [World.cell?, hb6]); have y7_6 : w6.cell? ⟨wr.heap.size, 7, none⟩ = some (.slice A2 at'.value.length C2) := (by simp [World.cell?, hb6]); have hl6 : wr.heap.size < w6.heap.size := (Array.getElem?_eq_some_iff.1 hb6).1; have HT6 := Lib.hid (HT5.out.right hc6 hm6); have HO6 := Lib.hid (HO5.out.turn hm6.turn); clear hc6 hm6 hb6)
              | (go_at_call 14; refine (wish_calls db' c' M6 welcomed [] 12 #[] _ HT6.out.hd HF'.out.wf (by rw [HT6.out.accd]; exact accW_at _) no_sep _ _ ob HO6.out).mono ?_; rw [HWA.out]; rintro e w7 ⟨⟨_, rfl⟩, M7, hc7, hm7⟩; have HT7 := Lib.hid (HT6.out.right hc7 hm7); clear hc7 hm7)
              | (go_at_call 18; refine (cores_calls cb' db' c' c' L5 M7 (.func (.func 19) #[] #[]) id [] 19 #[] _ HT7.out.hc HT7.out.hd HF'.out.wf HF'.out.wf (voteAs_at _).fn (Alike.self _) (by have := HF'.out.bytes_len (by omega); omega)).mono ?_; rintro e wz ⟨rfl, hxz⟩))
            exact ⟨⟨i + 1, _, _, _, _, _, by omega, by go_num, rfl, rfl, HT7.out.ext' hxz, HI'.out, HF'.out⟩, by simp [intOf]; omega⟩
          · have tlen : decide (0 < (at'.value.length : Int)) = false := by rw [show at'.value.length = 0 by omega]; rfl
            go_wp2_with (first
              | (go_at_call 14; clear tok1; refine (wish_calls cb' c L' welcomed [] 12 #[] _ HT.out.hc HF.out.wf (by rw [HT.out.accc]; exact accW_at _) no_sep _ _ at'.value HBA.out).mono ?_; rw [← HC'.out]; rintro e w5 ⟨⟨_, rfl⟩, L5, hc5, hm5⟩; have hb5 : w5.heap[wr.heap.size]? = _ := (hm5.turn.block wr.heap.size (by simp) HNB.out).trans HBX.out; have y1_5 : w5.cell? ⟨wr.heap.size, 1, none⟩ = some (.int .i64 at'.vote.kind) := (by simp [World.cell?, hb5]); have y2_5 : w5.cell? ⟨wr.heap.size, 2, none⟩ = some (.int .i64 at'.vote.frm) := (by simp [World.cell?, hb5]); have y3_5 : w5.cell? ⟨wr.heap.size, 3, none⟩ = some (.int .i64 at'.vote.slot) := (by simp [World.cell?, hb5]); have y4_5 : w5.cell? ⟨wr.heap.size, 4, none⟩ = some (.int .i64 at'.vote.view) := (by simp [World.cell?, hb5]); have y5_5 : w5.cell? ⟨wr.heap.size, 5, none⟩ = some (.int .i64 at'.vote.valid) := (by simp [World.cell?, hb5]); have y6_5 : w5.cell? ⟨wr.heap.size, 6, none⟩ = some (.slice A1 at'.vote.value.length C1) := (by simp [World.cell?, hb5]); have y7_5 : w5.cell? ⟨wr.heap.size, 7, none⟩ = some (.slice A2 at'.value.length C2) := (by simp [World.cell?, hb5]); have hl5 : wr.heap.size < w5.heap.size := (Array.getElem?_eq_some_iff.1 hb5).1; have HT5 := Lib.hid (HT.out.left hc5 hm5); have HB5 := Lib.hid hb5; have HV5 := Lib.hid (HBA.out.turn hm5.turn); have HO5 := Lib.hid (HBO.out.turn hm5.turn); clear hc5 hm5 hb5)
              | (go_at_call 14; clear tok2; refine (wish_calls db' c M' welcomed [] 12 #[] _ HT5.out.hd HF.out.wf (by rw [HT5.out.accd]; exact accW_at _) no_sep _ _ at'.value HV5.out).mono ?_; rw [← HC'.out]; rintro e w6 ⟨⟨_, rfl⟩, M6, hc6, hm6⟩; have hb6 : w6.heap[wr.heap.size]? = _ := (hm6.turn.block wr.heap.size hl5 HNB'.out).trans HB5.out; have y1_6 : w6.cell? ⟨wr.heap.size, 1, none⟩ = some (.int .i64 at'.vote.kind) := (by simp [World.cell?, hb6]); have y2_6 : w6.cell? ⟨wr.heap.size, 2, none⟩ = some (.int .i64 at'.vote.frm) := (by simp [World.cell?, hb6]); have y3_6 : w6.cell? ⟨wr.heap.size, 3, none⟩ = some (.int .i64 at'.vote.slot) := (by simp [World.cell?, hb6]); have y4_6 : w6.cell? ⟨wr.heap.size, 4, none⟩ = some (.int .i64 at'.vote.view) := (by simp [World.cell?, hb6]); have y5_6 : w6.cell? ⟨wr.heap.size, 5, none⟩ = some (.int .i64 at'.vote.valid) := (by simp [World.cell?, hb6]); have y6_6 : w6.cell? ⟨wr.heap.size, 6, none⟩ = some (.slice A1 at'.vote.value.length C1) := (by simp [World.cell?, hb6]); have y7_6 : w6.cell? ⟨wr.heap.size, 7, none⟩ = some (.slice A2 at'.value.length C2) := (by simp [World.cell?, hb6]); have hl6 : wr.heap.size < w6.heap.size := (Array.getElem?_eq_some_iff.1 hb6).1; have HT6 := Lib.hid (HT5.out.right hc6 hm6); have HO6 := Lib.hid (HO5.out.turn hm6.turn); clear hc6 hm6 hb6)
              | (go_at_call 18; refine (cores_calls cb' db' c' c' L5 M6 (.func (.func 19) #[] #[]) id [] 19 #[] _ HT6.out.hc HT6.out.hd HF'.out.wf HF'.out.wf (voteAs_at _).fn (Alike.self _) (by have := HF'.out.bytes_len (by omega); omega)).mono ?_; rintro e wz ⟨rfl, hxz⟩))
            exact ⟨⟨i + 1, _, _, _, _, _, by omega, by go_num, rfl, rfl, HT6.out.ext' hxz, HI'.out, HF'.out⟩, by simp [intOf]; omega⟩
        · by_cases k2 : kd = 2
          · subst k2
            obtain ⟨c', hc'⟩ : ∃ c', c' = c.late welcomed := ⟨_, rfl⟩
            have HC' := Lib.hid hc'
            have HF' := Lib.hid (show Fine c' (i + 1) by rw [hc']; exact HF.out.late welcomed)
            have HI' := Lib.hid (show Is c' P O S by rw [hc']; exact HI.out.late HF.out welcomed)
            have tok1 : True := trivial
            clear hc'
            go_wp2_with (first
              | (go_at_call 15; clear tok1; refine (late_calls cb' c L' welcomed [] 12 #[] _ HT.out.hc HF.out.wf (by rw [HT.out.accc]; exact accW_at _) no_sep).mono ?_; rw [← HC'.out]; rintro e w5 ⟨⟨_, rfl⟩, L5, hc5, hm5⟩; have HT5 := Lib.hid (HT.out.left hc5 hm5); clear hc5 hm5)
              | (go_at_call 15; refine (late_calls db' c M' welcomed [] 12 #[] _ HT5.out.hd HF.out.wf (by rw [HT5.out.accd]; exact accW_at _) no_sep).mono ?_; rw [← HC'.out]; rintro e w6 ⟨⟨_, rfl⟩, M6, hc6, hm6⟩; have HT6 := Lib.hid (HT5.out.right hc6 hm6); clear hc6 hm6)
              | (go_at_call 18; refine (cores_calls cb' db' c' c' L5 M6 (.func (.func 19) #[] #[]) id [] 19 #[] _ HT6.out.hc HT6.out.hd HF'.out.wf HF'.out.wf (voteAs_at _).fn (Alike.self _) (by have := HF'.out.bytes_len (by omega); omega)).mono ?_; rintro e wz ⟨rfl, hxz⟩))
            exact ⟨⟨i + 1, _, _, _, _, _, by omega, by go_num, rfl, rfl, HT6.out.ext' hxz, HI'.out, HF'.out⟩, by simp [intOf]; omega⟩
          · by_cases k3 : kd = 3
            · subst k3
              have HF' := Lib.hid (show Fine c.anew (i + 1) from HF.out.anew.mono (by omega))
              have HI' := Lib.hid HI.out.anew
              have hbl : c.bytes.length ≤ 1000000 := by have := HF.out.bytes_len (by omega); omega
              have tok1 : True := trivial
              have tok2 : True := trivial
              go_wp2_with (first
                | (go_at_call 17; clear tok1; refine (bytes_calls cb' c L' _ HT.out.hc HF.out.wf hbl).mono ?_; rintro e w5 ⟨v5, rfl, hb5, hx5⟩; obtain ⟨A5, C5, rfl, _⟩ := id hb5; have HT5 := Lib.hid (HT.out.ext' hx5); have HB5 := Lib.hid hb5; clear hb5 hx5)
                | (go_at_call 16; clear tok2; refine (show Calls Try.prog 16 #[.int .i64 P, .int .i64 O, .int .i64 S, .func (.func 12) #[] #[], .slice A5 c.bytes.length C5] _ (OfPost accW c.anew _) from (by have h := of_calls c i HF.out (by omega) 12 #[] A5 C5 c.bytes rfl _ HB5.out; rw [HI.out.n, HI.out.me, HI.out.slot] at h; exact h)).mono ?_; rintro e w6 ⟨cb6, L6, rfl, hcb6, hmp6, hac6, hc6, hx6⟩; have HT6 := Lib.hid (HT5.out.anewLeft hc6 hcb6 hmp6 hac6 hx6); clear hcb6 hmp6 hac6 hc6 hx6)
                | (go_at_call 17; refine (bytes_calls db' c M' _ HT6.out.hd HF.out.wf hbl).mono ?_; rintro e w7 ⟨v7, rfl, hb7, hx7⟩; obtain ⟨A7, C7, rfl, _⟩ := id hb7; have HT7 := Lib.hid (HT6.out.ext' hx7); have HB7 := Lib.hid hb7; clear hb7 hx7)
                | (go_at_call 16; refine (show Calls Try.prog 16 #[.int .i64 P, .int .i64 O, .int .i64 S, .func (.func 12) #[] #[], .slice A7 c.bytes.length C7] _ (OfPost accW c.anew _) from (by have h := of_calls c i HF.out (by omega) 12 #[] A7 C7 c.bytes rfl _ HB7.out; rw [HI.out.n, HI.out.me, HI.out.slot] at h; exact h)).mono ?_; rintro e w8 ⟨db8, M8, rfl, hcb8, hmp8, hac8, hc8, hx8⟩; have HT8 := Lib.hid (HT7.out.anewRight hc8 hcb8 hmp8 hac8 hx8); clear hcb8 hmp8 hac8 hc8 hx8)
                | (go_at_call 18; refine (cores_calls cb6 db8 c.anew c.anew L6 M8 (.func (.func 19) #[] #[]) id [] 19 #[] _ HT8.out.hc HT8.out.hd HF'.out.wf HF'.out.wf (voteAs_at _).fn (Alike.self _) (by have := HF'.out.bytes_len (by omega); omega)).mono ?_; rintro e wz ⟨rfl, hxz⟩))
              exact ⟨⟨i + 1, _, _, _, _, _, by omega, by go_num, rfl, rfl, HT8.out.ext' hxz, HI'.out, HF'.out⟩, by simp [intOf]; omega⟩
            · have t0 : (kd == 0) = false := by simpa using k0
              have t1' : (kd == 1) = false := by simpa using k1
              have t2 : (kd == 2) = false := by simpa using k2
              have t3 : (kd == 3) = false := by simpa using k3
              clear k0 k1 k2 k3
              go_wp2_with (first
                | (go_at_call 18; refine (cores_calls cb' db' c c L' M' (.func (.func 19) #[] #[]) id [] 19 #[] _ HT.out.hc HT.out.hd HF.out.wf HF.out.wf (voteAs_at _).fn (Alike.self _) (by have := HF.out.bytes_len (by omega); omega)).mono ?_; rintro e wz ⟨rfl, hxz⟩))
              exact ⟨⟨i + 1, _, _, _, _, _, by omega, by go_num, rfl, rfl, HT.out.ext' hxz, HI.out, HF.out.mono (by omega)⟩, by simp [intOf]; omega⟩
    · have HT := Lib.hid hT
      have HF := Lib.hid hF
      clear hT hF hI
      go_wp2_with (first
        | (go_at_call 18; refine (cores_calls cb' db' c c L' M' (.func (.func 19) #[] #[]) id [] 19 #[] _ HT.out.hc HT.out.hd HF.out.wf HF.out.wf (voteAs_at _).fn (Alike.self _) (by have := HF.out.bytes_len (by omega); omega)).mono ?_; rintro e wz ⟨rfl, hxz⟩))
      go_ret
      exact ⟨rfl, Ext.trans HX2.out (HT.out.ext' hxz).ext⟩

theorem heard_calls (n me slot : Int) (hn : 0 ≤ n ∧ n ≤ 255) (hme : 0 ≤ me ∧ me ≤ 255) (hslot : 0 ≤ slot ∧ slot ≤ 255) (l : List ActP) (A : Option Addr) (C : Nat) (ob : Bytes) (A' : Option Addr) (C' : Nat) (w : World) (hl : ActsAt w A l) (ho : BytesAt w (.slice A' ob.length C') ob) : Calls Try.prog 4 #[.int .u8 n, .int .u8 me, .int .u8 slot, .slice A l.length C, .slice A' ob.length C'] w (GivesBool true w) := by
  cases hb : brief l with
  | false => exact heard_brief n me slot hn hme hslot l A C ob A' C' w hl ho (Or.inl hb)
  | true =>
    by_cases hob : ob.length ≤ 100
    · exact heard_long n me slot hn hme hslot l A C ob A' C' w hl ho hb hob
    · exact heard_brief n me slot hn hme hslot l A C ob A' C' w hl ho (Or.inr (by omega))
end Go.Proofs.Ytkpllkjionegeaa

/- THE STATEMENT WholeHeard: without the votes that are not taken, each other one told twice, and another wish behind each wish, a core does the same and has the same bytes. It holds for every input. -/
namespace Go.Proofs.Ytkpllkjionegeaa
open Go Go.RowKit Go.ChangeShapes Go.WideShapes Go.ChangeAt

set_option maxRecDepth 100000 in
theorem heard_lifted (os : Os) (started : os.Started) (H : Type) (enc : TypeId × Value → H) :
    ReturnsInHanded {} Try.checked os 4 .any (Rows.wholeHeardSpec.pre6 enc Try.prog Try.f4 Rows.wholeHeardRow.domain false) (Rows.wholeHeardSpec.post enc Try.prog Try.f4 false true false false) := by
  refine returnsInHanded_of_change (C := Try.checked) ownG started (by kernel_rfl) Try.func4
    (ChangeSpec.witness6 (enc := enc) (C := Try.checked) false ⟨#[], #[.int .u8 0, .int .u8 0, .int .u8 0, .slice none 0 0, .slice none 0 0], []⟩ 8 (by kernel_rfl) (by kernel_rfl) (by kernel_rfl) (by kernel_rfl)) ?_
  intro W base args ds gs before hval0 hW hcnd _
  have hval : ∀ (j : Nat) t v, Try.f4.params[j]? = some t → args[j]? = some v → Value.okWide Try.prog W .any base t v := hval0
  have hW' := hW
  obtain ⟨p, q, hA0, hV, rfl, hfz, hnd⟩ := hW
  have hA : DataW.TrodAll enc Try.prog W 0 (fun _ => true) true Try.f4.params.toList args.toList ds p := hA0
  rw [Try.params4] at hA hval
  obtain ⟨v0, vs0, d0, ds0, p0, q0, hargs, rfl, rfl, h0, r0⟩ := trodAll_cons hA
  obtain ⟨v1, vs1, d1, ds1, p1, q1, rfl, rfl, rfl, h1, r1⟩ := trodAll_cons r0
  obtain ⟨v2, vs2, d2, ds2, p2, q2, rfl, rfl, rfl, h2, r2⟩ := trodAll_cons r1
  obtain ⟨v3, vs3, d3, ds3, p3, q3, rfl, rfl, rfl, h3, r3⟩ := trodAll_cons r2
  obtain ⟨v4, vs4, d4, ds4, p4, q4, rfl, rfl, rfl, h4, r4⟩ := trodAll_cons r3
  obtain ⟨rfl, rfl, rfl⟩ := trodAll_nil r4
  obtain rfl : args = #[v0, v1, v2, v3, v4] := by cases args; simp_all
  obtain ⟨rfl, rfl⟩ := trodVars_none hV
  obtain ⟨a0, rfl, rfl, rfl, w0⟩ := open_int Try.underlying5 (hval 0 5 v0 rfl rfl) h0
  obtain ⟨a1, rfl, rfl, rfl, w1⟩ := open_int Try.underlying5 (hval 1 5 v1 rfl rfl) h1
  obtain ⟨a2, rfl, rfl, rfl, w2⟩ := open_int Try.underlying5 (hval 2 5 v2 rfl rfl) h2
  have k3 := h3
  have lt3 : ∀ x ∈ p3, x.block < W.heap.size := by obtain ⟨m, hm⟩ := k3; exact DataW.trod_lt m _ _ _ hm
  have k4 := h4
  have lt4 : ∀ x ∈ p4, x.block < W.heap.size := by obtain ⟨m, hm⟩ := k4; exact DataW.trod_lt m _ _ _ hm
  obtain ⟨A3, N3, C3, rfl⟩ := okWide_slice Try.underlying22 (hval 3 22 v3 rfl rfl)
  obtain ⟨A4, N4, C4, rfl⟩ := okWide_slice Try.underlying26 (hval 4 26 v4 rfl rfl)
  obtain ⟨l, hl3, hacts⟩ : ∃ l : List ActP, N3 = l.length ∧ ActsAt W A3 l := by
    obtain ⟨fuel, hf⟩ := h3
    obtain ⟨A, C, l, he, ha⟩ := acts_of_trod (by simpa [Value.cells] using hf)
    cases he
    exact ⟨l, rfl, ha⟩
  obtain ⟨ob, hl4, hob⟩ : ∃ ob : Bytes, N4 = ob.length ∧ BytesAt W (.slice A4 ob.length C4) ob := by
    obtain ⟨fuel, hf⟩ := h4
    obtain ⟨A, C, l, he, ha⟩ := bytes_of_trod (by simpa [Value.cells] using hf)
    cases he
    exact ⟨l, rfl, ha⟩
  subst hl3 hl4
  clear hA0 hval0
  refine (heard_calls a0 a1 a2 (u8_wf w0) (u8_wf w1) (u8_wf w2) l A3 C3 ob A4 C4 W hacts hob).mono fun e W' ⟨he, bel⟩ => ?_
  subst he
  exact ⟨_, rfl, _, _, _, [], _, [], hW', trodAll_mk1 (shut_bool Try.underlying4 _), (trodAll_cons_mk (shut_int Try.underlying5 w0) (trodAll_cons_mk (shut_int Try.underlying5 w1) (trodAll_cons_mk (shut_int Try.underlying5 w2) (trodAll_cons_mk (Below.trod laidOut (by kernel_rfl) (of_decide_eq_true (by kernel_rfl)) k3 bel lt3) (trodAll_cons_mk (Below.trod laidOut (by kernel_rfl) (of_decide_eq_true (by kernel_rfl)) k4 bel lt4) trodAll_mk0))))), rfl, bel.frame _, fun h => by cases h⟩

theorem heard_over : Rows.wholeHeardRow.holds Try.pinned (OpenSpec.ofChange Rows.wholeHeardSpec) :=
  OpenClaim.holds_of_wide 4 Try.f4 rfl rfl rfl rfl rfl rfl rfl ⟨rfl, rfl, rfl, rfl, rfl⟩ rfl rfl rfl rfl rfl (by kernel_rfl) Try.func4 (by kernel_rfl)
    (of_decide_eq_true (by kernel_rfl)) (by unfold Func.isWrapper; first | (rw [if_pos (by decide +kernel)]; kernel_rfl) | (rw [if_neg (by decide +kernel)]; exact ⟨rfl, rfl⟩))
    (fun os started H enc _ => heard_lifted os started H enc)

theorem wholeHeard_holds : Rows.WholeHeardSaid := heard_over
#print axioms wholeHeard_holds
end Go.Proofs.Ytkpllkjionegeaa
