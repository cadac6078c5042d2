/- THE STATEMENT WholeRotated: with all peers some places further on, going round, and the slot as many further on, a core does the same, act by act, and has the same bytes. It holds for every input, without condition. -/
import Derived.Test.YtkpllkjionegeaaJ1
import Derived.Test.YtkpllkjionegeaaJ8
import Derived.Laws.EntriesVeiled
import Derived.IntWalk
set_option linter.unusedVariables false
set_option linter.unusedSimpArgs false
/- The plain law of WholeRotated, first part: going round; counting; what a core is when its peers have gone round. No program. -/
namespace Go.Proofs.Ytkpllkjionegeaa

/-! ### going round -/

/-- a place some places further on -/
def rot (n t i : Int) : Int := if i < 1 ∨ n < i then i else if i + t ≤ n then i + t else i + t - n
/-- .. and back -/
def unrot (n t i : Int) : Int := if i < 1 ∨ n < i then i else if 1 ≤ i - t then i - t else i - t + n

section
variable {n t : Int} (h0 : 0 ≤ t) (h1 : t < n)
include h0 h1

theorem unrot_rot (i : Int) : unrot n t (rot n t i) = i := by
  unfold rot unrot
  (repeat' split) <;> omega
theorem rot_unrot (i : Int) : rot n t (unrot n t i) = i := by
  unfold rot unrot
  (repeat' split) <;> omega
theorem rot_inj {i j : Int} (h : rot n t i = rot n t j) : i = j := by
  rw [← unrot_rot h0 h1 i, h, unrot_rot h0 h1]
theorem rot_in {i : Int} : (1 ≤ rot n t i ∧ rot n t i ≤ n) ↔ (1 ≤ i ∧ i ≤ n) := by
  unfold rot
  (repeat' split) <;> omega
omit h0 in
theorem rot_gt {i : Int} : rot n t i > n ↔ i > n := by
  unfold rot
  (repeat' split) <;> omega

omit h0 h1 in
theorem emod_once {x : Int} (hx : 0 ≤ x) (hx2 : x < n + n) : x % n = if x < n then x else x - n := by
  split
  · exact Int.emod_eq_of_lt hx (by omega)
  · rw [← Int.sub_emod_right, Int.emod_eq_of_lt (by omega) (by omega)]

theorem rot_mod {i : Int} (ha : 1 ≤ i) (hb : i ≤ n) : rot n t i = 1 + (i - 1 + t) % n := by
  rw [emod_once (by omega) (by omega)]
  unfold rot
  (repeat' split) <;> omega

theorem rot_proposer (s v : Int) : 1 + (s + t + v) % n = rot n t (1 + (s + v) % n) := by
  have hn : 0 < n := by omega
  have a := Int.emod_nonneg (s + v) (show n ≠ 0 by omega)
  have b := Int.emod_lt_of_pos (s + v) hn
  rw [rot_mod h0 h1 (by omega) (by omega), show 1 + (s + v) % n - 1 + t = (s + v) % n + t by omega, Int.emod_add_emod, show s + v + t = s + t + v by omega]
end

/-! ### a map whose keys have gone round -/

/-- b is a with its keys gone round -/
def KRot {α : Type} (n t : Int) (a b : AL α) : Prop := ∀ k, AL.get? b (rot n t k) = AL.get? a k

theorem pairs_nodup {α : Type} {m : AL α} (h : AL.Rising m) : m.Nodup := h.imp (fun h e => by rw [e] at h; omega)

section
variable {α : Type} {n t : Int} {a b : AL α}

theorem KRot.perm (h0 : 0 ≤ t) (h1 : t < n) (h : KRot n t a b) (ha : AL.Rising a) (hb : AL.Rising b) : b.Perm (a.map fun p => (rot n t p.1, p.2)) := by
  have hnd : (a.map fun p => (rot n t p.1, p.2)).Nodup := by
    refine List.pairwise_map.2 (ha.imp fun {x y} hxy e => ?_)
    have := rot_inj h0 h1 (Prod.ext_iff.1 e).1
    omega
  refine (List.perm_ext_iff_of_nodup (pairs_nodup hb) hnd).2 fun p => ?_
  obtain ⟨k, v⟩ := p
  rw [AL.mem_iff hb]
  constructor
  · intro hg
    have := h (unrot n t k)
    rw [rot_unrot h0 h1] at this
    rw [this] at hg
    exact List.mem_map.2 ⟨(unrot n t k, v), AL.get?_mem hg, by simp [rot_unrot h0 h1]⟩
  · intro hm
    obtain ⟨⟨k', v'⟩, hq, he⟩ := List.mem_map.1 hm
    simp only [Prod.mk.injEq] at he
    rw [← he.1, ← he.2, h k']
    exact AL.get?_of_mem ha hq

theorem KRot.vals (h0 : 0 ≤ t) (h1 : t < n) (h : KRot n t a b) (ha : AL.Rising a) (hb : AL.Rising b) : (AL.vals b).Perm (AL.vals a) := by
  have := (h.perm h0 h1 ha hb).map (·.2)
  rw [List.map_map] at this
  exact this

theorem KRot.put (h0 : 0 ≤ t) (h1 : t < n) (h : KRot n t a b) (ha : AL.Rising a) (hb : AL.Rising b) (k : Int) (v : α) : KRot n t (AL.put a k v) (AL.put b (rot n t k) v) := fun j => by
  rw [AL.get?_put _ hb, AL.get?_put _ ha, h j]
  by_cases e : k = j
  · subst e; simp
  · rw [if_neg e, if_neg (fun x => e (rot_inj h0 h1 x))]
end

/-! ### how many told a value -/

def mult (t : Told) (X : Bytes) : Int := ((t.filter fun q => q.2 == X).length : Int)

theorem mult_vals (t : Told) (X : Bytes) : mult t X = (((AL.vals t).filter fun v => v == X).length : Int) := by
  unfold mult AL.vals
  rw [List.filter_map, List.length_map]
  rfl

theorem mult_perm {a b : Told} (h : (AL.vals b).Perm (AL.vals a)) (X : Bytes) : mult b X = mult a X := by
  rw [mult_vals, mult_vals, (h.filter _).length_eq]

theorem mult_mem {t : Told} {X : Bytes} (h : 1 ≤ mult t X) : ∃ k, (k, X) ∈ t := by
  unfold mult at h
  cases hf : t.filter fun q => q.2 == X with
  | nil => rw [hf] at h; simp at h
  | cons p r =>
    have hp : p ∈ t.filter fun q => q.2 == X := by rw [hf]; simp
    obtain ⟨h1, h2⟩ := List.mem_filter.1 hp
    obtain ⟨k, v⟩ := p
    simp only [beq_iff_eq] at h2
    subst h2
    exact ⟨k, h1⟩

theorem count_eq (t : Told) (least : Int) : count t least = (t.find? fun p => decide (least ≤ mult t p.2)).map (·.2) := rfl

theorem count_someP {t : Told} {least : Int} {X : Bytes} (h : count t least = some X) : least ≤ mult t X := by
  rw [count_eq] at h
  obtain ⟨p, hp, rfl⟩ := Option.map_eq_some_iff.1 h
  simpa using List.find?_some hp

theorem count_noneP {t : Told} {least : Int} (hl : 1 ≤ least) : count t least = none ↔ ∀ X, mult t X < least := by
  rw [count_eq, Option.map_eq_none_iff, List.find?_eq_none]
  constructor
  · intro h X
    by_cases hx : least ≤ mult t X
    · obtain ⟨k, hk⟩ := mult_mem (t := t) (X := X) (by omega)
      have := h (k, X) hk
      simp at this
      omega
    · omega
  · intro h p _
    have := h p.2
    simp; omega

/-- at most one value has so many -/
def Uni (t : Told) (least : Int) : Prop := ∀ X Y, least ≤ mult t X → least ≤ mult t Y → X = Y

theorem count_uni {t : Told} {least : Int} (hl : 1 ≤ least) (hu : Uni t least) {X : Bytes} (hx : least ≤ mult t X) : count t least = some X := by
  cases hc : count t least with
  | none => have := (count_noneP hl).1 hc X; omega
  | some Y => rw [hu Y X (count_someP hc) hx]

theorem count_perm {a b : Told} {least : Int} (hl : 1 ≤ least) (h : (AL.vals b).Perm (AL.vals a)) (hu : Uni a least) : count b least = count a least := by
  have hm := mult_perm h
  have hub : Uni b least := fun X Y hx hy => hu X Y (by rw [← hm]; exact hx) (by rw [← hm]; exact hy)
  cases hc : count a least with
  | none => exact (count_noneP hl).2 fun X => by rw [hm]; exact (count_noneP hl).1 hc X
  | some X => exact count_uni hl hub (by rw [hm]; exact count_someP hc)

theorem mult_add (t : Told) {X Y : Bytes} (hne : X ≠ Y) : mult t X + mult t Y ≤ (t.length : Int) := by
  unfold mult
  induction t with
  | nil => simp
  | cons p r ih =>
    simp only [List.filter_cons, List.length_cons]
    by_cases h1 : p.2 == X
    · have h2 : (p.2 == Y) = false := by
        simp only [beq_iff_eq] at h1
        rw [h1]; simpa using hne
      simp only [h1, h2, if_true, Bool.false_eq_true, if_false, List.length_cons]
      omega
    · simp only [h1, Bool.false_eq_true, if_false]
      split <;> (try simp only [List.length_cons]) <;> omega

/-- peers alone, of whom there are n -/
theorem told_len {t : Told} {n : Int} (hr : AL.Rising t) (h : ∀ k v, AL.get? t k = some v → 1 ≤ k ∧ k ≤ n) (hn : 0 ≤ n) : (t.length : Int) ≤ n := by
  have h1 : ∀ x ∈ AL.keys t, (1 : Int) ≤ x ∧ x < 1 + (n.toNat : Int) := fun x hx => by
    obtain ⟨v, hv⟩ := Option.isSome_iff_exists.1 ((AL.mem_keys_get? hr).1 hx)
    have := h x v hv
    omega
  have := AL.length_le_of_bounds (AL.keys_rising hr) (a := 1) (n := n.toNat) h1
  simp [AL.keys] at this
  omega

theorem quorum_uni {t : Told} {n : Int} (hr : AL.Rising t) (h : ∀ k v, AL.get? t k = some v → 1 ≤ k ∧ k ≤ n) (hn : 4 ≤ n) : Uni t (quorum n) := fun X Y hx hy => by
  by_cases e : X = Y
  · exact e
  · have h1 := mult_add t e
    have h2 := told_len hr h (by omega)
    unfold quorum at hx hy
    omega

theorem mult_put_new {t : Told} {k : Int} {v : Bytes} (hn : AL.get? t k = none) (X : Bytes) : mult (AL.put t k v) X = mult t X + (if v = X then 1 else 0) := by
  unfold mult
  rw [((AL.perm_put_new (u := v) hn).filter _).length_eq, List.filter_cons]
  by_cases h : v = X
  · subst h; simp
  · have : (v == X) = false := by simpa using h
    simp [this, h]

theorem length_put_new {α : Type} {m : AL α} {k : Int} {v : α} (hn : AL.get? m k = none) : (AL.put m k v).length = m.length + 1 := by
  rw [(AL.perm_put_new (u := v) hn).length_eq]; rfl

/-! ### how many stand behind a value -/

def behindB (t ds : Told) (X : Bytes) (p : Int) : Bool := AL.get? t p == some X || AL.get? ds p == some X

theorem behindB_eq (c : Core) (t : Told) (X : Bytes) : c.behind t X = ((((List.range c.n.toNat).map fun (i : Nat) => (i : Int) + 1).filter (behindB t c.decs X)).length : Int) := by
  unfold Core.behind
  rw [List.filter_map, List.length_map]
  rfl

theorem peers_nodup (k : Nat) : ((List.range k).map fun (i : Nat) => (i : Int) + 1).Nodup := by
  refine List.pairwise_map.2 (List.nodup_range.imp fun {x y} h e => h ?_)
  omega

theorem mem_peers {k : Nat} {p : Int} : p ∈ ((List.range k).map fun (i : Nat) => (i : Int) + 1) ↔ 1 ≤ p ∧ p ≤ k := by
  simp only [List.mem_map, List.mem_range]
  constructor
  · rintro ⟨i, hi, rfl⟩; omega
  · intro h; exact ⟨(p - 1).toNat, by omega, by omega⟩

theorem behind_rot {n t : Int} (h0 : 0 ≤ t) (h1 : t < n) {c d : Core} (hn : c.n = n) (hdn : d.n = n) {a b : Told} (h : KRot n t a b) (hd : KRot n t c.decs d.decs) (X : Bytes) : d.behind b X = c.behind a X := by
  rw [behindB_eq, behindB_eq, hn, hdn]
  have e : ∀ p, behindB b d.decs X (rot n t p) = behindB a c.decs X p := fun p => by unfold behindB; rw [h p, hd p]
  have hp : (((List.range n.toNat).map fun (i : Nat) => (i : Int) + 1).map (rot n t)).Perm ((List.range n.toNat).map fun (i : Nat) => (i : Int) + 1) := by
    refine (List.perm_ext_iff_of_nodup ?_ (peers_nodup _)).2 fun p => ?_
    · exact List.pairwise_map.2 ((peers_nodup _).imp fun {x y} hxy e => hxy (rot_inj h0 h1 e))
    · rw [mem_peers]
      constructor
      · intro hm
        obtain ⟨q, hq, rfl⟩ := List.mem_map.1 hm
        rw [mem_peers] at hq
        have := (rot_in h0 h1 (i := q)).2 ⟨hq.1, by omega⟩
        omega
      · intro hm
        refine List.mem_map.2 ⟨unrot n t p, ?_, rot_unrot h0 h1 p⟩
        rw [mem_peers]
        have := (rot_in h0 h1 (i := unrot n t p)).1 (by rw [rot_unrot h0 h1]; omega)
        omega
  rw [← (hp.filter _).length_eq, List.filter_map, List.length_map]
  congr 2
  refine List.filter_congr fun p _ => ?_
  exact e p

theorem filter_or_len {α : Type} (p q : α → Bool) : ∀ l : List α, (l.filter fun x => p x || q x).length ≤ (l.filter p).length + (l.filter q).length
  | [] => by simp
  | x :: r => by
    have := filter_or_len p q r
    simp only [List.filter_cons]
    cases p x <;> cases q x <;> simp <;> omega

theorem filter_get_le {t : Told} (hr : AL.Rising t) (X : Bytes) {l : List Int} (hl : l.Nodup) : ((l.filter fun p => AL.get? t p == some X).length : Int) ≤ mult t X := by
  unfold mult
  have h1 : ((l.filter fun p => AL.get? t p == some X).map fun p => (p, X)).Nodup := List.pairwise_map.2 ((hl.filter _).imp fun {x y} h e => h (Prod.ext_iff.1 e).1)
  have h2 : ∀ p ∈ ((l.filter fun p => AL.get? t p == some X).map fun p => (p, X)), p ∈ t.filter fun q => q.2 == X := fun p hp => by
    obtain ⟨k, hk, rfl⟩ := List.mem_map.1 hp
    have := (List.mem_filter.1 hk).2
    simp only [beq_iff_eq] at this
    exact List.mem_filter.2 ⟨AL.get?_mem this, by simp⟩
  have := List.Nodup.length_le_of_subset h1 h2
  simp only [List.length_map] at this
  omega

/-- behind a value stand those who told it as a Commit, and those who decided it -/
theorem behind_le {c : Core} {a : Told} (ha : AL.Rising a) (hd : AL.Rising c.decs) (X : Bytes) : c.behind a X ≤ mult a X + mult c.decs X := by
  rw [behindB_eq]
  have h1 := filter_or_len (fun p => AL.get? a p == some X) (fun p => AL.get? c.decs p == some X) ((List.range c.n.toNat).map fun (i : Nat) => (i : Int) + 1)
  have h2 := filter_get_le ha X (peers_nodup c.n.toNat)
  have h3 := filter_get_le hd X (peers_nodup c.n.toNat)
  unfold behindB
  omega
end Go.Proofs.Ytkpllkjionegeaa

/- The plain law of WholeRotated, second part: with all peers gone round, a core's steps are the same. No program. -/
namespace Go.Proofs.Ytkpllkjionegeaa

structure TRot (n t : Int) (m m' : AL Told) : Prop where
  has : ∀ u, (AL.get? m' u).isSome = (AL.get? m u).isSome
  inn : ∀ u, KRot n t (inner m u) (inner m' u)

theorem keys_same {α β : Type} {m : AL α} {m' : AL β} (hm : AL.Rising m) (hm' : AL.Rising m') (h : ∀ u, (AL.get? m' u).isSome = (AL.get? m u).isSome) : AL.keys m' = AL.keys m := by
  have := AL.ext_get? (AL.rising_mapVal (f := fun _ => ()) hm') (AL.rising_mapVal (f := fun _ => ()) hm) (fun k => by
    rw [AL.get?_mapVal, AL.get?_mapVal]
    have := h k
    cases h1 : AL.get? m k <;> cases h2 : AL.get? m' k <;> simp_all)
  rw [← AL.keys_mapVal (fun _ => ()) m', this, AL.keys_mapVal]

theorem TRot.keys {n t : Int} {m m' : AL Told} (h : TRot n t m m') (hm : AL.Rising m) (hm' : AL.Rising m') : AL.keys m' = AL.keys m := keys_same hm hm' h.has

theorem isSome_setTold {m : AL Told} (hm : TWf m) (view who : Int) (v : Bytes) (u : Int) : (AL.get? (setTold m view who v).2 u).isSome = if (AL.get? (inner m view) who).isSome = false ∧ view = u then true else (AL.get? m u).isSome := by
  cases hn : (AL.get? (inner m view) who).isSome with
  | true => rw [setTold_old hn]; simp
  | false =>
    unfold setTold
    simp only [hn, Bool.false_eq_true, if_false]
    rw [AL.get?_put u hm.1]
    by_cases h : view = u <;> simp [h]

theorem TRot.set {n t : Int} (h0 : 0 ≤ t) (h1 : t < n) {m m' : AL Told} (h : TRot n t m m') (hm : TWf m) (hm' : TWf m') (view who : Int) (v : Bytes) :
    (setTold m' view (rot n t who) v).1 = (setTold m view who v).1 ∧ TRot n t (setTold m view who v).2 (setTold m' view (rot n t who) v).2 := by
  have e := h.inn view who
  have eb : ∀ (m : AL Told) (who : Int), (setTold m view who v).1 = !(AL.get? (inner m view) who).isSome := fun m who => by
    unfold setTold
    split <;> simp_all
  refine ⟨by rw [eb, eb, e], fun u => ?_, fun u k => ?_⟩
  · rw [isSome_setTold hm', isSome_setTold hm, e, h.has u]
  · cases hn : (AL.get? (inner m view) who).isSome with
    | true => rw [setTold_old hn, setTold_old (by rw [e]; exact hn)]; exact h.inn u k
    | false =>
      rw [get_setTold hm view who v u k hn, get_setTold hm' view (rot n t who) v u (rot n t k) (by rw [e]; exact hn), h.inn u k]
      by_cases hv : view = u
      · by_cases hk : who = k
        · subst hk; simp [hv]
        · rw [if_neg (fun x => hk (rot_inj h0 h1 x.2)), if_neg (fun x => hk x.2)]
      · rw [if_neg (fun x => hv x.1), if_neg (fun x => hv x.1)]

/-- d is c with its peers gone round -/
structure Rot (n t : Int) (c d : Core) : Prop where
  t0 : 0 ≤ t
  tn : t < n
  cn : c.n = n
  dn : d.n = n
  me : d.me = rot n t c.me
  slot : d.slot = c.slot + t
  view : d.view = c.view
  wish : d.wish = c.wish
  wishes : d.wishes = c.wishes
  props : d.props = c.props
  preps : TRot n t c.preps d.preps
  comms : TRot n t c.comms d.comms
  turns : TRot n t c.turns d.turns
  seen : KRot n t c.seen d.seen
  decs : KRot n t c.decs d.decs
  lock : d.lock = c.lock
  locked : d.locked = c.locked
  decided : d.decided = c.decided
  value : d.value = c.value

/-- peers alone; a Commit was seen -/
structure Sound (c : Core) : Prop where
  preps : ∀ u k v, AL.get? (inner c.preps u) k = some v → k ≤ c.n
  comms : ∀ u k v, AL.get? (inner c.comms u) k = some v → k ≤ c.n
  decs : ∀ k v, AL.get? c.decs k = some v → k ≤ c.n
  seen : ∀ u k v, AL.get? (inner c.comms u) k = some v → k ≠ c.me → ∃ s, AL.get? c.seen k = some s ∧ u ≤ s
  low : ∀ u v, AL.get? (inner c.comms u) c.me = some v → u ≤ c.view

def ORel {α β : Type} (R : α → β → Prop) : Option α → Option β → Prop
  | some x, some y => R x y
  | none, none => True
  | _, _ => False

/-- a value that is agreed upon in a view -/
def Ag (c : Core) (u : Int) (X : Bytes) : Prop := (∃ k, AL.get? (inner c.comms u) k = some X) ∧ quorum c.n ≤ c.behind (inner c.comms u) X

theorem agreed_some {c : Core} (hc : Wf c) {u : Int} {X : Bytes} (h : c.agreed u = some X) : Ag c u X := by
  unfold Core.agreed at h
  obtain ⟨p, hp, rfl⟩ := Option.map_eq_some_iff.1 h
  exact ⟨⟨p.1, AL.get?_of_mem (hc.comms.inner u).1 (List.mem_of_find?_eq_some hp)⟩, by simpa using List.find?_some hp⟩

theorem agreed_noneP {c : Core} {u : Int} (h : c.agreed u = none) (X : Bytes) : ¬ Ag c u X := fun ⟨⟨k, hk⟩, hq⟩ => by
  unfold Core.agreed at h
  rw [Option.map_eq_none_iff, List.find?_eq_none] at h
  exact h (k, X) (AL.get?_mem hk) (by simpa using hq)

theorem agreed_uni {c : Core} (hc : Wf c) {u : Int} (hu : ∀ X Y, Ag c u X → Ag c u Y → X = Y) {X : Bytes} (h : Ag c u X) : c.agreed u = some X := by
  cases ha : c.agreed u with
  | none => exact absurd h (agreed_noneP ha X)
  | some Y => rw [hu Y X (agreed_some hc ha) h]

structure Uniq (c : Core) : Prop where
  ag : ∀ u X Y, Ag c u X → Ag c u Y → X = Y
  decs : Uni c.decs (c.f + 1)

theorem f_pos {c : Core} (hc : Wf c) : 1 ≤ c.f := by unfold Core.f; have := hc.n4; omega

namespace Rot
variable {n t : Int} {c d : Core}

theorem proposer (h : Rot n t c d) (v : Int) : d.proposer v = rot n t (c.proposer v) := by
  unfold Core.proposer
  rw [h.slot, h.dn, h.cn]
  exact rot_proposer h.t0 h.tn _ _

theorem proposer_me (h : Rot n t c d) (v : Int) : (d.proposer v != d.me) = (c.proposer v != c.me) := by
  rw [h.proposer, h.me, Bool.eq_iff_iff]
  simp only [bne_iff_ne, ne_eq]
  constructor
  · intro a e; exact a (by rw [e])
  · intro a e; exact a (rot_inj h.t0 h.tn e)

theorem f (h : Rot n t c d) : d.f = c.f := by unfold Core.f; rw [h.cn, h.dn]

theorem prepared (h : Rot n t c d) (hc : Wf c) (hd : Wf d) (hs : Sound c) (u : Int) : d.prepared u = c.prepared u := by
  unfold Core.prepared
  rw [h.dn, h.cn]
  refine count_perm (quorum_pos (by rw [← h.cn]; exact hc.n4)) ((h.preps.inn u).vals h.t0 h.tn (hc.preps.inner u).1 (hd.preps.inner u).1) (quorum_uni (hc.preps.inner u).1 (fun k v hv => ?_) (by rw [← h.cn]; exact hc.n4))
  have := hs.preps u k v hv
  exact ⟨((hc.preps.inner u).2 k v hv).1.1, by rw [← h.cn]; exact this⟩

theorem best (h : Rot n t c d) (hc : Wf c) (hd : Wf d) (hs : Sound c) (below : Int) : d.best below = c.best below := by
  unfold Core.best
  rw [h.preps.keys hc.preps.1 hd.preps.1]
  generalize (AL.keys c.preps).reverse = l
  induction l with
  | nil => rfl
  | cons k r ih => simp only [Core.bestIn]; rw [h.prepared hc hd hs k, ih]

theorem views (h : Rot n t c d) (hc : Wf c) (hd : Wf d) : d.views = c.views := by
  unfold Core.views
  have hp := h.seen.vals h.t0 h.tn hc.seenR hd.seenR
  have tr : ∀ a b e : Int, decide (a ≤ b) = true → decide (b ≤ e) = true → decide (a ≤ e) = true := fun a b e x y => by simp at *; omega
  have to : ∀ a b : Int, (decide (a ≤ b) || decide (b ≤ a)) = true := fun a b => by simp; omega
  refine List.Perm.eq_of_pairwise (le := fun a b : Int => decide (a ≤ b) = true) (fun a b _ _ x y => by simp at x y; omega) (List.pairwise_mergeSort tr to _) (List.pairwise_mergeSort tr to _) ?_
  exact (List.mergeSort_perm _ _).trans (hp.trans (List.mergeSort_perm _ _).symm)

theorem turnTo (h : Rot n t c d) (hc : Wf c) (hd : Wf d) : d.turnTo = c.turnTo := by
  unfold Core.turnTo
  rw [h.views hc hd, h.f, h.view]

theorem turn (h : Rot n t c d) (hc : Wf c) (hd : Wf d) : ORel (Rot n t) c.turn d.turn := by
  unfold Core.turn
  rw [h.turnTo hc hd]
  cases c.turnTo with
  | none => trivial
  | some v => exact { h with view := rfl }

theorem propose (h : Rot n t c d) (hc : Wf c) (hd : Wf d) (hs : Sound c) : ORel (Rot n t) c.propose d.propose := by
  unfold Core.propose
  rw [h.props, h.view, h.proposer_me, h.best hc hd hs, h.wishes, h.wish]
  split
  · trivial
  · split
    · exact { h with props := rfl, view := rfl, wish := rfl, wishes := rfl }
    · split
      · exact { h with props := rfl, view := rfl, wish := rfl, wishes := rfl }
      · trivial

theorem fit (h : Rot n t c d) (hc : Wf c) (hd : Wf d) (hs : Sound c) (acc : Bytes → Bool) (p : Bytes × Int) : d.fit acc p = c.fit acc p := by
  unfold Core.fit
  rw [h.lock, h.locked, h.view, h.prepared hc hd hs]

theorem prepare (h : Rot n t c d) (hc : Wf c) (hd : Wf d) (hs : Sound c) (acc : Bytes → Bool) : ORel (Rot n t) (c.prepare acc) (d.prepare acc) := by
  unfold Core.prepare
  rw [h.props, h.view]
  cases AL.get? c.props c.view with
  | none => trivial
  | some p =>
    simp only
    rw [h.fit hc hd hs, h.me, h.preps.inn c.view c.me]
    split
    · trivial
    · exact { h with preps := (h.preps.set h.t0 h.tn hc.preps hd.preps _ _ _).2, me := rfl, view := rfl, props := rfl }

theorem commit (h : Rot n t c d) (hc : Wf c) (hd : Wf d) (hs : Sound c) : ORel (Rot n t) c.commit d.commit := by
  unfold Core.commit
  rw [h.view, h.prepared hc hd hs]
  cases c.prepared c.view with
  | none => trivial
  | some v =>
    simp only
    rw [h.me, h.comms.inn c.view c.me]
    split
    · trivial
    · exact { h with comms := (h.comms.set h.t0 h.tn hc.comms hd.comms _ _ _).2, me := rfl, view := rfl, lock := rfl, locked := rfl }

theorem ag (h : Rot n t c d) {u : Int} {X : Bytes} : Ag d u X ↔ Ag c u X := by
  unfold Ag
  rw [h.dn, h.cn, behind_rot h.t0 h.tn h.cn h.dn (h.comms.inn u) h.decs]
  constructor
  · rintro ⟨⟨k, hk⟩, hq⟩
    exact ⟨⟨unrot n t k, by rw [← h.comms.inn u, rot_unrot h.t0 h.tn]; exact hk⟩, hq⟩
  · rintro ⟨⟨k, hk⟩, hq⟩
    exact ⟨⟨rot n t k, by rw [h.comms.inn u]; exact hk⟩, hq⟩

theorem agreed (h : Rot n t c d) (hc : Wf c) (hd : Wf d) (hu : Uniq c) (u : Int) : d.agreed u = c.agreed u := by
  cases ha : c.agreed u with
  | none =>
    cases hb : d.agreed u with
    | none => rfl
    | some X => exact absurd (h.ag.1 (agreed_some hd hb)) (agreed_noneP ha X)
  | some X => exact agreed_uni hd (fun Y Z hy hz => hu.ag u Y Z (h.ag.1 hy) (h.ag.1 hz)) (h.ag.2 (agreed_some hc ha))

theorem decision (h : Rot n t c d) (hc : Wf c) (hd : Wf d) (hu : Uniq c) : d.decision = c.decision := by
  have e1 : Core.decideIn d (AL.keys d.comms) = Core.decideIn c (AL.keys c.comms) := by
    rw [h.comms.keys hc.comms.1 hd.comms.1]
    generalize AL.keys c.comms = l
    induction l with
    | nil => rfl
    | cons k r ih => simp only [Core.decideIn]; rw [h.agreed hc hd hu k, ih]
  have e2 : count d.decs (d.f + 1) = count c.decs (c.f + 1) := by
    rw [h.f]
    exact count_perm (by have := f_pos hc; omega) (h.decs.vals h.t0 h.tn hc.decs.1 hd.decs.1) hu.decs
  unfold Core.decision
  rw [e1, e2]

theorem decide (h : Rot n t c d) (hc : Wf c) (hd : Wf d) (hu : Uniq c) : ORel (Rot n t) c.decide d.decide := by
  unfold Core.decide
  rw [h.decision hc hd hu]
  cases c.decision with
  | none => trivial
  | some v => exact { h with decided := rfl, value := rfl }

theorem step (h : Rot n t c d) (hc : Wf c) (hd : Wf d) (hs : Sound c) (hu : Uniq c) (acc : Bytes → Bool) : ORel (Rot n t) (c.step acc) (d.step acc) := by
  have h1 := h.turn hc hd
  have h2 := h.propose hc hd hs
  have h3 := h.prepare hc hd hs acc
  have h4 := h.commit hc hd hs
  have h5 := h.decide hc hd hu
  unfold Core.step
  rw [h.decided]
  split
  · trivial
  · cases e1 : c.turn <;> cases g1 : d.turn <;> rw [e1, g1] at h1 <;> first | exact h1.elim | skip
    · cases e2 : c.propose <;> cases g2 : d.propose <;> rw [e2, g2] at h2 <;> first | exact h2.elim | skip
      · cases e3 : c.prepare acc <;> cases g3 : d.prepare acc <;> rw [e3, g3] at h3 <;> first | exact h3.elim | skip
        · cases e4 : c.commit <;> cases g4 : d.commit <;> rw [e4, g4] at h4 <;> first | exact h4.elim | skip
          · exact h5
          · exact h4
        · exact h3
      · exact h2
    · exact h1

end Rot

/-! ### at rest, and on the way to it -/

/-- few Commits of a view -/
def Few (c : Core) (u : Int) : Prop := ((inner c.comms u).length : Int) ≤ c.f + 1

/-- a core on the way to rest: what is decided hangs on no order -/
structure J (acc : Bytes → Bool) (c : Core) : Prop where
  wf : Wf c
  sound : Sound c
  uniq : Uniq c
  still : c.turnTo = none → (c.propose = none ∧ c.prepare acc = none ∧ c.commit = none) ∨ ((∀ X, mult c.decs X ≤ c.f) ∧ (AL.get? (inner c.comms c.view) c.me = none → (∀ X, ¬ Ag c c.view X) ∨ Few c c.view))
  turns : ∀ v, c.turnTo = some v → (∀ X, mult c.decs X ≤ c.f) ∧ ((∀ X, ¬ Ag c v X) ∨ Few c v)

theorem turn_none {c : Core} : c.turn = none ↔ c.turnTo = none := by unfold Core.turn; exact Option.map_eq_none_iff

theorem Sound.set_preps {c : Core} (hc : Wf c) (h : Sound c) {view who : Int} {v : Bytes} (hw : who ≤ c.n) : ∀ u k x, AL.get? (inner (setTold c.preps view who v).2 u) k = some x → k ≤ c.n := fun u k x hx => by
  cases hn : (AL.get? (inner c.preps view) who).isSome with
  | true => rw [setTold_old hn] at hx; exact h.preps u k x hx
  | false =>
    rw [get_setTold hc.preps view who v u k hn] at hx
    split at hx
    · rename_i e; rw [← e.2]; exact hw
    · exact h.preps u k x hx

theorem Sound.set_comms {c : Core} (hc : Wf c) (h : Sound c) {view who : Int} {v : Bytes} (hw : who ≤ c.n) : ∀ u k x, AL.get? (inner (setTold c.comms view who v).2 u) k = some x → k ≤ c.n := fun u k x hx => by
  cases hn : (AL.get? (inner c.comms view) who).isSome with
  | true => rw [setTold_old hn] at hx; exact h.comms u k x hx
  | false =>
    rw [get_setTold hc.comms view who v u k hn] at hx
    split at hx
    · rename_i e; rw [← e.2]; exact hw
    · exact h.comms u k x hx

/-- another Commit of a view: behind other values there stand as many -/
theorem behind_other {c c' : Core} (hn : c'.n = c.n) (hd : c'.decs = c.decs) {a b : Told} {who : Int} {v X : Bytes} (hne : v ≠ X) (hold : AL.get? a who = none) (hb : ∀ k, AL.get? b k = if who = k then some v else AL.get? a k) : c'.behind b X = c.behind a X := by
  rw [behindB_eq, behindB_eq, hn, hd]
  congr 2
  refine List.filter_congr fun p _ => ?_
  unfold behindB
  rw [hb p]
  by_cases e : who = p
  · subst e
    rw [hold]
    simp [hne]
  · rw [if_neg e]

/-- a commit of one's own, or another one's, in view w: at other views nothing has turned, at this one only behind its value -/
theorem ag_set {c c' : Core} (hc : Wf c) {w who : Int} {v : Bytes} (hn : c'.n = c.n) (hd : c'.decs = c.decs) (hnew : (AL.get? (inner c.comms w) who).isSome = false) (hcm : c'.comms = (setTold c.comms w who v).2) {u : Int} {X : Bytes} (h : Ag c' u X) : (u = w ∧ X = v) ∨ Ag c u X := by
  obtain ⟨⟨k, hk⟩, hq⟩ := h
  rw [hcm] at hk hq
  have hg := fun y => get_setTold hc.comms w who v u y hnew
  by_cases hu : w = u
  · subst hu
    by_cases hx : v = X
    · exact Or.inl ⟨rfl, hx.symm⟩
    · right
      have hb : ∀ y, AL.get? (inner (setTold c.comms w who v).2 w) y = if who = y then some v else AL.get? (inner c.comms w) y := fun y => by rw [hg y]; simp
      have hold : AL.get? (inner c.comms w) who = none := by cases hh : AL.get? (inner c.comms w) who <;> simp_all
      rw [behind_other hn hd hx hold hb, hn] at hq
      rw [hb k] at hk
      split at hk
      · cases hk; exact absurd rfl hx
      · exact ⟨⟨k, hk⟩, hq⟩
  · right
    have he : inner (setTold c.comms w who v).2 u = inner c.comms u := by
      unfold setTold
      simp only [hnew, Bool.false_eq_true, if_false]
      rw [inner_put hc.comms.1, if_neg hu]
    rw [he] at hk hq
    have : c'.behind (inner c.comms u) X = c.behind (inner c.comms u) X := by rw [behindB_eq, behindB_eq, hn, hd]
    rw [this, hn] at hq
    exact ⟨⟨k, hk⟩, hq⟩

theorem two_agreed {c : Core} (hc : Wf c) {u : Int} {X Y : Bytes} (hm : ∀ X, mult c.decs X ≤ c.f) (hx : Ag c u X) (hy : Ag c u Y) (hl : ((inner c.comms u).length : Int) ≤ c.f + 2) : X = Y := by
  by_cases e : X = Y
  · exact e
  · have h1 := mult_add (inner c.comms u) e
    have h2 := behind_le (c := c) (hc.comms.inner u).1 hc.decs.1 X
    have h3 := behind_le (c := c) (hc.comms.inner u).1 hc.decs.1 Y
    have h4 := hx.2
    have h5 := hy.2
    have h6 := hm X
    have h7 := hm Y
    have h8 := hc.n4
    unfold quorum at h4 h5
    unfold Core.f at h6 h7 hl
    omega

theorem J.step {acc : Bytes → Bool} {c c' : Core} (h : J acc c) (hs : c.step acc = some c') : J acc c' ∨ c'.decided = true := by
  have hw := h.wf
  obtain ⟨_, e | ⟨e1, e⟩ | ⟨e1, e2, e⟩ | ⟨e1, e2, e3, e⟩ | ⟨e1, e2, e3, e4, e⟩⟩ := step_cases hs
  · left
    obtain ⟨v, hv, rfl⟩ := turn_eq e
    have h1 := h.turns v hv
    have h2 := hw.turnTo_spec hv
    refine ⟨hw.step hs, { h.sound with low := fun u x hx => ?_ }, ⟨h.uniq.ag, h.uniq.decs⟩, fun _ => Or.inr ⟨h1.1, fun _ => h1.2⟩, fun v' hv' => ?_⟩
    · have := h.sound.low u x hx; show u ≤ v; omega
    · rw [hw.turnTo_done hv] at hv'; cases hv'
  · left
    have e1' := turn_none.1 e1
    obtain ⟨p, rfl, _⟩ := propose_eq e
    refine ⟨hw.step hs, { h.sound with }, ⟨h.uniq.ag, h.uniq.decs⟩, fun _ => ?_, fun v' hv' => ?_⟩
    · rcases h.still e1' with a | a
      · rw [a.1] at e; cases e
      · exact Or.inr a
    · have hv : c.turnTo = some v' := hv'
      rw [e1'] at hv; cases hv
  · left
    have e1' := turn_none.1 e1
    obtain ⟨p, _, _, _, rfl⟩ := prepare_eq e
    refine ⟨hw.step hs, { h.sound with preps := h.sound.set_preps hw hw.men }, ⟨h.uniq.ag, h.uniq.decs⟩, fun _ => ?_, fun v' hv' => ?_⟩
    · rcases h.still e1' with a | a
      · rw [a.2.1] at e; cases e
      · exact Or.inr a
    · have hv : c.turnTo = some v' := hv'
      rw [e1'] at hv; cases hv
  · left
    have e1' := turn_none.1 e1
    have hstill := h.still e1'
    have hw' := hw.step hs
    obtain ⟨v, _, hnew, rfl⟩ := commit_eq e
    have hnew' : AL.get? (inner c.comms c.view) c.me = none := by cases hh : AL.get? (inner c.comms c.view) c.me <;> simp_all
    rcases hstill with a | ⟨hm, a⟩
    · rw [a.2.2] at e; cases e
    · have hfew := a hnew'
      have hag := fun u X hx => ag_set (c := c) (c' := { c with lock := c.view, locked := v, comms := (setTold c.comms c.view c.me v).2 }) hw rfl rfl hnew rfl (u := u) (X := X) hx
      refine ⟨hw', ⟨h.sound.preps, h.sound.set_comms hw hw.men, h.sound.decs, fun u k x hx hk => ?_, fun u x hx => ?_⟩, ⟨fun u X Y hx hy => ?_, h.uniq.decs⟩, fun _ => Or.inr ⟨hm, fun hno => ?_⟩, fun v' hv' => ?_⟩
      · have hx' := get_setTold hw.comms c.view c.me v u k hnew
        rw [hx'] at hx
        split at hx
        · rename_i e; exact absurd e.2.symm hk
        · exact h.sound.seen u k x hx hk
      · have hx' := get_setTold hw.comms c.view c.me v u c.me hnew
        rw [hx'] at hx
        split at hx
        · rename_i e; show u ≤ c.view; omega
        · exact h.sound.low u x hx
      · rcases hag u X hx with ⟨rfl, rfl⟩ | hx0
        · rcases hag c.view Y hy with ⟨_, rfl⟩ | hy0
          · rfl
          · rcases hfew with hf | hf
            · exact absurd hy0 (hf Y)
            · refine two_agreed hw' hm hx hy ?_
              show ((inner (setTold c.comms c.view c.me X).2 c.view).length : Int) ≤ c.f + 2
              unfold setTold
              simp only [hnew, Bool.false_eq_true, if_false]
              rw [inner_put hw.comms.1, if_pos rfl, length_put_new hnew']
              unfold Few at hf
              omega
        · rcases hag u Y hy with ⟨rfl, rfl⟩ | hy0
          · rcases hfew with hf | hf
            · exact absurd hx0 (hf X)
            · refine two_agreed hw' hm hx hy ?_
              show ((inner (setTold c.comms c.view c.me Y).2 c.view).length : Int) ≤ c.f + 2
              unfold setTold
              simp only [hnew, Bool.false_eq_true, if_false]
              rw [inner_put hw.comms.1, if_pos rfl, length_put_new hnew']
              unfold Few at hf
              omega
          · exact h.uniq.ag u X Y hx0 hy0
      · have hx' := get_setTold hw.comms c.view c.me v c.view c.me hnew
        rw [if_pos ⟨rfl, rfl⟩] at hx'
        have hno' : AL.get? (inner (setTold c.comms c.view c.me v).2 c.view) c.me = none := hno
        rw [hx'] at hno'
        cases hno'
      · have hv : c.turnTo = some v' := hv'
        rw [e1'] at hv; cases hv
  · right
    obtain ⟨v, _, rfl⟩ := decide_eq e
    rfl

theorem step_decided {c : Core} (acc : Bytes → Bool) (h : c.decided = true) : c.step acc = none := by unfold Core.step; simp [h]

theorem actN_decided {c : Core} (acc : Bytes → Bool) (h : c.decided = true) : ∀ k, Core.actN acc k c = c
  | 0 => rfl
  | k + 1 => by simp [Core.actN, step_decided acc h]

/-- acting goes round with its peers -/
theorem Rot.actN {n t : Int} {acc : Bytes → Bool} : ∀ (k : Nat) {c d : Core}, Rot n t c d → (J acc c ∨ c.decided = true) → Wf d → Rot n t (Core.actN acc k c) (Core.actN acc k d)
  | 0, _, _, h, _, _ => h
  | k + 1, c, d, h, hj, hd => by
    rcases hj with hj | hj
    · have h1 := h.step hj.wf hd hj.sound hj.uniq acc
      simp only [Core.actN]
      cases e : c.step acc <;> cases g : d.step acc <;> rw [e, g] at h1 <;> first | exact h1.elim | skip
      · exact h
      · exact Rot.actN k h1 (hj.step e) (hd.step g)
    · rw [actN_decided acc hj, actN_decided acc (by rw [h.decided]; exact hj)]
      exact h

theorem Rot.act {n t : Int} {acc : Bytes → Bool} {c d : Core} (h : Rot n t c d) (hj : J acc c ∨ c.decided = true) (hd : Wf d) : Rot n t (c.act acc) (d.act acc) := Rot.actN 32 h hj hd

theorem J.actN {acc : Bytes → Bool} : ∀ (k : Nat) {c : Core}, J acc c → J acc (Core.actN acc k c) ∨ (Core.actN acc k c).decided = true
  | 0, _, h => Or.inl h
  | k + 1, c, h => by
    simp only [Core.actN]
    cases e : c.step acc with
    | none => exact Or.inl h
    | some c' =>
      rcases h.step e with h1 | h1
      · exact J.actN k h1
      · simp only
        rw [actN_decided acc h1]; exact Or.inr h1
end Go.Proofs.Ytkpllkjionegeaa

/- The plain law of WholeRotated, third part: what comes to a core at rest, and what it says. No program. -/
namespace Go.Proofs.Ytkpllkjionegeaa

/-- nothing is left to do -/
structure Rest (acc : Bytes → Bool) (c : Core) : Prop where
  wf : Wf c
  sound : Sound c
  done : c.step acc = none

theorem step_none {c : Core} {acc : Bytes → Bool} (h : c.step acc = none) (hd : c.decided = false) : c.turnTo = none ∧ c.propose = none ∧ c.prepare acc = none ∧ c.commit = none ∧ c.decision = none := by
  unfold Core.step at h
  simp only [hd, Bool.false_eq_true, if_false] at h
  split at h
  · cases h
  · rename_i h1
    split at h
    · cases h
    · rename_i h2
      split at h
      · cases h
      · rename_i h3
        split at h
        · cases h
        · rename_i h4
          refine ⟨turn_none.1 h1, h2, h3, h4, ?_⟩
          unfold Core.decide at h
          exact Option.map_eq_none_iff.1 h

theorem step_of_none {c : Core} {acc : Bytes → Bool} (h1 : c.turnTo = none) (h2 : c.propose = none) (h3 : c.prepare acc = none) (h4 : c.commit = none) (h5 : c.decision = none) : c.step acc = none := by
  unfold Core.step
  rw [turn_none.2 h1, h2, h3, h4]
  simp [Core.decide, h5]

theorem decideIn_none {c : Core} : ∀ {l : List Int}, Core.decideIn c l = none ↔ ∀ u ∈ l, c.agreed u = none
  | [] => by simp [Core.decideIn]
  | k :: r => by
    simp only [Core.decideIn]
    cases hk : c.agreed k with
    | none => rw [decideIn_none (l := r)]; simp [hk]
    | some v => simp [hk]

theorem decision_none {c : Core} (hc : Wf c) : c.decision = none ↔ (∀ u, c.agreed u = none) ∧ ∀ X, mult c.decs X ≤ c.f := by
  have e : c.decision = none ↔ Core.decideIn c (AL.keys c.comms) = none ∧ count c.decs (c.f + 1) = none := by
    unfold Core.decision
    cases Core.decideIn c (AL.keys c.comms) <;> simp
  rw [e, decideIn_none, count_noneP (by have := f_pos hc; omega)]
  constructor
  · rintro ⟨h1, h2⟩
    refine ⟨fun u => ?_, fun X => by have := h2 X; omega⟩
    by_cases hu : u ∈ AL.keys c.comms
    · exact h1 u hu
    · have : AL.get? c.comms u = none := by
        cases hg : AL.get? c.comms u with
        | none => rfl
        | some t => exact absurd (AL.mem_keys.2 ⟨t, AL.get?_mem hg⟩) hu
      unfold Core.agreed inner
      rw [this]
      rfl
  · rintro ⟨h1, h2⟩
    exact ⟨fun u _ => h1 u, fun X => by have := h2 X; omega⟩

theorem Rest.no_ag {acc : Bytes → Bool} {c : Core} (h : Rest acc c) (hd : c.decided = false) (u : Int) (X : Bytes) : ¬ Ag c u X :=
  agreed_noneP (((decision_none h.wf).1 (step_none h.done hd).2.2.2.2).1 u) X

theorem Rest.few_decs {acc : Bytes → Bool} {c : Core} (h : Rest acc c) (hd : c.decided = false) (X : Bytes) : mult c.decs X ≤ c.f :=
  ((decision_none h.wf).1 (step_none h.done hd).2.2.2.2).2 X

/-- few peers are known to have gone further than a core that stays -/
theorem turn_fewP {c : Core} (h : c.turnTo = none) (hf : 0 ≤ c.f) {w : Int} (hw : c.view < w) : (((AL.vals c.seen).filter fun s => decide (w ≤ s)).length : Int) ≤ c.f := by
  have hp : (((AL.vals c.seen).filter fun s => decide (w ≤ s)).length) = ((c.views.filter fun s => decide (w ≤ s)).length) := ((List.mergeSort_perm (AL.vals c.seen) _).filter _).length_eq.symm
  rw [hp]
  have hsort : c.views.Pairwise (fun a b => decide (a ≤ b) = true) := List.pairwise_mergeSort (fun a b e x y => by simp at *; omega) (fun a b => by simp; omega) _
  unfold Core.turnTo at h
  split at h
  · rename_i hl
    have := List.length_filter_le (fun s => decide (w ≤ s)) c.views
    omega
  · rename_i hl
    simp only at h
    split at h
    · rename_i hle
      generalize c.views = l at hsort hl hle
      have hidx : l.length - 1 - c.f.toNat < l.length := by omega
      rw [List.getD, List.getElem?_eq_getElem hidx] at hle
      simp only [Option.getD_some] at hle
      have e : l.filter (fun s => decide (w ≤ s)) = (l.drop (l.length - 1 - c.f.toNat + 1)).filter (fun s => decide (w ≤ s)) := by
        conv => lhs; rw [← List.take_append_drop (l.length - 1 - c.f.toNat + 1) l]
        rw [List.filter_append, List.filter_eq_nil_iff.2, List.nil_append]
        intro x hx
        obtain ⟨j, hj, rfl⟩ := List.getElem_of_mem hx
        rw [List.length_take] at hj
        rw [List.getElem_take]
        have hle2 : l[j]'(by omega) ≤ l[l.length - 1 - c.f.toNat] := by
          by_cases hj2 : j = l.length - 1 - c.f.toNat
          · subst hj2; exact Int.le_refl _
          · have := (List.pairwise_iff_getElem.1 hsort) j (l.length - 1 - c.f.toNat) (by omega) hidx (by omega)
            simpa using this
        simp; omega
      rw [e]
      have := List.length_filter_le (fun s => decide (w ≤ s)) (l.drop (l.length - 1 - c.f.toNat + 1))
      rw [List.length_drop] at this
      omega
    · cases h

theorem Rest.few_comms {acc : Bytes → Bool} {c : Core} (h : Rest acc c) (hd : c.decided = false) {w : Int} (hw : c.view < w) : ((inner c.comms w).length : Int) ≤ c.f := by
  have h1 := turn_fewP (step_none h.done hd).1 (by have := f_pos h.wf; omega) hw
  have hr := (h.wf.comms.inner w).1
  have hsub : ∀ k ∈ AL.keys (inner c.comms w), k ∈ (c.seen.filter fun p => decide (w ≤ p.2)).map (·.1) := fun k hk => by
    obtain ⟨X, hX⟩ := Option.isSome_iff_exists.1 ((AL.mem_keys_get? hr).1 hk)
    have hne : k ≠ c.me := fun e => by
      subst e
      have := h.sound.low w X hX
      omega
    obtain ⟨s, hs, hle⟩ := h.sound.seen w k X hX hne
    exact List.mem_map.2 ⟨(k, s), List.mem_filter.2 ⟨AL.get?_mem hs, by simpa using hle⟩, rfl⟩
  have h2 := List.Nodup.length_le_of_subset (AL.keys_nodup hr) hsub
  have h3 : ((AL.vals c.seen).filter fun s => decide (w ≤ s)).length = (c.seen.filter fun p => decide (w ≤ p.2)).length := by
    unfold AL.vals
    rw [List.filter_map, List.length_map]
    rfl
  simp only [AL.keys, List.length_map] at h2
  omega

/-! ### what comes -/

theorem ag_same {c c' : Core} (hn : c'.n = c.n) (hd : c'.decs = c.decs) (hc : c'.comms = c.comms) (u : Int) (X : Bytes) : Ag c' u X ↔ Ag c u X := by
  unfold Ag
  rw [behindB_eq, behindB_eq, hn, hd, hc]

theorem Rest.J_of {acc : Bytes → Bool} {c c' : Core} (h : Rest acc c) (hd : c.decided = false) (hw : Wf c') (hs : Sound c') (hn : c'.n = c.n) (he : c'.decs = c.decs) (hc : c'.comms = c.comms) : J acc c' := by
  have hf : c'.f = c.f := by unfold Core.f; rw [hn]
  have ha : ∀ u X, ¬ Ag c' u X := fun u X hx => h.no_ag hd u X ((ag_same hn he hc u X).1 hx)
  have hm : ∀ X, mult c'.decs X ≤ c'.f := fun X => by rw [he, hf]; exact h.few_decs hd X
  exact ⟨hw, hs, ⟨fun u X Y hx => absurd hx (ha u X), fun X Y hx => by have := hm X; omega⟩, fun _ => Or.inr ⟨hm, fun _ => Or.inl (ha _)⟩, fun v _ => ⟨hm, Or.inl (ha _)⟩⟩

theorem inner_setTold_other {m : AL Told} (hm : TWf m) {w who : Int} {v : Bytes} {u : Int} (hu : w ≠ u) : inner (setTold m w who v).2 u = inner m u := by
  cases hn : (AL.get? (inner m w) who).isSome with
  | true => rw [setTold_old hn]
  | false =>
    unfold setTold
    simp only [hn, Bool.false_eq_true, if_false]
    rw [inner_put hm.1, if_neg hu]

theorem best_congr {c c' : Core} (hn : c'.n = c.n) (hp : c'.preps = c.preps) (b : Int) : c'.best b = c.best b := by
  have e : ∀ u, c'.prepared u = c.prepared u := fun u => by unfold Core.prepared; rw [hn, hp]
  unfold Core.best
  rw [hp]
  generalize (AL.keys c.preps).reverse = l
  induction l with
  | nil => rfl
  | cons x r ih => simp only [Core.bestIn]; rw [e, ih]

theorem propose_congr {c c' : Core} (hn : c'.n = c.n) (hp : c'.preps = c.preps) (hs : c'.slot = c.slot) (hm : c'.me = c.me) (hv : c'.view = c.view) (hq : c'.props = c.props) (hw : c'.wishes = c.wishes) (h : c.propose = none) : c'.propose = none := by
  have e : c'.proposer c.view = c.proposer c.view := by unfold Core.proposer; rw [hs, hn]
  unfold Core.propose at h ⊢
  rw [hq, hv, e, hm, best_congr hn hp, hw]
  split at h
  · rename_i h1; rw [if_pos h1]
  · rename_i h1
    rw [if_neg h1]
    split at h
    · cases h
    · split at h
      · cases h
      · rename_i h3; rw [if_neg h3]

theorem prepare_congr {acc : Bytes → Bool} {c c' : Core} (hn : c'.n = c.n) (hp : c'.preps = c.preps) (hm : c'.me = c.me) (hv : c'.view = c.view) (hq : c'.props = c.props) (hl : c'.lock = c.lock) (hk : c'.locked = c.locked) (h : c.prepare acc = none) : c'.prepare acc = none := by
  have e : ∀ p, c'.fit acc p = c.fit acc p := fun p => by unfold Core.fit Core.prepared; rw [hl, hk, hv, hn, hp]
  unfold Core.prepare at h ⊢
  rw [hq, hv, hm, hp]
  cases hg : AL.get? c.props c.view with
  | none => rfl
  | some p =>
    rw [hg] at h
    simp only at h ⊢
    rw [e]
    split at h
    · rename_i h1; rw [if_pos h1]
    · cases h

/-- a Commit of another one comes -/
theorem Rest.J_commit {acc : Bytes → Bool} {c : Core} (h : Rest acc c) (hd : c.decided = false) {w q : Int} {v : Bytes} {s : AL Int} (hnew : (AL.get? (inner c.comms w) q).isSome = false) (hq : q ≠ c.me)
    (hw : Wf { c with comms := (setTold c.comms w q v).2, seen := s }) (hs : Sound { c with comms := (setTold c.comms w q v).2, seen := s }) : J acc { c with comms := (setTold c.comms w q v).2, seen := s } := by
  have hnew' : AL.get? (inner c.comms w) q = none := by cases hh : AL.get? (inner c.comms w) q <;> simp_all
  have hag := fun u X hx => ag_set (c := c) (c' := { c with comms := (setTold c.comms w q v).2, seen := s }) h.wf rfl rfl hnew rfl (u := u) (X := X) hx
  have hm := h.few_decs hd
  obtain ⟨r1, r2, r3, r4, r5⟩ := step_none h.done hd
  have hag' : ∀ u X, Ag { c with comms := (setTold c.comms w q v).2, seen := s } u X → u = w ∧ X = v := fun u X hx => (hag u X hx).resolve_right (h.no_ag hd u X)
  refine ⟨hw, hs, ⟨fun u X Y hx hy => (hag' u X hx).2.trans (hag' u Y hy).2.symm, fun X Y hx => ?_⟩, fun _ => Or.inl ⟨propose_congr (c := c) rfl rfl rfl rfl rfl rfl rfl r2, prepare_congr (c := c) rfl rfl rfl rfl rfl rfl rfl r3, ?_⟩, fun v' hv' => ⟨hm, ?_⟩⟩
  · have := hm X
    have hx' : c.f + 1 ≤ mult c.decs X := hx
    omega
  · have e : AL.get? (inner (setTold c.comms w q v).2 c.view) c.me = AL.get? (inner c.comms c.view) c.me := by
      rw [get_setTold h.wf.comms w q v c.view c.me hnew, if_neg (fun x => hq x.2)]
    unfold Core.commit at r4 ⊢
    have ep : ({ c with comms := (setTold c.comms w q v).2, seen := s } : Core).prepared c.view = c.prepared c.view := rfl
    simp only [e]
    rw [ep]
    cases hpv : c.prepared c.view with
    | none => rfl
    | some x =>
      rw [hpv] at r4
      simp only at r4 ⊢
      split at r4
      · rename_i hh; rw [if_pos hh]
      · cases r4
  · by_cases hvw : v' = w
    · right
      subst hvw
      have hlt := (hw.turnTo_spec hv').1
      have := h.few_comms hd (w := v') hlt
      show ((inner (setTold c.comms v' q v).2 v').length : Int) ≤ c.f + 1
      unfold setTold
      simp only [hnew, Bool.false_eq_true, if_false]
      rw [inner_put h.wf.comms.1, if_pos rfl, length_put_new hnew']
      omega
    · left
      intro X hx
      exact hvw (hag' v' X hx).1

theorem commit_congr {c : Core} {ds : Told} (h : c.commit = none) : ({ c with decs := ds } : Core).commit = none := by
  have e : ({ c with decs := ds } : Core).prepared c.view = c.prepared c.view := rfl
  unfold Core.commit at h ⊢
  rw [e]
  cases hp : c.prepared c.view with
  | none => rfl
  | some v =>
    rw [hp] at h
    simp only at h ⊢
    split at h
    · rename_i h1; rw [if_pos h1]
    · cases h

/-- what another one decided comes -/
theorem Rest.J_decided {acc : Bytes → Bool} {c : Core} (h : Rest acc c) (hd : c.decided = false) {q : Int} {v : Bytes} (hnew : AL.get? c.decs q = none)
    (hw : Wf { c with decs := AL.put c.decs q v }) (hs : Sound { c with decs := AL.put c.decs q v }) : J acc { c with decs := AL.put c.decs q v } := by
  obtain ⟨r1, r2, r3, r4, r5⟩ := step_none h.done hd
  have hm := h.few_decs hd
  have hag : ∀ u X, Ag { c with decs := AL.put c.decs q v } u X → X = v := fun u X hx => by
    by_cases e : X = v
    · exact e
    · exfalso
      obtain ⟨hk, hq⟩ := hx
      refine h.no_ag hd u X ⟨hk, ?_⟩
      have : ({ c with decs := AL.put c.decs q v } : Core).behind (inner c.comms u) X = c.behind (inner c.comms u) X := by
        rw [behindB_eq, behindB_eq]
        show ((List.filter (behindB (inner c.comms u) (AL.put c.decs q v) X) _).length : Int) = _
        congr 2
        refine List.filter_congr fun p _ => ?_
        unfold behindB
        rw [AL.get?_put p h.wf.decs.1]
        by_cases e2 : q = p
        · subst e2
          rw [hnew]
          have : (v == X) = false := by simpa using fun x => e x.symm
          simp [this]
        · rw [if_neg e2]
      have hq' : quorum c.n ≤ ({ c with decs := AL.put c.decs q v } : Core).behind (inner c.comms u) X := hq
      rw [this] at hq'
      exact hq'
  have hone : ∀ X, c.f + 1 ≤ mult (AL.put c.decs q v) X → X = v := fun X hx => by
    rw [mult_put_new hnew] at hx
    have := hm X
    split at hx
    · rename_i e; exact e.symm
    · omega
  refine ⟨hw, hs, ⟨fun u X Y hx hy => (hag u X hx).trans (hag u Y hy).symm, fun X Y hx hy => (hone X hx).trans (hone Y hy).symm⟩, fun _ => Or.inl ⟨propose_congr (c := c) rfl rfl rfl rfl rfl rfl rfl r2, prepare_congr (c := c) rfl rfl rfl rfl rfl rfl rfl r3, commit_congr r4⟩, fun v' hv' => ?_⟩
  have : c.turnTo = some v' := hv'
  rw [r1] at this; cases this

theorem Sound.step {acc : Bytes → Bool} {c c' : Core} (hw : Wf c) (h : Sound c) (hs : c.step acc = some c') : Sound c' := by
  obtain ⟨_, e | ⟨e1, e⟩ | ⟨e1, e2, e⟩ | ⟨e1, e2, e3, e⟩ | ⟨e1, e2, e3, e4, e⟩⟩ := step_cases hs
  · obtain ⟨v, hv, rfl⟩ := turn_eq e
    have h2 := hw.turnTo_spec hv
    exact { h with low := fun u x hx => by have := h.low u x hx; show u ≤ v; omega }
  · obtain ⟨p, rfl, _⟩ := propose_eq e
    exact { h with }
  · obtain ⟨p, _, _, _, rfl⟩ := prepare_eq e
    exact { h with preps := h.set_preps hw hw.men }
  · obtain ⟨v, _, hnew, rfl⟩ := commit_eq e
    refine { h with comms := h.set_comms hw hw.men, seen := fun u k x hx hk => ?_, low := fun u x hx => ?_ }
    · have hx' := get_setTold hw.comms c.view c.me v u k hnew
      rw [hx'] at hx
      split at hx
      · rename_i e; exact absurd e.2.symm hk
      · exact h.seen u k x hx hk
    · have hx' := get_setTold hw.comms c.view c.me v u c.me hnew
      rw [hx'] at hx
      split at hx
      · rename_i e; show u ≤ c.view; omega
      · exact h.low u x hx
  · obtain ⟨v, _, rfl⟩ := decide_eq e
    exact { h with }

theorem Sound.actN {acc : Bytes → Bool} : ∀ (k : Nat) {c : Core}, Wf c → Sound c → Sound (Core.actN acc k c)
  | 0, _, _, h => h
  | k + 1, c, hw, h => by
    simp only [Core.actN]
    split
    · rename_i h1; exact Sound.actN k (hw.step h1) (h.step hw h1)
    · exact h

theorem Rest.of_act {acc : Bytes → Bool} {c : Core} (hw : Wf c) (h : Sound c) : Rest acc (c.act acc) := ⟨hw.act acc, Sound.actN 32 hw h, hw.act_done acc⟩

/-! ### a vote comes to both -/

def turnVote (n t at' : Int) (v : Vote) : Vote := { v with frm := rot n t v.frm, slot := if v.slot = at' then at' + t else -1 }

theorem told_kinds {c : Core} {v : Vote} (hk : (c.know v).1 = true) (hv : voteOk v = true) :
    (v.kind = 1 ∧ c.told v = { c with props := AL.put c.props v.view (v.value, v.valid), seen := AL.put c.seen v.frm (max ((AL.get? c.seen v.frm).getD 0) v.view) }) ∨
    (v.kind = 2 ∧ c.told v = { c with preps := (setTold c.preps v.view v.frm v.value).2, seen := AL.put c.seen v.frm (max ((AL.get? c.seen v.frm).getD 0) v.view) }) ∨
    (v.kind = 3 ∧ (AL.get? (inner c.comms v.view) v.frm).isSome = false ∧ c.told v = { c with comms := (setTold c.comms v.view v.frm v.value).2, seen := AL.put c.seen v.frm (max ((AL.get? c.seen v.frm).getD 0) v.view) }) ∨
    (v.kind = 5 ∧ c.told v = { c with turns := (setTold c.turns v.view v.frm v.value).2, seen := AL.put c.seen v.frm (max ((AL.get? c.seen v.frm).getD 0) v.view) }) ∨
    (v.kind = 4 ∧ AL.get? c.decs v.frm = none ∧ c.told v = { c with decs := AL.put c.decs v.frm v.value }) := by
  simp only [voteOk, decide_eq_true_eq] at hv
  unfold Core.know at hk
  unfold Core.told Core.know
  by_cases k1 : v.kind = 1
  · left
    simp only [k1, if_true] at hk ⊢
    split at hk
    · cases hk
    · rename_i hn
      simp [hn]
  · simp only [k1, if_false] at hk ⊢
    by_cases k2 : v.kind = 2
    · right; left
      simp [k2]
    · simp only [k2, if_false] at hk ⊢
      by_cases k3 : v.kind = 3
      · right; right; left
        simp only [k3, if_true] at hk ⊢
        cases hn : (AL.get? (inner c.comms v.view) v.frm).isSome with
        | true => rw [setTold_old hn] at hk; cases hk
        | false => simp
      · simp only [k3, if_false] at hk ⊢
        by_cases k5 : v.kind = 5
        · right; right; right; left
          simp [k5]
        · right; right; right; right
          have k4 : v.kind = 4 := by omega
          simp only [k5, if_false] at hk ⊢
          split at hk
          · cases hk
          · rename_i hn
            have hn' : AL.get? c.decs v.frm = none := by cases hh : AL.get? c.decs v.frm <;> simp_all
            simp [k4, hn, hn']

theorem seen_put {c : Core} (hw : Wf c) (h : Sound c) (q w : Int) : ∀ u k x, AL.get? (inner c.comms u) k = some x → k ≠ c.me → ∃ s, AL.get? (AL.put c.seen q (max ((AL.get? c.seen q).getD 0) w)) k = some s ∧ u ≤ s := fun u k x hx hk => by
  obtain ⟨s, hs, hle⟩ := h.seen u k x hx hk
  rw [AL.get?_put k hw.seenR]
  by_cases e : q = k
  · subst e
    rw [if_pos rfl, hs]
    exact ⟨_, rfl, by simp only [Option.getD_some]; omega⟩
  · rw [if_neg e]; exact ⟨s, hs, hle⟩

theorem Sound.told {c : Core} (hw : Wf c) (h : Sound c) {v : Vote} (hk : (c.know v).1 = true) (hv : voteOk v = true) (hn : v.frm ≤ c.n) (hne : v.frm ≠ c.me) : Sound (c.told v) := by
  have hseen := seen_put hw h v.frm v.view
  rcases told_kinds hk hv with ⟨_, e⟩ | ⟨_, e⟩ | ⟨_, hnew, e⟩ | ⟨_, e⟩ | ⟨_, hnew, e⟩
  · rw [e]; exact { h with seen := hseen }
  · rw [e]; exact { h with seen := hseen, preps := h.set_preps hw hn }
  · rw [e]
    refine { h with comms := h.set_comms hw hn, seen := fun u k x hx hk => ?_, low := fun u x hx => ?_ }
    · have hx' := get_setTold hw.comms v.view v.frm v.value u k hnew
      rw [hx'] at hx
      split at hx
      · rename_i e2
        obtain ⟨rfl, rfl⟩ := e2
        show ∃ s, AL.get? (AL.put c.seen _ _) _ = some s ∧ _
        rw [AL.get?_put _ hw.seenR, if_pos rfl]
        exact ⟨_, rfl, by omega⟩
      · exact hseen u k x hx hk
    · have hx' := get_setTold hw.comms v.view v.frm v.value u c.me hnew
      rw [hx'] at hx
      split at hx
      · rename_i e2; exact absurd e2.2 hne
      · exact h.low u x hx
  · rw [e]; exact { h with seen := hseen }
  · rw [e]
    refine { h with decs := fun k x hx => ?_ }
    have hx2 : AL.get? (AL.put c.decs v.frm v.value) k = some x := hx
    rw [AL.get?_put k hw.decs.1] at hx2
    split at hx2
    · rename_i e2; show k ≤ c.n; omega
    · exact h.decs k x hx2

theorem Rest.J_told {acc : Bytes → Bool} {c : Core} (h : Rest acc c) (hd : c.decided = false) {v : Vote} (hk : (c.know v).1 = true) (hv : voteOk v = true) (hn : v.frm ≤ c.n) (hne : v.frm ≠ c.me) (hw : Wf (c.told v)) : J acc (c.told v) := by
  have hs := h.sound.told h.wf hk hv hn hne
  rcases told_kinds hk hv with ⟨_, e⟩ | ⟨_, e⟩ | ⟨_, hnew, e⟩ | ⟨_, e⟩ | ⟨_, hnew, e⟩
  · rw [e] at hw hs ⊢; exact h.J_of hd hw hs rfl rfl rfl
  · rw [e] at hw hs ⊢; exact h.J_of hd hw hs rfl rfl rfl
  · rw [e] at hw hs ⊢; exact h.J_commit hd hnew hne hw hs
  · rw [e] at hw hs ⊢; exact h.J_of hd hw hs rfl rfl rfl
  · rw [e] at hw hs ⊢; exact h.J_decided hd hnew hw hs

theorem told_decided (c : Core) (v : Vote) : (c.told v).decided = c.decided := by
  unfold Core.told Core.know
  (repeat' split) <;> rfl

namespace Rot
variable {n t : Int} {c d : Core}

theorem know (h : Rot n t c d) (hc : Wf c) (hd : Wf d) (v : Vote) (s : Int) : (d.know { v with frm := rot n t v.frm, slot := s }).1 = (c.know v).1 ∧ Rot n t (c.know v).2 (d.know { v with frm := rot n t v.frm, slot := s }).2 := by
  unfold Core.know
  by_cases k1 : v.kind = 1
  · simp only [k1, if_true]
    have e : (rot n t v.frm != d.proposer v.view) = (v.frm != c.proposer v.view) := by
      rw [h.proposer, Bool.eq_iff_iff]
      simp only [bne_iff_ne, ne_eq]
      constructor
      · intro a x; exact a (by rw [x])
      · intro a x; exact a (rot_inj h.t0 h.tn x)
    rw [h.props, e]
    split
    · exact ⟨rfl, h⟩
    · exact ⟨rfl, { h with props := rfl }⟩
  · simp only [k1, if_false]
    by_cases k2 : v.kind = 2
    · simp only [k2, if_true]
      have := h.preps.set h.t0 h.tn hc.preps hd.preps v.view v.frm v.value
      exact ⟨this.1, { h with preps := this.2 }⟩
    · simp only [k2, if_false]
      by_cases k3 : v.kind = 3
      · simp only [k3, if_true]
        have := h.comms.set h.t0 h.tn hc.comms hd.comms v.view v.frm v.value
        exact ⟨this.1, { h with comms := this.2 }⟩
      · simp only [k3, if_false]
        by_cases k5 : v.kind = 5
        · simp only [k5, if_true]
          have := h.turns.set h.t0 h.tn hc.turns hd.turns v.view v.frm v.value
          exact ⟨this.1, { h with turns := this.2 }⟩
        · simp only [k5, if_false]
          rw [h.decs v.frm]
          split
          · exact ⟨rfl, h⟩
          · exact ⟨rfl, { h with decs := h.decs.put h.t0 h.tn hc.decs.1 hd.decs.1 _ _ }⟩

theorem told (h : Rot n t c d) (hc : Wf c) (hd : Wf d) {v : Vote} (hv : voteOk v = true) (hv' : voteOk { v with frm := rot n t v.frm, slot := c.slot + t } = true) : Rot n t (c.told v) (d.told { v with frm := rot n t v.frm, slot := c.slot + t }) := by
  have hk := (h.know hc hd v (c.slot + t)).2
  unfold Core.told
  show Rot n t (if v.kind ≠ 4 then _ else _) (if v.kind ≠ 4 then _ else _)
  split
  · refine { hk with seen := ?_ }
    show KRot n t (AL.put (c.know v).2.seen v.frm _) (AL.put (d.know { v with frm := rot n t v.frm, slot := c.slot + t }).2.seen (rot n t v.frm) _)
    have e := hk.seen v.frm
    show KRot n t _ (AL.put _ _ (max ((AL.get? (d.know { v with frm := rot n t v.frm, slot := c.slot + t }).2.seen (rot n t v.frm)).getD 0) v.view))
    rw [e]
    exact hk.seen.put h.t0 h.tn (hc.know hv).seenR (hd.know hv').seenR _ _
  · exact hk

end Rot

/-! ### two cores, act by act -/

structure Pair (acc : Bytes → Bool) (n t at' : Int) (c d : Core) (k : Nat) : Prop where
  fc : Fine c k
  fd : Fine d k
  ro : Rot n t c d
  rest : Rest acc c
  slot : c.slot = at'
  at0 : 0 ≤ at'

theorem Rest.make {acc : Bytes → Bool} {n me slot : Int} (h : Core.newOk n me slot = true) : Rest acc (Core.make n me slot) := by
  have hw := make_wf h
  refine ⟨hw, ⟨fun u k v hv => (by cases hv), fun u k v hv => (by cases hv), fun k v hv => (by cases hv), fun u k v hv => (by cases hv), fun u v hv => (by cases hv)⟩, ?_⟩
  have hq := quorum_pos hw.n4
  have hf := f_pos hw
  have hp : ∀ u, (Core.make n me slot).prepared u = none := fun u => rfl
  refine step_of_none ?_ ?_ rfl rfl ?_
  · unfold Core.turnTo
    rw [if_pos]
    show (((AL.vals ([] : AL Int)).mergeSort _).length : Int) ≤ _
    simp [AL.vals]; omega
  · unfold Core.propose
    split
    · rfl
    · rfl
  · rfl

theorem Pair.make {acc : Bytes → Bool} {n t me at' : Int} (h0 : 0 ≤ t) (h1 : t < n) (hc : Core.newOk n me at' = true) (hd : Core.newOk n (rot n t me) (at' + t) = true) : Pair acc n t at' (Core.make n me at') (Core.make n (rot n t me) (at' + t)) 0 := by
  have e : ∀ α : Type, KRot n t ([] : AL α) [] := fun α k => rfl
  have et : TRot n t [] [] := ⟨fun u => rfl, fun u k => rfl⟩
  refine ⟨Fine.make hc, Fine.make hd, ⟨h0, h1, rfl, rfl, rfl, rfl, rfl, rfl, rfl, rfl, et, et, et, e _, e _, rfl, rfl, rfl, rfl⟩, Rest.make hc, rfl, ?_⟩
  exact (make_wf hc).s0

namespace Pair
variable {acc : Bytes → Bool} {n t at' : Int} {c d : Core} {k : Nat}

theorem take (h : Pair acc n t at' c d k) {v : Vote} (hl : v.value.length ≤ 101) : (d.take acc (turnVote n t at' v)).1 = (c.take acc v).1 ∧ Pair acc n t at' (c.take acc v).2 (d.take acc (turnVote n t at' v)).2 (k + 1) := by
  have hfc := h.fc.take acc (v := v) hl
  have hfd := h.fd.take acc (v := turnVote n t at' v) hl
  have hsl : (c.take acc v).2.slot = at' → Rot n t (c.take acc v).2 (d.take acc (turnVote n t at' v)).2 → Rest acc (c.take acc v).2 → Pair acc n t at' (c.take acc v).2 (d.take acc (turnVote n t at' v)).2 (k + 1) := fun a b r => ⟨hfc, hfd, b, r, a, h.at0⟩
  have hcs := h.slot
  have ht0 := h.ro.t0
  have htn := h.ro.tn
  have hds := h.ro.slot
  have hd1 := h.fd.wf.s1
  have hn := h.ro.cn
  have hn64 := h.fc.wf.n64
  have hat := h.at0
  have hcond : (v.slot ≠ c.slot ∨ v.frm > c.n ∨ v.frm = c.me ∨ voteOk v = false) ↔ ((turnVote n t at' v).slot ≠ d.slot ∨ (turnVote n t at' v).frm > d.n ∨ (turnVote n t at' v).frm = d.me ∨ voteOk (turnVote n t at' v) = false) := by
    rw [h.ro.me, h.ro.dn, hds, hcs]
    unfold turnVote
    simp only
    by_cases e1 : v.slot = at'
    · rw [if_pos e1]
      by_cases e2 : v.frm > n
      · rw [hn]; simp [e2, rot_gt htn, e1]
      · by_cases e3 : v.frm = c.me
        · simp [e3]
        · have e3' : ¬ rot n t v.frm = rot n t c.me := fun x => e3 (rot_inj ht0 htn x)
          have e2' : ¬ rot n t v.frm > n := fun x => e2 ((rot_gt htn).1 x)
          have hr := rot_in ht0 htn (i := v.frm)
          have hok : voteOk { v with frm := rot n t v.frm, slot := at' + t } = voteOk v := by
            unfold voteOk
            simp only [decide_eq_decide]
            omega
          rw [hn, hok]
          simp [e1, e2, e3, e2', e3']
    · rw [if_neg e1]
      have : ¬ (-1 : Int) = at' + t := by omega
      simp [e1, this]
  by_cases hno : v.slot ≠ c.slot ∨ v.frm > c.n ∨ v.frm = c.me ∨ voteOk v = false
  · have hno' := hcond.1 hno
    have ec : c.take acc v = (false, c) := by rw [take_eq, if_pos hno]
    have ed : d.take acc (turnVote n t at' v) = (false, d) := by rw [take_eq, if_pos hno']
    rw [ec] at hfc hsl ⊢
    rw [ed] at hfd hsl ⊢
    exact ⟨rfl, hsl h.slot h.ro h.rest⟩
  · have hno' := fun x => hno (hcond.2 x)
    have ec : c.take acc v = if (c.know v).1 = false then (false, c) else (true, (c.told v).act acc) := by rw [take_eq, if_neg hno]
    have ed : d.take acc (turnVote n t at' v) = if (d.know (turnVote n t at' v)).1 = false then (false, d) else (true, (d.told (turnVote n t at' v)).act acc) := by rw [take_eq, if_neg hno']
    simp only [not_or, Bool.not_eq_false, ne_eq, Decidable.not_not] at hno
    obtain ⟨a1, a2, a3, a4⟩ := hno
    have eas : turnVote n t at' v = { v with frm := rot n t v.frm, slot := c.slot + t } := by unfold turnVote; rw [if_pos (a1.trans hcs), hcs]
    have hok' : voteOk (turnVote n t at' v) = true := by
      by_cases hv : voteOk (turnVote n t at' v) = true
      · exact hv
      · exact absurd (Or.inr (Or.inr (Or.inr (by simpa using hv)))) (fun x => hno' x)
    have hk := h.ro.know h.fc.wf h.fd.wf v (c.slot + t)
    rw [← eas] at hk
    rw [hk.1] at ed
    cases hkn : (c.know v).1 with
    | false =>
      rw [hkn, if_pos rfl] at ec ed
      rw [ec] at hfc hsl ⊢
      rw [ed] at hfd hsl ⊢
      exact ⟨rfl, hsl h.slot h.ro h.rest⟩
    | true =>
      rw [hkn, if_neg (by simp)] at ec ed
      rw [ec] at hfc hsl ⊢
      rw [ed] at hfd hsl ⊢
      have hwc : Wf (c.told v) := (h.fc.told a4 a3 hl).wf
      have hne' : (turnVote n t at' v).frm ≠ d.me := fun x => a3 (by rw [h.ro.me] at x; exact rot_inj ht0 htn x)
      have hwd : Wf (d.told (turnVote n t at' v)) := (h.fd.told hok' hne' hl).wf
      have hs := h.rest.sound.told h.fc.wf hkn a4 (by omega) a3
      have hr := h.ro.told h.fc.wf h.fd.wf a4 (by rw [← eas]; exact hok')
      rw [← eas] at hr
      refine ⟨rfl, hsl ?_ (hr.act ?_ hwd) (Rest.of_act hwc hs)⟩
      · show ((c.told v).act acc).slot = at'
        rw [(Knows.act hwc acc).slot]
        have : (c.told v).slot = c.slot := by
          unfold Core.told Core.know
          (repeat' split) <;> rfl
        rw [this, hcs]
      · by_cases hdc : c.decided = true
        · right; rw [told_decided, hdc]
        · left; exact h.rest.J_told (by simpa using hdc) hkn a4 (by omega) a3 hwc

theorem wish (h : Pair acc n t at' c d k) {v : Bytes} (hl : v.length ≤ 101) : Pair acc n t at' (c.doWish acc v) (d.doWish acc v) (k + 1) := by
  have hfc := h.fc.wish acc hl
  have hfd := h.fd.wish acc hl
  have e : (d.wishes = true ∨ v.length > 4096) ↔ (c.wishes = true ∨ v.length > 4096) := by rw [h.ro.wishes]
  unfold Core.doWish at hfc hfd ⊢
  by_cases hno : c.wishes = true ∨ v.length > 4096
  · rw [if_pos hno, if_pos (e.2 hno)] at *
    exact ⟨hfc, hfd, h.ro, h.rest, h.slot, h.at0⟩
  · rw [if_neg hno, if_neg (fun x => hno (e.1 x))] at *
    have hwc : Wf ({ c with wish := v, wishes := true } : Core) := { h.fc.wf with wishL := by show v.length ≤ 4096; omega }
    have hwd : Wf ({ d with wish := v, wishes := true } : Core) := { h.fd.wf with wishL := by show v.length ≤ 4096; omega }
    have hs : Sound ({ c with wish := v, wishes := true } : Core) := { h.rest.sound with }
    refine ⟨hfc, hfd, Rot.act { h.ro with wish := rfl, wishes := rfl } ?_ hwd, Rest.of_act hwc hs, (Knows.act hwc acc).slot.trans h.slot, h.at0⟩
    by_cases hdc : c.decided = true
    · exact Or.inr hdc
    · exact Or.inl (h.rest.J_of (by simpa using hdc) hwc hs rfl rfl rfl)

theorem late (h : Pair acc n t at' c d k) : Pair acc n t at' (c.late acc) (d.late acc) (k + 1) := by
  have hfc := h.fc.late acc
  have hfd := h.fd.late acc
  have e : (d.decided = false ∧ d.view < 1048576) ↔ (c.decided = false ∧ c.view < 1048576) := by rw [h.ro.decided, h.ro.view]
  unfold Core.late at hfc hfd ⊢
  by_cases hyes : c.decided = false ∧ c.view < 1048576
  · rw [if_pos hyes, if_pos (e.2 hyes)] at *
    have hv0 := h.fc.wf.v0
    have hwc : Wf ({ c with view := c.view + 1 } : Core) := { h.fc.wf with v0 := by show 0 ≤ c.view + 1; omega, v1 := by show c.view + 1 ≤ 1048576; omega }
    have hve := h.ro.view
    have hwd : Wf ({ d with view := d.view + 1 } : Core) := { h.fd.wf with v0 := by show 0 ≤ d.view + 1; omega, v1 := by show d.view + 1 ≤ 1048576; omega }
    have hs : Sound ({ c with view := c.view + 1 } : Core) := { h.rest.sound with low := fun u x hx => by have := h.rest.sound.low u x hx; show u ≤ c.view + 1; omega }
    exact ⟨hfc, hfd, Rot.act { h.ro with view := by show d.view + 1 = c.view + 1; omega } (Or.inl (h.rest.J_of hyes.1 hwc hs rfl rfl rfl)) hwd, Rest.of_act hwc hs, (Knows.act hwc acc).slot.trans h.slot, h.at0⟩
  · rw [if_neg hyes, if_neg (fun x => hyes (e.1 x))] at *
    exact ⟨hfc, hfd, h.ro, h.rest, h.slot, h.at0⟩

/-! ### what two such cores say -/

theorem own (h : Rot n t c d) {m m' : AL Told} (hm : TRot n t m m') (r : AL.Rising m) (r' : AL.Rising m') : ownAL d.me m' = ownAL c.me m := by
  refine AL.ext_get? (rising_own _ r') (rising_own _ r) fun k => ?_
  rw [get_own _ r', get_own _ r, h.me, hm.inn k]

end Pair

theorem mine_turn {n t at' : Int} {c d : Core} (h : Rot n t c d) (hs : c.slot = at') (kind : Int) {m m' : AL Told} (ho : ownAL d.me m' = ownAL c.me m) : d.mine kind m' = (c.mine kind m).map (turnVote n t at') := by
  rw [mine_own, mine_own, ho, List.map_map]
  refine List.map_congr_left fun p _ => ?_
  simp [turnVote, h.me, h.slot, hs]

theorem votesBytes_own (l : AL Bytes) (k f s : Int) : votesBytes (l.map fun p => { kind := k, frm := f, slot := s, view := p.1, valid := -1, value := p.2 }) = four l.length ++ l.flatMap fun p => four p.1 ++ four p.2.length ++ p.2 := by
  unfold votesBytes
  rw [List.length_map, List.flatMap_map]

theorem grown_own (c : Core) : c.grown = (c.view, ((ownAL c.me c.preps).length : Int), ((ownAL c.me c.comms).length : Int)) := by
  have e : ∀ m : AL Told, (m.filter fun p => (AL.get? p.2 c.me).isSome).length = (ownAL c.me m).length := fun m => by
    unfold ownAL
    rw [List.length_filterMap_eq_countP, ← List.countP_eq_length_filter]
    congr 1
    funext p
    cases AL.get? p.2 c.me <;> rfl
  unfold Core.grown
  rw [e, e]

namespace Pair
variable {acc : Bytes → Bool} {n t at' : Int} {c d : Core} {k : Nat}

theorem own_preps (h : Pair acc n t at' c d k) : ownAL d.me d.preps = ownAL c.me c.preps := own h.ro h.ro.preps h.fc.wf.preps.1 h.fd.wf.preps.1
theorem own_comms (h : Pair acc n t at' c d k) : ownAL d.me d.comms = ownAL c.me c.comms := own h.ro h.ro.comms h.fc.wf.comms.1 h.fd.wf.comms.1

theorem says (h : Pair acc n t at' c d k) : d.says = c.says.map (turnVote n t at') := by
  have e2 := mine_turn h.ro h.slot 2 h.own_preps
  have e3 := mine_turn h.ro h.slot 3 h.own_comms
  have hp : (d.proposer c.view == d.me) = (c.proposer c.view == c.me) := by
    have := h.ro.proposer_me c.view
    simp only [bne] at this
    simpa using this
  unfold Core.says
  rw [e2, e3, h.ro.decided, h.ro.view, h.ro.props, h.ro.me, h.ro.slot, h.ro.value, List.map_append, List.map_append, List.map_append]
  congr 3
  · cases c.decided <;> simp [turnVote, h.slot]
  · cases AL.get? c.props c.view with
    | none => rfl
    | some p =>
      simp only
      have hp' : (d.proposer c.view == rot n t c.me) = (c.proposer c.view == c.me) := by rw [← h.ro.me]; exact hp
      rw [hp']
      split
      · simp [turnVote, h.slot]
      · rfl

theorem bytes (h : Pair acc n t at' c d k) : d.bytes = c.bytes := by
  unfold Core.bytes
  rw [mine_own, mine_own, mine_own, mine_own, votesBytes_own, votesBytes_own, votesBytes_own, votesBytes_own, h.own_preps, h.own_comms, h.ro.view, h.ro.decided, h.ro.value]

theorem grown (h : Pair acc n t at' c d k) : d.grown = c.grown := by
  rw [grown_own, grown_own, h.own_preps, h.own_comms, h.ro.view]

theorem anew (h : Pair acc n t at' c d k) : Pair acc n t at' c.anew d.anew k := by
  have hcf := h.fc.anew
  have hdf := h.fd.anew
  have hw := hcf.wf
  have ep : d.anew.preps = AL.mapVal (fun v => ([(d.me, v)] : Told)) (ownAL c.me c.preps) := by rw [anew_preps, h.own_preps]
  have ec : d.anew.comms = AL.mapVal (fun v => ([(d.me, v)] : Told)) (ownAL c.me c.comms) := by rw [anew_comms, h.own_comms]
  have hinn : ∀ (me : Int) (l : AL Bytes) (u : Int), inner (AL.mapVal (fun v => ([(me, v)] : Told)) l) u = match AL.get? l u with | some v => [(me, v)] | none => [] := fun me l u => by
    unfold inner
    rw [AL.get?_mapVal]
    cases AL.get? l u <;> rfl
  have htr : ∀ l : AL Bytes, TRot n t (AL.mapVal (fun v => ([(c.me, v)] : Told)) l) (AL.mapVal (fun v => ([(d.me, v)] : Told)) l) := fun l => by
    refine ⟨fun u => ?_, fun u k => ?_⟩
    · rw [AL.get?_mapVal, AL.get?_mapVal]; cases AL.get? l u <;> rfl
    · rw [hinn, hinn]
      cases AL.get? l u with
      | none => rfl
      | some v =>
        simp only [AL.get?]
        rw [h.ro.me]
        by_cases e : c.me = k
        · subst e; simp
        · rw [if_neg e, if_neg (fun x => e (rot_inj h.ro.t0 h.ro.tn x))]
  have hlast : ∀ (me : Int), (AL.mapVal (fun v => ([(me, v)] : Told)) (ownAL c.me c.comms)).getLast? = (ownAL c.me c.comms).getLast?.map fun p => (p.1, [(me, p.2)]) := fun me => by
    unfold AL.mapVal
    rw [List.getLast?_map]
  have hlock : d.anew.lock = c.anew.lock ∧ d.anew.locked = c.anew.locked := by
    have e1 : c.anew.lock = match c.anew.comms.getLast? with | some p => p.1 | none => -1 := rfl
    have e2 : c.anew.locked = match c.anew.comms.getLast? with | some p => (AL.get? p.2 c.me).getD [] | none => [] := rfl
    have e3 : d.anew.lock = match d.anew.comms.getLast? with | some p => p.1 | none => -1 := rfl
    have e4 : d.anew.locked = match d.anew.comms.getLast? with | some p => (AL.get? p.2 d.me).getD [] | none => [] := rfl
    rw [e1, e2, e3, e4, ec, anew_comms, hlast, hlast]
    cases (ownAL c.me c.comms).getLast? with
    | none => exact ⟨rfl, rfl⟩
    | some p => exact ⟨rfl, by simp [AL.get?]⟩
  have hin1 : ∀ u k v, AL.get? (inner c.anew.preps u) k = some v → k = c.me := fun u k v hv => by
    rw [anew_preps, hinn] at hv
    cases hg : AL.get? (ownAL c.me c.preps) u with
    | none => rw [hg] at hv; cases hv
    | some x =>
      rw [hg] at hv
      simp only [AL.get?] at hv
      split at hv
      · rename_i e; exact e.symm
      · cases hv
  have hin2 : ∀ u k v, AL.get? (inner c.anew.comms u) k = some v → k = c.me := fun u k v hv => by
    rw [anew_comms, hinn] at hv
    cases hg : AL.get? (ownAL c.me c.comms) u with
    | none => rw [hg] at hv; cases hv
    | some x =>
      rw [hg] at hv
      simp only [AL.get?] at hv
      split at hv
      · rename_i e; exact e.symm
      · cases hv
  have hsound : Sound c.anew := by
    refine ⟨fun u k v hv => ?_, fun u k v hv => ?_, fun k v hv => (by cases hv), fun u k v hv hk => absurd (hin2 u k v hv) hk, fun u v hv => ?_⟩
    · rw [hin1 u k v hv]; exact h.fc.wf.men
    · rw [hin2 u k v hv]; exact h.fc.wf.men
    · refine hcf.low.2 u v ?_
      rw [get_own _ hw.comms.1]
      exact hv
  have hmul : ∀ (m : AL Told) (u : Int) (X : Bytes), AL.Rising (inner m u) → (∀ k v, AL.get? (inner m u) k = some v → k = c.me) → mult (inner m u) X ≤ 1 := fun m u X hr hk => by
    have h1 : ((inner m u).length : Int) ≤ 1 := by
      have := AL.length_le_of_bounds (AL.keys_rising hr) (a := c.me) (n := 1) (fun x hx => by
        obtain ⟨v, hv⟩ := Option.isSome_iff_exists.1 ((AL.mem_keys_get? hr).1 hx)
        have := hk x v hv
        omega)
      simp [AL.keys] at this
      omega
    have := List.length_filter_le (fun q : Int × Bytes => q.2 == X) (inner m u)
    unfold mult
    omega
  have hq2 : 2 ≤ quorum c.n := by unfold quorum; have := h.fc.wf.n4; omega
  have hprep : ∀ u, c.anew.prepared u = none := fun u => by
    unfold Core.prepared
    rw [show c.anew.n = c.n from rfl, count_noneP (by omega)]
    intro X
    have := hmul c.anew.preps u X (hw.preps.inner u).1 (hin1 u)
    omega
  have hbest : ∀ b, c.anew.best b = none := fun b => by
    unfold Core.best
    generalize (AL.keys c.anew.preps).reverse = l
    induction l with
    | nil => rfl
    | cons x r ih => simp only [Core.bestIn, hprep, ih]
  have hstep : c.anew.step acc = none := by
    cases hdc : c.decided with
    | true => exact step_decided acc hdc
    | false =>
      refine step_of_none ?_ ?_ rfl ?_ ?_
      · unfold Core.turnTo
        rw [if_pos]
        have := f_pos hw
        show (((AL.vals ([] : AL Int)).mergeSort _).length : Int) ≤ _
        simp [AL.vals]; omega
      · unfold Core.propose
        split
        · rfl
        · rw [hbest]; rfl
      · unfold Core.commit
        rw [hprep]
      · rw [decision_none hw]
        refine ⟨fun u => ?_, fun X => ?_⟩
        · cases ha : c.anew.agreed u with
          | none => rfl
          | some X =>
            exfalso
            have hg := (agreed_some hw ha).2
            have hb := behind_le (c := c.anew) (hw.comms.inner u).1 hw.decs.1 X
            have h1 := hmul c.anew.comms u X (hw.comms.inner u).1 (hin2 u)
            have h2 : mult c.anew.decs X = 0 := rfl
            rw [show c.anew.n = c.n from rfl] at hg
            omega
        · have := f_pos hw
          have h2 : mult c.anew.decs X = 0 := rfl
          omega
  refine ⟨hcf, hdf, ⟨h.ro.t0, h.ro.tn, h.ro.cn, h.ro.dn, h.ro.me, h.ro.slot, h.ro.view, rfl, rfl, rfl, by rw [ep, anew_preps]; exact htr _, by rw [ec, anew_comms]; exact htr _, ⟨fun u => rfl, fun u k => rfl⟩, fun k => rfl, fun k => rfl, hlock.1, hlock.2, h.ro.decided, ?_⟩, ⟨hw, hsound, hstep⟩, h.slot, h.at0⟩
  show (if d.decided then d.value else []) = (if c.decided then c.value else [])
  rw [h.ro.decided, h.ro.value]

end Pair
end Go.Proofs.Ytkpllkjionegeaa

/- Walks: a peer some places further on (who); a vote told so (as). -/
namespace Go.Proofs.Ytkpllkjionegeaa
open Go Go.RowKit

set_option maxRecDepth 100000 in
set_option maxHeartbeats 800000 in
theorem who_calls (P T i : Int) (pb tb : Nat) (w : World) (hP : 4 ≤ P ∧ P ≤ 10) (hT : 0 ≤ T ∧ T < P) (hi : I64 i) (cp : w.cell? ⟨pb, 0, none⟩ = some (.int .i64 P)) (ct : w.cell? ⟨tb, 0, none⟩ = some (.int .i64 T)) :
    Calls Try.prog 9 #[.int .i64 i, .pointer (some ⟨pb, 0, none⟩), .pointer (some ⟨tb, 0, none⟩)] w (fun e w' => e = .returned (.int .i64 (rot P T i)) ∧ w = w') := by
  obtain ⟨hP1, hP2⟩ := hP
  obtain ⟨hT1, hT2⟩ := hT
  obtain ⟨hi1, hi2⟩ := hi
  have hpl : pb < w.heap.size := World.block_lt_of_cell? w _ cp
  have htl : tb < w.heap.size := World.block_lt_of_cell? w _ ct
  by_cases h1 : i < 1
  · have HR : Hid (rot P T i = i) := Lib.hid (by unfold rot; rw [if_pos (Or.inl h1)])
    have t1 : decide (i < 1) = true := by simpa using h1
    clear h1
    go_enter Try.func9, Try.ntmps9
    go_wp2
    go_ret
    exact ⟨by rw [HR.out]; rfl, rfl⟩
  · have t1 : decide (i < 1) = false := by simpa using h1
    by_cases h2 : P < i
    · have HR : Hid (rot P T i = i) := Lib.hid (by unfold rot; rw [if_pos (Or.inr h2)])
      have t2 : decide (P < i) = true := by simpa using h2
      clear h1 h2
      go_enter Try.func9, Try.ntmps9
      go_wp2
      go_ret
      exact ⟨by rw [HR.out]; rfl, rfl⟩
    · have HR : Hid (rot P T i = 1 + (i - 1 + T) % P) := Lib.hid (rot_mod hT1 hT2 (by omega) (by omega))
      have t2 : decide (P < i) = false := by simpa using h2
      have hp0 : P ≠ 0 := by omega
      have hs0 : 0 ≤ i - 1 := by omega
      have hs1 : i - 1 ≤ 9 := by omega
      have hm0 := Int.emod_nonneg (i - 1 + T) hp0
      have hm1 := Int.emod_lt_of_pos (i - 1 + T) (show 0 < P by omega)
      have hz : 0 ≤ i - 1 + T := by omega
      clear h1 h2
      go_enter Try.func9, Try.ntmps9
      go_wp2
      go_ret
      exact ⟨by rw [HR.out]; rfl, rfl⟩

/-- what the closures look at -/
structure Caps (w : World) (P T S : Int) (pb tb hb sb : Nat) : Prop where
  p : w.heap[pb]? = some (.cells #[.int .i64 P] 3 (0, 0))
  t : w.heap[tb]? = some (.cells #[.int .i64 T] 3 (0, 0))
  h : w.heap[hb]? = some (.cells #[.func (.func 9) #[] #[.pointer (some ⟨pb, 0, none⟩), .pointer (some ⟨tb, 0, none⟩)]] 25 (0, 0))
  s : w.heap[sb]? = some (.cells #[.int .i64 S] 3 (0, 0))

theorem Caps.kept {w w' : World} {P T S : Int} {pb tb hb sb : Nat} (h : Caps w P T S pb tb hb sb) (hk : ∀ b ∈ [pb, tb, hb, sb], w'.heap[b]? = w.heap[b]?) : Caps w' P T S pb tb hb sb :=
  ⟨(hk pb (by simp)).trans h.p, (hk tb (by simp)).trans h.t, (hk hb (by simp)).trans h.h, (hk sb (by simp)).trans h.s⟩

theorem Caps.ext {w w' : World} {P T S : Int} {pb tb hb sb : Nat} (h : Caps w P T S pb tb hb sb) (hx : Ext w w') : Caps w' P T S pb tb hb sb :=
  ⟨(hx.block pb (Array.getElem?_eq_some_iff.1 h.p).1).trans h.p, (hx.block tb (Array.getElem?_eq_some_iff.1 h.t).1).trans h.t, (hx.block hb (Array.getElem?_eq_some_iff.1 h.h).1).trans h.h, (hx.block sb (Array.getElem?_eq_some_iff.1 h.s).1).trans h.s⟩

theorem Caps.cells {w : World} {P T S : Int} {pb tb hb sb : Nat} (h : Caps w P T S pb tb hb sb) :
    w.cell? ⟨pb, 0, none⟩ = some (.int .i64 P) ∧ w.cell? ⟨tb, 0, none⟩ = some (.int .i64 T) ∧ w.cell? ⟨hb, 0, none⟩ = some (.func (.func 9) #[] #[.pointer (some ⟨pb, 0, none⟩), .pointer (some ⟨tb, 0, none⟩)]) ∧ w.cell? ⟨sb, 0, none⟩ = some (.int .i64 S) :=
  ⟨cell_lit h.p, cell_lit h.t, cell_lit h.h, cell_lit h.s⟩


set_option maxRecDepth 100000 in
set_option maxHeartbeats 2000000 in
theorem as_calls (P T S : Int) (pb tb hb sb : Nat) (v : Vote) (A : Option Addr) (n C : Nat) (w : World) (hP : 4 ≤ P ∧ P ≤ 10) (hT : 0 ≤ T ∧ T < P) (hS : 0 ≤ S ∧ S ≤ 149) (hv : VoteIn v) (hc : Caps w P T S pb tb hb sb) :
    Calls Try.prog 10 #[.agg (voteCells v (.slice A n C)), .pointer (some ⟨hb, 0, none⟩), .pointer (some ⟨sb, 0, none⟩), .pointer (some ⟨tb, 0, none⟩)] w
      (fun e w' => e = .returned (.agg (voteCells (turnVote P T S v) (.slice A n C))) ∧ Ext w w') := by
  have hent9 : ∀ args w, (callFunc 9 args).run Try.prog w = .ok (.enter 9 args) w := enters_of Try.func9 (by kernel_rfl) rfl
  obtain ⟨c1, c2, c3, c4⟩ := hc.cells
  have hpl : pb < w.heap.size := World.block_lt_of_cell? w _ c1
  have htl : tb < w.heap.size := World.block_lt_of_cell? w _ c2
  have hhl : hb < w.heap.size := World.block_lt_of_cell? w _ c3
  have hsl : sb < w.heap.size := World.block_lt_of_cell? w _ c4
  obtain ⟨hi1, hi2, hi3, hi4, hi5⟩ := hv
  have HI2 := Lib.hid hi2
  have HT := Lib.hid hT
  have HP := Lib.hid hP
  obtain ⟨hT1, hT2⟩ := hT
  obtain ⟨hS1, hS2⟩ := hS
  obtain ⟨hP1, hP2⟩ := hP
  have HE := Lib.hid hent9
  have HC := Lib.hid hc
  clear hi1 hi2 hi3 hi4 hi5 hc hent9
  unfold voteCells
  by_cases h0 : v.slot = S
  · have hF : Hid ((turnVote P T S v).slot = S + T) := Lib.hid (by unfold turnVote; simp [h0])
    have t1 : (v.slot == S) = true := by simpa using h0
    obtain ⟨vs, hvs⟩ : ∃ vs, vs = v.slot := ⟨_, rfl⟩
    rw [← hvs] at h0 t1 ⊢
    clear hvs
    subst h0
    go_enter Try.func10, Try.ntmps10
    go_wp2_with (go_at_call 9; refine (who_calls P T v.frm pb tb _ HP.out HT.out HI2.out (HC.out.ext (Ext.al (Ext.al (Ext.refl _) _) _)).cells.1 (HC.out.ext (Ext.al (Ext.al (Ext.refl _) _) _)).cells.2.1).mono ?_; rintro e w1 ⟨rfl, rfl⟩)
    have hx : Ext w ((w.alloc (Obj.cells #[.int .i64 v.kind, .int .i64 (rot P T v.frm), .int .i64 (vs + T), .int .i64 v.view, .int .i64 v.valid, .slice A n C] 28)).alloc (Obj.cells #[.int .i64 v.kind, .int .i64 (rot P T v.frm), .int .i64 (vs + T), .int .i64 v.view, .int .i64 v.valid, .slice A n C] 28)) := Ext.al (Ext.al (Ext.refl w) _) _
    have hb := boxed (w.alloc (Obj.cells #[.int .i64 v.kind, .int .i64 (rot P T v.frm), .int .i64 (vs + T), .int .i64 v.view, .int .i64 v.valid, .slice A n C] 28)) #[.int .i64 v.kind, .int .i64 (rot P T v.frm), .int .i64 (vs + T), .int .i64 v.view, .int .i64 v.valid, .slice A n C] 28
    obtain ⟨W, hW⟩ : ∃ W, W = (w.alloc (Obj.cells #[.int .i64 v.kind, .int .i64 (rot P T v.frm), .int .i64 (vs + T), .int .i64 v.view, .int .i64 v.valid, .slice A n C] 28)).alloc (Obj.cells #[.int .i64 v.kind, .int .i64 (rot P T v.frm), .int .i64 (vs + T), .int .i64 v.view, .int .i64 v.valid, .slice A n C] 28) := ⟨_, rfl⟩
    rw [← hW] at hx hb ⊢
    obtain ⟨_, hcc, _⟩ := hb
    simp only [World.size_alloc] at hcc
    have g0 : W.cell? ⟨w.heap.size + 1, 0, none⟩ = some (.int .i64 v.kind) := hcc 0
    have g1 : W.cell? ⟨w.heap.size + 1, 1, none⟩ = some (.int .i64 (rot P T v.frm)) := hcc 1
    have g2 : W.cell? ⟨w.heap.size + 1, 2, none⟩ = some (.int .i64 (vs + T)) := hcc 2
    have g3 : W.cell? ⟨w.heap.size + 1, 3, none⟩ = some (.int .i64 v.view) := hcc 3
    have g4 : W.cell? ⟨w.heap.size + 1, 4, none⟩ = some (.int .i64 v.valid) := hcc 4
    have g5 : W.cell? ⟨w.heap.size + 1, 5, none⟩ = some (.slice A n C) := hcc 5
    clear hW hcc
    refine bodyPost_ret (v := .agg #[.int .i64 v.kind, .int .i64 (rot P T v.frm), .int .i64 (vs + T), .int .i64 v.view, .int .i64 v.valid, .slice A n C]) ?_ rfl ⟨?_, hx⟩
    · simp [results, Try.f10, go_sem, g0, g1, g2, g3, g4, g5]
    · rw [hF.out]; rfl
  · have hF : Hid ((turnVote P T S v).slot = -1) := Lib.hid (by unfold turnVote; simp [h0])
    have t1 : (v.slot == S) = false := by simpa using h0
    clear h0
    go_enter Try.func10, Try.ntmps10
    go_wp2_with (go_at_call 9; refine (who_calls P T v.frm pb tb _ HP.out HT.out HI2.out (HC.out.ext (Ext.al (Ext.al (Ext.refl _) _) _)).cells.1 (HC.out.ext (Ext.al (Ext.al (Ext.refl _) _) _)).cells.2.1).mono ?_; rintro e w1 ⟨rfl, rfl⟩)
    have hx : Ext w ((w.alloc (Obj.cells #[.int .i64 v.kind, .int .i64 (rot P T v.frm), .int .i64 (-1), .int .i64 v.view, .int .i64 v.valid, .slice A n C] 28)).alloc (Obj.cells #[.int .i64 v.kind, .int .i64 (rot P T v.frm), .int .i64 (-1), .int .i64 v.view, .int .i64 v.valid, .slice A n C] 28)) := Ext.al (Ext.al (Ext.refl w) _) _
    have hb := boxed (w.alloc (Obj.cells #[.int .i64 v.kind, .int .i64 (rot P T v.frm), .int .i64 (-1), .int .i64 v.view, .int .i64 v.valid, .slice A n C] 28)) #[.int .i64 v.kind, .int .i64 (rot P T v.frm), .int .i64 (-1), .int .i64 v.view, .int .i64 v.valid, .slice A n C] 28
    obtain ⟨W, hW⟩ : ∃ W, W = (w.alloc (Obj.cells #[.int .i64 v.kind, .int .i64 (rot P T v.frm), .int .i64 (-1), .int .i64 v.view, .int .i64 v.valid, .slice A n C] 28)).alloc (Obj.cells #[.int .i64 v.kind, .int .i64 (rot P T v.frm), .int .i64 (-1), .int .i64 v.view, .int .i64 v.valid, .slice A n C] 28) := ⟨_, rfl⟩
    rw [← hW] at hx hb ⊢
    obtain ⟨_, hcc, _⟩ := hb
    simp only [World.size_alloc] at hcc
    have g0 : W.cell? ⟨w.heap.size + 1, 0, none⟩ = some (.int .i64 v.kind) := hcc 0
    have g1 : W.cell? ⟨w.heap.size + 1, 1, none⟩ = some (.int .i64 (rot P T v.frm)) := hcc 1
    have g2 : W.cell? ⟨w.heap.size + 1, 2, none⟩ = some (.int .i64 (-1)) := hcc 2
    have g3 : W.cell? ⟨w.heap.size + 1, 3, none⟩ = some (.int .i64 v.view) := hcc 3
    have g4 : W.cell? ⟨w.heap.size + 1, 4, none⟩ = some (.int .i64 v.valid) := hcc 4
    have g5 : W.cell? ⟨w.heap.size + 1, 5, none⟩ = some (.slice A n C) := hcc 5
    clear hW hcc
    refine bodyPost_ret (v := .agg #[.int .i64 v.kind, .int .i64 (rot P T v.frm), .int .i64 (-1), .int .i64 v.view, .int .i64 v.valid, .slice A n C]) ?_ rfl ⟨?_, hx⟩
    · simp [results, Try.f10, go_sem, g0, g1, g2, g3, g4, g5]
    · rw [hF.out]; rfl

/-- the value of 'as' -/
def asV (hb sb tb : Nat) : Value := .func (.func 10) #[] #[.pointer (some ⟨hb, 0, none⟩), .pointer (some ⟨sb, 0, none⟩), .pointer (some ⟨tb, 0, none⟩)]

theorem as_fn {P T S : Int} {pb tb hb sb : Nat} {w : World} (hP : 4 ≤ P ∧ P ≤ 10) (hT : 0 ≤ T ∧ T < P) (hS : 0 ≤ S ∧ S ≤ 149) (hc : Caps w P T S pb tb hb sb) : AsFn w (asV hb sb tb) (turnVote P T S) [pb, tb, hb, sb] 10 #[.pointer (some ⟨hb, 0, none⟩), .pointer (some ⟨sb, 0, none⟩), .pointer (some ⟨tb, 0, none⟩)] :=
  ⟨rfl, fun b hb' => by
    simp only [List.mem_cons, List.not_mem_nil, or_false] at hb'
    rcases hb' with rfl | rfl | rfl | rfl
    · exact (Array.getElem?_eq_some_iff.1 hc.p).1
    · exact (Array.getElem?_eq_some_iff.1 hc.t).1
    · exact (Array.getElem?_eq_some_iff.1 hc.h).1
    · exact (Array.getElem?_eq_some_iff.1 hc.s).1, enters_of Try.func10 (by kernel_rfl) rfl, fun w' _ hk v A c hi hl hv => by
    have := as_calls P T S pb tb hb sb v A v.value.length c w' hP hT hS hi (hc.kept hk)
    refine (show Calls Try.prog 10 (#[.agg (voteCells v (.slice A v.value.length c))] ++ #[.pointer (some ⟨hb, 0, none⟩), .pointer (some ⟨sb, 0, none⟩), .pointer (some ⟨tb, 0, none⟩)]) w' _ from this).mono ?_
    rintro e w'' ⟨he, hx⟩
    exact ⟨A, c, he, hv.ext hx, hx⟩⟩
end Go.Proofs.Ytkpllkjionegeaa

/- Walks: no peer comes ahead of another one (WholeRotated). -/
namespace Go.Proofs.Ytkpllkjionegeaa
open Go Go.RowKit


set_option maxRecDepth 100000 in
set_option maxHeartbeats 2000000 in
theorem rotated_brief (n me slot by' : Int) (hn : 0 ≤ n ∧ n ≤ 255) (hme : 0 ≤ me ∧ me ≤ 255) (hslot : 0 ≤ slot ∧ slot ≤ 255) (hby : 0 ≤ by' ∧ by' ≤ 255) (l : List ActP) (A : Option Addr) (C : Nat) (w : World) (hl : ActsAt w A l) (hb : brief l = false) : Calls Try.prog 3 #[.int .u8 n, .int .u8 me, .int .u8 slot, .int .u8 by', .slice A l.length C] w (GivesBool true w) := by
  have HL := Lib.hid hl
  have HBR := Lib.hid hb
  clear hl hb
  go_enter Try.func3, Try.ntmps3
  go_wp2_with (first
    | (go_at_call 7; refine (proposes_calls _).mono ?_; rintro e w1 ⟨rfl, hx1⟩)
    | (go_at_call 8; refine (brief_calls l A C _ (HL.out.ext hx1)).mono ?_; rw [HBR.out]; rintro e w2 ⟨rfl, hx2⟩))
  go_ret
  exact ⟨rfl, Ext.trans hx1 hx2⟩

theorem turn_in {P T S : Int} (hP : 4 ≤ P ∧ P ≤ 10) (hT : 0 ≤ T ∧ T < P) (hS : 0 ≤ S ∧ S ≤ 149) {v : Vote} (h : VoteIn v) : VoteIn (turnVote P T S v) := by
  obtain ⟨⟨a1, a2⟩, ⟨b1, b2⟩, ⟨c1, c2⟩, ⟨d1, d2⟩, ⟨e1, e2⟩⟩ := h
  refine ⟨⟨a1, a2⟩, ?_, ?_, ⟨d1, d2⟩, ⟨e1, e2⟩⟩
  · show I64 (rot P T v.frm)
    unfold rot
    (repeat' split) <;> exact ⟨by omega, by omega⟩
  · show I64 (if v.slot = S then S + T else -1)
    split <;> exact ⟨by omega, by omega⟩

theorem Pair.alike {acc : Bytes → Bool} {P T S : Int} {c d : Core} {k : Nat} (h : Pair acc P T S c d k) : Alike (turnVote P T S) c d :=
  ⟨by rw [h.ro.decided, h.ro.value], h.ro.view, h.grown, h.bytes, h.says.symm⟩

theorem caps_new (w : World) (P T S : Int) : Caps ((((w.alloc (.cells #[.int .i64 P] 3)).alloc (.cells #[.int .i64 S] 3)).alloc (.cells #[.int .i64 T] 3)).alloc (.cells #[.func (.func 9) #[] #[.pointer (some ⟨w.heap.size, 0, none⟩), .pointer (some ⟨w.heap.size + 1 + 1, 0, none⟩)]] 25)) P T S w.heap.size (w.heap.size + 1 + 1) (w.heap.size + 1 + 1 + 1) (w.heap.size + 1) ∧
    Ext w ((((w.alloc (.cells #[.int .i64 P] 3)).alloc (.cells #[.int .i64 S] 3)).alloc (.cells #[.int .i64 T] 3)).alloc (.cells #[.func (.func 9) #[] #[.pointer (some ⟨w.heap.size, 0, none⟩), .pointer (some ⟨w.heap.size + 1 + 1, 0, none⟩)]] 25)) := by
  have h3 := three w (.cells #[.int .i64 P] 3) (.cells #[.int .i64 S] 3) (.cells #[.int .i64 T] 3)
  obtain ⟨W, hW⟩ : ∃ W, W = ((w.alloc (.cells #[.int .i64 P] 3)).alloc (.cells #[.int .i64 S] 3)).alloc (.cells #[.int .i64 T] 3) := ⟨_, rfl⟩
  have hsz : W.heap.size = w.heap.size + 1 + 1 + 1 := by rw [hW]; simp
  rw [← hW] at h3 ⊢
  have hx : Ext W (W.alloc (.cells #[.func (.func 9) #[] #[.pointer (some ⟨w.heap.size, 0, none⟩), .pointer (some ⟨w.heap.size + 1 + 1, 0, none⟩)]] 25)) := Ext.al (Ext.refl _) _
  refine ⟨⟨?_, ?_, ?_, ?_⟩, Ext.trans h3.2.2.2 hx⟩
  · rw [hx.block _ (by omega)]; exact h3.1
  · rw [hx.block _ (by omega)]; exact h3.2.2.1
  · rw [← hsz]; exact heap_alloc_new W _
  · rw [hx.block _ (by omega)]; exact h3.2.1

set_option maxRecDepth 100000 in
set_option maxHeartbeats 4000000 in
theorem rotated_long (n me slot by' : Int) (hn : 0 ≤ n ∧ n ≤ 255) (hme : 0 ≤ me ∧ me ≤ 255) (hslot : 0 ≤ slot ∧ slot ≤ 255) (hby : 0 ≤ by' ∧ by' ≤ 255) (l : List ActP) (A : Option Addr) (C : Nat) (w : World) (hl : ActsAt w A l) (hb : brief l = true) : Calls Try.prog 3 #[.int .u8 n, .int .u8 me, .int .u8 slot, .int .u8 by', .slice A l.length C] w (GivesBool true w) := by
  have hp0 : 0 < 4 + n % 7 := by omega
  have hp1 : 4 ≤ 4 + n % 7 ∧ 4 + n % 7 ≤ 10 := by omega
  have hp2 := Int.emod_nonneg me (show (4 + n % 7) ≠ 0 by omega)
  have hp3 := Int.emod_lt_of_pos me hp0
  have hp4 := Int.emod_nonneg by' (show (4 + n % 7) ≠ 0 by omega)
  have hp5 := Int.emod_lt_of_pos by' hp0
  have hp6 : 0 ≤ slot % 150 ∧ slot % 150 ≤ 149 := by omega
  have hp7 : 4 + n % 7 ≠ 0 := by omega
  have hlen := brief_len hb
  obtain ⟨hn0, hn1⟩ := hn
  obtain ⟨hm0, hm1⟩ := hme
  obtain ⟨hs0, hs1⟩ := hslot
  obtain ⟨hb0, hb1⟩ := hby
  obtain ⟨hp8, hp9⟩ := hp1
  obtain ⟨hp10, hp11⟩ := hp6
  have HL := Lib.hid hl
  have HBR := Lib.hid hb
  clear hl hb
  go_enter Try.func3, Try.ntmps3
  go_wp2_with (first
    | (go_at_call 7; refine (proposes_calls _).mono ?_; rintro e w1 ⟨rfl, hx1⟩)
    | (go_at_call 8; refine (brief_calls l A C _ (HL.out.ext hx1)).mono ?_; rw [HBR.out]; rintro e w2 ⟨rfl, hx2⟩; have HX2 := Lib.hid (Ext.trans hx1 hx2); clear hx1 hx2))
  obtain ⟨O, hO⟩ : ∃ O, O = 1 + me % (4 + n % 7) := ⟨_, rfl⟩
  rw [← hO]
  obtain ⟨T, hT⟩ : ∃ T, T = by' % (4 + n % 7) := ⟨_, rfl⟩
  rw [← hT]
  obtain ⟨P, hP⟩ : ∃ P, P = 4 + n % 7 := ⟨_, rfl⟩
  rw [← hP]
  obtain ⟨S, hS⟩ : ∃ S, S = slot % 150 := ⟨_, rfl⟩
  rw [← hS]
  have hP1 : 4 ≤ P := by omega
  have hP2 : P ≤ 10 := by omega
  have hT1 : 0 ≤ T := by omega
  have hT2 : T < P := by rw [hT, hP]; exact hp5
  have hS1 : 0 ≤ S := by omega
  have hS2 : S ≤ 149 := by omega
  have hO1 : 1 ≤ O := by omega
  have hO2 : O ≤ P := by rw [hO, hP]; omega
  have hok : Core.newOk P O S = true := by unfold Core.newOk; simp only [decide_eq_true_eq]; omega
  have hrin := (rot_in (n := P) (t := T) hT1 hT2 (i := O)).2 ⟨hO1, hO2⟩
  have hok2 : Core.newOk P (rot P T O) (S + T) = true := by unfold Core.newOk; simp only [decide_eq_true_eq]; omega
  have hcaps := caps_new w2 P T S
  obtain ⟨W, hW⟩ : ∃ W, W = ((((w2.alloc (.cells #[.int .i64 P] 3)).alloc (.cells #[.int .i64 S] 3)).alloc (.cells #[.int .i64 T] 3)).alloc (.cells #[.func (.func 9) #[] #[.pointer (some ⟨w2.heap.size, 0, none⟩), .pointer (some ⟨w2.heap.size + 1 + 1, 0, none⟩)]] 25)) := ⟨_, rfl⟩
  rw [← hW] at hcaps ⊢
  obtain ⟨hb, hhb⟩ : ∃ b, b = w2.heap.size + 1 + 1 + 1 := ⟨_, rfl⟩
  rw [← hhb] at hcaps ⊢
  obtain ⟨tb, htb⟩ : ∃ b, b = w2.heap.size + 1 + 1 := ⟨_, rfl⟩
  rw [← htb] at hcaps ⊢
  obtain ⟨sb, hsb⟩ : ∃ b, b = w2.heap.size + 1 := ⟨_, rfl⟩
  rw [← hsb] at hcaps ⊢
  obtain ⟨pb, hpb⟩ : ∃ b, b = w2.heap.size := ⟨_, rfl⟩
  rw [← hpb] at hcaps ⊢
  obtain ⟨hcaps, hxW⟩ := hcaps
  obtain ⟨x1, x2, x3, x4⟩ := hcaps.cells
  have hpl : pb < W.heap.size := World.block_lt_of_cell? W _ x1
  have htl : tb < W.heap.size := World.block_lt_of_cell? W _ x2
  have hhl : hb < W.heap.size := World.block_lt_of_cell? W _ x3
  have hsl : sb < W.heap.size := World.block_lt_of_cell? W _ x4
  have hsum : IntKind.i64.wrap (S + T) = S + T := IntWalk.i64_in _ (by omega)
  have hent9 : ∀ args w, (callFunc 9 args).run Try.prog w = .ok (.enter 9 args) w := enters_of Try.func9 (by kernel_rfl) rfl
  have HOK := Lib.hid hok
  have HOK2 := Lib.hid hok2
  have HCAP := Lib.hid hcaps
  have HXW := Lib.hid (Ext.trans HX2.out hxW)
  have HPI := Lib.hid (And.intro hP1 hP2)
  have HTI := Lib.hid (And.intro hT1 hT2)
  have HSI := Lib.hid (And.intro hS1 hS2)
  have HOI : Hid (I64 O) := Lib.hid ⟨by omega, by omega⟩
  clear hok hok2 hcaps hxW hW hhb htb hsb hpb hrin hO hT hP hS hp0 hp2 hp3 hp4 hp5 hp7 hp8 hp9 hp10 hp11
  refine wp_region_T [] (.pure 1 (.pure 6 (.take 0 (.take 2 (.take 4 (.take 5 (.take 8 (.take 9 (.pure 10 (.one 3 (.one 7 (.one 11 (.pure 12 (.pure 13 .nil)))))))))))))) (by kernel_rfl) (by kernel_rfl) ?_
  iterate 2 (refine' wpT_pure rfl rfl (fun w' => ?_) ?_; rotate_left 1; (focus ((try go_simp); (try go_bits); (first | done | with_reducible rfl))); simp only [Act.put, List.setIfInBounds_toArray, List.set_cons_zero, List.set_cons_succ])
  iterate 6 (first | (refine' wpT_take_dddd rfl rfl (fun w' hc hl hsz => ?_) ?_; rotate_left 1; (focus ((try go_simp); (try go_bits); (first | done | with_reducible rfl))); simp only [Act.put, List.setIfInBounds_toArray, List.set_cons_zero, List.set_cons_succ]) | (refine' wpT_take_ddd rfl rfl (fun w' hc hl hsz => ?_) ?_; rotate_left 1; (focus ((try go_simp); (try go_bits); (first | done | with_reducible rfl))); simp only [Act.put, List.setIfInBounds_toArray, List.set_cons_zero, List.set_cons_succ]) | (refine' wpT_take_dd rfl rfl (fun w' hc hl hsz => ?_) ?_; rotate_left 1; (focus ((try go_simp); (try go_bits); (first | done | with_reducible rfl))); simp only [Act.put, List.setIfInBounds_toArray, List.set_cons_zero, List.set_cons_succ]) | (refine' wpT_take_d rfl rfl (fun w' hc hl hsz => ?_) ?_; rotate_left 1; (focus ((try go_simp); (try go_bits); (first | done | with_reducible rfl))); simp only [Act.put, List.setIfInBounds_toArray, List.set_cons_zero, List.set_cons_succ]))
  (refine' wpT_pure rfl rfl (fun w' => ?_) ?_; rotate_left 1; (focus ((try go_simp); (try go_bits); (first | done | with_reducible rfl))); simp only [Act.put, List.setIfInBounds_toArray, List.set_cons_zero, List.set_cons_succ])
  refine wpT_one rfl rfl (fun K hK => ?_)
  go_wp2_with (go_at_call 11; refine (new_calls P O S 12 #[] _ HOK.out).mono ?_; rintro e w3 ⟨cb, L, rfl, hcb3, hmaps3, hacc3, hc3, hx3⟩)
  refine hK _ _ hx3 ?_
  clear hK K
  refine wpT_one rfl rfl (fun K hK => ?_)
  go_wp2_with (go_at_call 9; refine (who_calls P T O pb tb _ HPI.out HTI.out HOI.out (HCAP.out.ext (Ext.undrew hx3)).cells.1 (HCAP.out.ext (Ext.undrew hx3)).cells.2.1).mono ?_; rintro e w4 ⟨rfl, rfl⟩)
  refine hK _ _ (Ext.refl _) ?_
  clear hK K
  refine wpT_one rfl rfl (fun K hK => ?_)
  go_wp2_with (go_at_call 11; refine (new_calls P (rot P T O) (S + T) 12 #[] _ HOK2.out).mono ?_; rintro e w5 ⟨db, M, rfl, hcb5, hmaps5, hacc5, hc5, hx5⟩)
  refine hK _ _ hx5 ?_
  clear hK K
  iterate 2 (refine' wpT_pure rfl rfl (fun w' => ?_) ?_; rotate_left 1; (focus ((try go_simp); (try go_bits); (first | done | with_reducible rfl))); simp only [Act.put, List.setIfInBounds_toArray, List.set_cons_zero, List.set_cons_succ])
  refine wpT_nil ?_
  have hT := Two.start hc3 (Ext.undrew hx3) hcb3 hmaps3 hacc3 hc5 hx5 hcb5 hmaps5 hacc5
  have HT := Lib.hid hT
  have HPR : Hid (Pair welcomed P T S (Core.make P O S) (Core.make P (rot P T O) (S + T)) 0) := Lib.hid (Pair.make HTI.out.1 HTI.out.2 HOK.out HOK2.out)
  have HI : Hid (Is (Core.make P O S) P O S) := Lib.hid ⟨rfl, rfl, rfl⟩
  clear hT hc3 hx3 hcb3 hmaps3 hacc3 hc5 hx5 hcb5 hmaps5 hacc5 x1 x2 x3 x4 hpl htl hhl hsl
  have HENT := Lib.hid hent9
  clear hent9
  go_wp2
  go_loopw [66, 17, 18] (fun v vc vd wr => ∃ (i : Nat) (c d : Core) (cb' db' : Nat) (L' M' : Lay), i ≤ l.length ∧ v = .int .i64 i ∧ vc = .pointer (some ⟨cb', 0, none⟩) ∧ vd = .pointer (some ⟨db', 0, none⟩) ∧ Two W accW cb' db' c d L' M' wr ∧ Is c P O S ∧ Pair welcomed P T S c d i) (fun v _ _ _ => l.length - (intOf v).toNat)
  case atStart => exact ⟨0, _, _, cb, db, L, M, Nat.zero_le _, rfl, rfl, rfl, HT.out, HI.out, HPR.out⟩
  case round =>
    obtain ⟨i, c, d, cb', db', L', M', hi, rfl, rfl, rfl, hT, hI, hPR⟩ := hrel
    clear HT HI HPR
    by_cases hlt : i < l.length
    · obtain ⟨g, o, rfl, hact⟩ := HL.out i hlt
      obtain ⟨A1, C1, A2, C2, x0, x1, x2, x3, x4, x5, x6, x7, hbv, hba, hik, hiv⟩ := hact.ext (Ext.trans HXW.out hT.ext)
      obtain ⟨hla, hlv⟩ := brief_get HBR.out hlt
      obtain ⟨at', hat⟩ : ∃ a, a = l[i] := ⟨_, rfl⟩
      rw [← hat] at x0 x1 x2 x3 x4 x5 x6 x7 hbv hba hiv hla hlv
      obtain ⟨kd, hkd⟩ : ∃ kd, kd = at'.kind := ⟨_, rfl⟩
      rw [← hkd] at x0
      have hgl : g < wr.heap.size := World.block_lt_of_cell? wr _ x0
      have hT1 := hT.ext' (Ext.al (Ext.refl wr) (.cells #[.int .i64 kd, .int .i64 at'.vote.kind, .int .i64 at'.vote.frm, .int .i64 at'.vote.slot, .int .i64 at'.vote.view, .int .i64 at'.vote.valid, .slice A1 at'.vote.value.length C1, .slice A2 at'.value.length C2] 34))
      have hxb : Ext wr (wr.alloc (.cells #[.int .i64 kd, .int .i64 at'.vote.kind, .int .i64 at'.vote.frm, .int .i64 at'.vote.slot, .int .i64 at'.vote.view, .int .i64 at'.vote.valid, .slice A1 at'.vote.value.length C1, .slice A2 at'.value.length C2] 34)) := Ext.al (Ext.refl wr) _
      have hbox := heap_alloc_new wr (.cells #[.int .i64 kd, .int .i64 at'.vote.kind, .int .i64 at'.vote.frm, .int .i64 at'.vote.slot, .int .i64 at'.vote.view, .int .i64 at'.vote.valid, .slice A1 at'.vote.value.length C1, .slice A2 at'.value.length C2] 34)
      have hnb : ¬ Own cb' L' wr.heap.size := fun ho => by have := hT.hc.own_lt ho; omega
      have hnb' : ¬ Own db' M' wr.heap.size := fun ho => by have := hT.hd.own_lt ho; omega
      have HT := Lib.hid hT1
      have HBX := Lib.hid hbox
      have HNB := Lib.hid hnb
      have HNB' := Lib.hid hnb'
      have HBV := Lib.hid (hbv.ext hxb)
      have HBA := Lib.hid (hba.ext hxb)
      have HIV := Lib.hid hiv
      have HI := Lib.hid hI
      have HPR := Lib.hid hPR
      have hi2 : i ≤ 99 := by omega
      clear hact hT hT1 hxb hbox hnb hnb' hbv hba hiv hik hI hPR hat hkd
      by_cases k0 : kd = 0
      · subst k0
        have hpt := HPR.out.take (v := at'.vote) (by omega)
        have hit := HI.out.take HPR.out.fc welcomed (v := at'.vote) (by omega)
        obtain ⟨tk, htk⟩ : ∃ tk, tk = (c.take welcomed at'.vote).1 := ⟨_, rfl⟩
        obtain ⟨c1, hc1⟩ : ∃ c1, c1 = (c.take welcomed at'.vote).2 := ⟨_, rfl⟩
        obtain ⟨d1, hd1⟩ : ∃ d1, d1 = (d.take welcomed (turnVote P T S at'.vote)).2 := ⟨_, rfl⟩
        rw [← hc1, ← hd1, ← htk] at hpt
        rw [← hc1] at hit
        have HTC : Hid (c.take welcomed at'.vote = (tk, c1)) := Lib.hid (by rw [htk, hc1])
        have HTD : Hid (d.take welcomed (turnVote P T S at'.vote) = (tk, d1)) := Lib.hid (by rw [← hpt.1, hd1])
        have HPR1 := Lib.hid hpt.2
        have HI1 := Lib.hid hit
        have htn : (tk != tk) = false := by cases tk <;> rfl
        clear hpt hit htk hc1 hd1
        go_wp2
        obtain ⟨W1, hW1⟩ : ∃ W, W = wr.alloc (.cells #[.int .i64 0, .int .i64 at'.vote.kind, .int .i64 at'.vote.frm, .int .i64 at'.vote.slot, .int .i64 at'.vote.view, .int .i64 at'.vote.valid, .slice A1 at'.vote.value.length C1, .slice A2 at'.value.length C2] 34) := ⟨_, rfl⟩
        have hT1 := HT.out
        have hbx1 := HBX.out
        have hbv1 := HBV.out
        rw [← hW1] at hT1 hbx1 hbv1 ⊢
        have y1 : W1.cell? ⟨wr.heap.size, 1, none⟩ = some (.int .i64 at'.vote.kind) := (by simp [World.cell?, hbx1])
        have y2 : W1.cell? ⟨wr.heap.size, 2, none⟩ = some (.int .i64 at'.vote.frm) := (by simp [World.cell?, hbx1])
        have y3 : W1.cell? ⟨wr.heap.size, 3, none⟩ = some (.int .i64 at'.vote.slot) := (by simp [World.cell?, hbx1])
        have y4 : W1.cell? ⟨wr.heap.size, 4, none⟩ = some (.int .i64 at'.vote.view) := (by simp [World.cell?, hbx1])
        have y5 : W1.cell? ⟨wr.heap.size, 5, none⟩ = some (.int .i64 at'.vote.valid) := (by simp [World.cell?, hbx1])
        have y6 : W1.cell? ⟨wr.heap.size, 6, none⟩ = some (.slice A1 at'.vote.value.length C1) := (by simp [World.cell?, hbx1])
        have y7 : W1.cell? ⟨wr.heap.size, 7, none⟩ = some (.slice A2 at'.value.length C2) := (by simp [World.cell?, hbx1])
        have hwl : wr.heap.size < W1.heap.size := by rw [hW1]; simp
        have HT1 := Lib.hid (hT1.ext' (Ext.refl W1).dr)
        have HBX1 := Lib.hid hbx1
        have HBV1 := Lib.hid (hbv1.ext (Ext.refl W1).dr)
        have hent10 : ∀ args w, (callFunc 10 args).run Try.prog w = .ok (.enter 10 args) w := enters_of Try.func10 (by kernel_rfl) rfl
        clear hT1 hbx1 hbv1 hW1 HT HBX HBV
        refine DB.wp_region_T (wr.heap.size) [] (.pure 0 (.pure 1 (.pure 4 (.pure 5 (.pure 6 (.take 2 (.take 7 (.one 3 (.one 8 (.one 9 (.pure 10 .nil))))))))))) (by kernel_rfl) (by kernel_rfl) ?_
        iterate 5 (refine' DB.wpT_pure rfl rfl (fun w' => ?_) ?_; rotate_left 1; (focus ((try go_simp); (try go_bits); (first | done | with_reducible rfl))); simp only [Act.put, List.setIfInBounds_toArray, List.set_cons_zero, List.set_cons_succ])
        iterate 2 (first | (refine' DB.wpT_take_dddd rfl rfl (fun w' hc hl hsz => ?_) ?_; rotate_left 1; (focus ((try go_simp); (try go_bits); (first | done | with_reducible rfl))); simp only [Act.put, List.setIfInBounds_toArray, List.set_cons_zero, List.set_cons_succ]) | (refine' DB.wpT_take_ddd rfl rfl (fun w' hc hl hsz => ?_) ?_; rotate_left 1; (focus ((try go_simp); (try go_bits); (first | done | with_reducible rfl))); simp only [Act.put, List.setIfInBounds_toArray, List.set_cons_zero, List.set_cons_succ]) | (refine' DB.wpT_take_dd rfl rfl (fun w' hc hl hsz => ?_) ?_; rotate_left 1; (focus ((try go_simp); (try go_bits); (first | done | with_reducible rfl))); simp only [Act.put, List.setIfInBounds_toArray, List.set_cons_zero, List.set_cons_succ]) | (refine' DB.wpT_take_d rfl rfl (fun w' hc hl hsz => ?_) ?_; rotate_left 1; (focus ((try go_simp); (try go_bits); (first | done | with_reducible rfl))); simp only [Act.put, List.setIfInBounds_toArray, List.set_cons_zero, List.set_cons_succ]))
        refine DB.wpT_one rfl rfl (fun K hK => ?_)
        go_wp2_with (go_at_call 13; refine (take_calls cb' c L' welcomed [] 12 #[] at'.vote A1 C1 _ HT1.out.hc HPR.out.fc.wf (by rw [HT1.out.accc]; exact accW_at _) no_sep HBV1.out (by omega) HIV.out).mono ?_; rw [HTC.out]; rintro e w5 ⟨L5, rfl, hc5, hm5⟩)
        have hT5 := HT1.out.left hc5 hm5
        have hl5 := Nat.lt_of_lt_of_le hwl hm5.turn.size
        refine hK _ _ ⟨hm5.turn.block wr.heap.size hwl HNB.out, hm5.turn.size⟩ ?_
        clear hK K
        refine DB.wpT_one rfl rfl (fun K hK => ?_)
        go_simp
        refine ((as_fn HPI.out HTI.out HSI.out (HCAP.out.ext hT5.ext)).call HIV.out (by omega) (HBV1.out.turn hm5.turn)).mono ?_
        rintro e w6 ⟨A6, C6, rfl, hb6, hx6⟩
        go_wp2
        have hT6 := hT5.ext' hx6
        have hl6 := Nat.lt_of_lt_of_le hl5 hx6.size
        refine hK _ _ ⟨hx6.block wr.heap.size hl5, hx6.size⟩ ?_
        clear hK K
        refine DB.wpT_one rfl rfl (fun K hK => ?_)
        go_wp2_with (go_at_call 13; refine (take_calls db' d M' welcomed [] 12 #[] (turnVote P T S at'.vote) A6 C6 _ hT6.hd HPR.out.fd.wf (by rw [hT6.accd]; exact accW_at _) no_sep hb6 (by show at'.vote.value.length ≤ 1000000; omega) (turn_in HPI.out HTI.out HSI.out HIV.out)).mono ?_; rw [HTD.out]; rintro e w7 ⟨M7, rfl, hc7, hm7⟩)
        refine hK _ _ ⟨hm7.turn.block wr.heap.size hl6 HNB'.out, hm7.turn.size⟩ ?_
        clear hK K
        (refine' DB.wpT_pure rfl rfl (fun w' => ?_) ?_; rotate_left 1; (focus ((try go_simp); (try go_bits); (first | done | with_reducible rfl))); simp only [Act.put, List.setIfInBounds_toArray, List.set_cons_zero, List.set_cons_succ])
        refine DB.wpT_nil ?_
        have HT7 := Lib.hid (hT6.right hc7 hm7)
        clear hT6 hT5 hc7 hm7 hc5 hm5 hb6 hx6 hl5 hl6 hent10 HBV1 HT1
        go_wp2_with (first
          | (go_at_call 18; refine (cores_calls cb' db' c1 d1 L5 M7 (asV hb sb tb) (turnVote P T S) [pb, tb, hb, sb] 10 #[.pointer (some ⟨hb, 0, none⟩), .pointer (some ⟨sb, 0, none⟩), .pointer (some ⟨tb, 0, none⟩)] _ HT7.out.hc HT7.out.hd HPR1.out.fc.wf HPR1.out.fd.wf (as_fn HPI.out HTI.out HSI.out (HCAP.out.ext HT7.out.ext)) HPR1.out.alike (by have := HPR1.out.fc.bytes_len (by omega); omega)).mono ?_; rintro e wz ⟨rfl, hxz⟩))
        exact ⟨⟨i + 1, _, _, _, _, _, _, by omega, by go_num, rfl, rfl, HT7.out.ext' hxz, HI1.out, HPR1.out⟩, by simp [intOf]; omega⟩
      · by_cases k1 : kd = 1
        · subst k1
          obtain ⟨c1, hc1⟩ : ∃ c1, c1 = c.doWish welcomed at'.value := ⟨_, rfl⟩
          obtain ⟨d1, hd1⟩ : ∃ d1, d1 = d.doWish welcomed at'.value := ⟨_, rfl⟩
          have HC1 := Lib.hid hc1
          have HD1 := Lib.hid hd1
          have HPR1 := Lib.hid (show Pair welcomed P T S c1 d1 (i + 1) by rw [hc1, hd1]; exact HPR.out.wish (by omega))
          have HI1 := Lib.hid (show Is c1 P O S by rw [hc1]; exact HI.out.wish HPR.out.fc welcomed (by omega))
          have tok1 : True := trivial
          clear hc1 hd1
          go_wp2_with (first
            | (go_at_call 14; clear tok1; refine (wish_calls cb' c L' welcomed [] 12 #[] _ HT.out.hc HPR.out.fc.wf (by rw [HT.out.accc]; exact accW_at _) no_sep _ _ at'.value HBA.out).mono ?_; rw [← HC1.out]; rintro e w5 ⟨⟨_, rfl⟩, L5, hc5, hm5⟩; have hb5 : w5.heap[wr.heap.size]? = _ := (hm5.turn.block wr.heap.size (by simp) HNB.out).trans HBX.out; have y1_5 : w5.cell? ⟨wr.heap.size, 1, none⟩ = some (.int .i64 at'.vote.kind) := (by simp [World.cell?, hb5]); have y2_5 : w5.cell? ⟨wr.heap.size, 2, none⟩ = some (.int .i64 at'.vote.frm) := (by simp [World.cell?, hb5]); have y3_5 : w5.cell? ⟨wr.heap.size, 3, none⟩ = some (.int .i64 at'.vote.slot) := (by simp [World.cell?, hb5]); have y4_5 : w5.cell? ⟨wr.heap.size, 4, none⟩ = some (.int .i64 at'.vote.view) := (by simp [World.cell?, hb5]); have y5_5 : w5.cell? ⟨wr.heap.size, 5, none⟩ = some (.int .i64 at'.vote.valid) := (by simp [World.cell?, hb5]); have y6_5 : w5.cell? ⟨wr.heap.size, 6, none⟩ = some (.slice A1 at'.vote.value.length C1) := (by simp [World.cell?, hb5]); have y7_5 : w5.cell? ⟨wr.heap.size, 7, none⟩ = some (.slice A2 at'.value.length C2) := (by simp [World.cell?, hb5]); have hl5 : wr.heap.size < w5.heap.size := (Array.getElem?_eq_some_iff.1 hb5).1; have HT5 := Lib.hid (HT.out.left hc5 hm5); have HV5 := Lib.hid (HBA.out.turn hm5.turn); clear hc5 hm5 hb5)
            | (go_at_call 14; refine (wish_calls db' d M' welcomed [] 12 #[] _ HT5.out.hd HPR.out.fd.wf (by rw [HT5.out.accd]; exact accW_at _) no_sep _ _ at'.value HV5.out).mono ?_; rw [← HD1.out]; rintro e w6 ⟨⟨_, rfl⟩, M6, hc6, hm6⟩; have HT6 := Lib.hid (HT5.out.right hc6 hm6); clear hc6 hm6)
            | (go_at_call 18; refine (cores_calls cb' db' c1 d1 L5 M6 (asV hb sb tb) (turnVote P T S) [pb, tb, hb, sb] 10 #[.pointer (some ⟨hb, 0, none⟩), .pointer (some ⟨sb, 0, none⟩), .pointer (some ⟨tb, 0, none⟩)] _ HT6.out.hc HT6.out.hd HPR1.out.fc.wf HPR1.out.fd.wf (as_fn HPI.out HTI.out HSI.out (HCAP.out.ext HT6.out.ext)) HPR1.out.alike (by have := HPR1.out.fc.bytes_len (by omega); omega)).mono ?_; rintro e wz ⟨rfl, hxz⟩))
          exact ⟨⟨i + 1, _, _, _, _, _, _, by omega, by go_num, rfl, rfl, HT6.out.ext' hxz, HI1.out, HPR1.out⟩, by simp [intOf]; omega⟩
        · by_cases k2 : kd = 2
          · subst k2
            obtain ⟨c1, hc1⟩ : ∃ c1, c1 = c.late welcomed := ⟨_, rfl⟩
            obtain ⟨d1, hd1⟩ : ∃ d1, d1 = d.late welcomed := ⟨_, rfl⟩
            have HC1 := Lib.hid hc1
            have HD1 := Lib.hid hd1
            have HPR1 := Lib.hid (show Pair welcomed P T S c1 d1 (i + 1) by rw [hc1, hd1]; exact HPR.out.late)
            have HI1 := Lib.hid (show Is c1 P O S by rw [hc1]; exact HI.out.late HPR.out.fc welcomed)
            have tok1 : True := trivial
            clear hc1 hd1
            go_wp2_with (first
              | (go_at_call 15; clear tok1; refine (late_calls cb' c L' welcomed [] 12 #[] _ HT.out.hc HPR.out.fc.wf (by rw [HT.out.accc]; exact accW_at _) no_sep).mono ?_; rw [← HC1.out]; rintro e w5 ⟨⟨_, rfl⟩, L5, hc5, hm5⟩; have HT5 := Lib.hid (HT.out.left hc5 hm5); clear hc5 hm5)
              | (go_at_call 15; refine (late_calls db' d M' welcomed [] 12 #[] _ HT5.out.hd HPR.out.fd.wf (by rw [HT5.out.accd]; exact accW_at _) no_sep).mono ?_; rw [← HD1.out]; rintro e w6 ⟨⟨_, rfl⟩, M6, hc6, hm6⟩; have HT6 := Lib.hid (HT5.out.right hc6 hm6); clear hc6 hm6)
              | (go_at_call 18; refine (cores_calls cb' db' c1 d1 L5 M6 (asV hb sb tb) (turnVote P T S) [pb, tb, hb, sb] 10 #[.pointer (some ⟨hb, 0, none⟩), .pointer (some ⟨sb, 0, none⟩), .pointer (some ⟨tb, 0, none⟩)] _ HT6.out.hc HT6.out.hd HPR1.out.fc.wf HPR1.out.fd.wf (as_fn HPI.out HTI.out HSI.out (HCAP.out.ext HT6.out.ext)) HPR1.out.alike (by have := HPR1.out.fc.bytes_len (by omega); omega)).mono ?_; rintro e wz ⟨rfl, hxz⟩))
            exact ⟨⟨i + 1, _, _, _, _, _, _, by omega, by go_num, rfl, rfl, HT6.out.ext' hxz, HI1.out, HPR1.out⟩, by simp [intOf]; omega⟩
          · by_cases k3 : kd = 3
            · subst k3
              have HPR1 := Lib.hid (show Pair welcomed P T S c.anew d.anew (i + 1) from (by have h := HPR.out.anew; exact ⟨h.fc.mono (by omega), h.fd.mono (by omega), h.ro, h.rest, h.slot, h.at0⟩))
              have HI1 := Lib.hid HI.out.anew
              have hbl : c.bytes.length ≤ 1000000 := by have := HPR.out.fc.bytes_len (by omega); omega
              have hbl2 : d.bytes.length ≤ 1000000 := by have := HPR.out.fd.bytes_len (by omega); omega
              go_wp2
              obtain ⟨W1, hW1⟩ : ∃ W, W = wr.alloc (.cells #[.int .i64 3, .int .i64 at'.vote.kind, .int .i64 at'.vote.frm, .int .i64 at'.vote.slot, .int .i64 at'.vote.view, .int .i64 at'.vote.valid, .slice A1 at'.vote.value.length C1, .slice A2 at'.value.length C2] 34) := ⟨_, rfl⟩
              have hT1 := HT.out
              rw [← hW1] at hT1 ⊢
              obtain ⟨q1, q2, q3, q4⟩ := (HCAP.out.ext hT1.ext).cells
              have hpl : pb < W1.heap.size := World.block_lt_of_cell? W1 _ q1
              have htl : tb < W1.heap.size := World.block_lt_of_cell? W1 _ q2
              have hhl : hb < W1.heap.size := World.block_lt_of_cell? W1 _ q3
              have hsl : sb < W1.heap.size := World.block_lt_of_cell? W1 _ q4
              have HT1 := Lib.hid (hT1.ext' (Ext.refl W1).dr)
              clear hT1 hW1 HT HBX HBV HBA
              refine wp_region_T [] (.pure 1 (.pure 3 (.take 0 (.take 2 (.one 4 (.one 5 (.pure 6 (.pure 7 (.pure 8 (.pure 9 (.pure 10 .nil))))))))))) (by kernel_rfl) (by kernel_rfl) ?_
              iterate 2 (refine' wpT_pure rfl rfl (fun w' => ?_) ?_; rotate_left 1; (focus ((try go_simp); (try go_bits); (first | done | with_reducible rfl))); simp only [Act.put, List.setIfInBounds_toArray, List.set_cons_zero, List.set_cons_succ])
              iterate 2 (first | (refine' wpT_take_dddd rfl rfl (fun w' hc hl hsz => ?_) ?_; rotate_left 1; (focus ((try go_simp); (try go_bits); (first | done | with_reducible rfl))); simp only [Act.put, List.setIfInBounds_toArray, List.set_cons_zero, List.set_cons_succ]) | (refine' wpT_take_ddd rfl rfl (fun w' hc hl hsz => ?_) ?_; rotate_left 1; (focus ((try go_simp); (try go_bits); (first | done | with_reducible rfl))); simp only [Act.put, List.setIfInBounds_toArray, List.set_cons_zero, List.set_cons_succ]) | (refine' wpT_take_dd rfl rfl (fun w' hc hl hsz => ?_) ?_; rotate_left 1; (focus ((try go_simp); (try go_bits); (first | done | with_reducible rfl))); simp only [Act.put, List.setIfInBounds_toArray, List.set_cons_zero, List.set_cons_succ]) | (refine' wpT_take_d rfl rfl (fun w' hc hl hsz => ?_) ?_; rotate_left 1; (focus ((try go_simp); (try go_bits); (first | done | with_reducible rfl))); simp only [Act.put, List.setIfInBounds_toArray, List.set_cons_zero, List.set_cons_succ]))
              refine wpT_one rfl rfl (fun K hK => ?_)
              go_wp2_with (go_at_call 17; refine (bytes_calls cb' c L' _ HT1.out.hc HPR.out.fc.wf hbl).mono ?_; rintro e w5 ⟨v5, rfl, hb5, hx5⟩; obtain ⟨A5, C5, rfl, _⟩ := id hb5)
              refine hK _ _ hx5 ?_
              clear hK K
              refine wpT_one rfl rfl (fun K hK => ?_)
              go_wp2_with (go_at_call 16; refine (show Calls Try.prog 16 #[.int .i64 P, .int .i64 O, .int .i64 S, .func (.func 12) #[] #[], .slice A5 c.bytes.length C5] _ (OfPost accW c.anew _) from (by have h := of_calls c i HPR.out.fc (by omega) 12 #[] A5 C5 c.bytes rfl _ hb5; rw [HI.out.n, HI.out.me, HI.out.slot] at h; exact h)).mono ?_; rintro e w6 ⟨cb6, L6, rfl, hcb6, hmp6, hac6, hc6, hx6⟩)
              refine hK _ _ hx6 ?_
              clear hK K
              iterate 5 (refine' wpT_pure rfl rfl (fun w' => ?_) ?_; rotate_left 1; (focus ((try go_simp); (try go_bits); (first | done | with_reducible rfl))); simp only [Act.put, List.setIfInBounds_toArray, List.set_cons_zero, List.set_cons_succ])
              refine wpT_nil ?_
              have hT6 := (HT1.out.ext' hx5).anewLeft hc6 hcb6 hmp6 hac6 hx6
              obtain ⟨r1, r2, r3, r4⟩ := (HCAP.out.ext hT6.ext).cells
              have hx56 := Ext.trans (Ext.undrew hx5) hx6
              have hpl6 := Nat.lt_of_lt_of_le hpl hx56.size
              have htl6 := Nat.lt_of_lt_of_le htl hx56.size
              have hhl6 := Nat.lt_of_lt_of_le hhl hx56.size
              have hsl6 := Nat.lt_of_lt_of_le hsl hx56.size
              have HT6 := Lib.hid (hT6.ext' (Ext.refl w6).dr)
              have hent9 := HENT.out
              clear hT6 hx56 hx5 hx6 hc6 hcb6 hmp6 hac6 hb5 HT1 q1 q2 q3 q4 hpl htl hhl hsl
              go_wp2
              refine wp_region_T [] (.pure 2 (.pure 7 (.take 0 (.take 1 (.take 4 (.take 5 (.pure 6 (.one 3 (.one 8 (.one 9 (.pure 10 (.pure 11 (.pure 12 (.pure 13 (.pure 14 .nil))))))))))))))) (by kernel_rfl) (by kernel_rfl) ?_
              iterate 2 (refine' wpT_pure rfl rfl (fun w' => ?_) ?_; rotate_left 1; (focus ((try go_simp); (try go_bits); (first | done | with_reducible rfl))); simp only [Act.put, List.setIfInBounds_toArray, List.set_cons_zero, List.set_cons_succ])
              iterate 4 (first | (refine' wpT_take_dddd rfl rfl (fun w' hc hl hsz => ?_) ?_; rotate_left 1; (focus ((try go_simp); (try go_bits); (first | done | with_reducible rfl))); simp only [Act.put, List.setIfInBounds_toArray, List.set_cons_zero, List.set_cons_succ]) | (refine' wpT_take_ddd rfl rfl (fun w' hc hl hsz => ?_) ?_; rotate_left 1; (focus ((try go_simp); (try go_bits); (first | done | with_reducible rfl))); simp only [Act.put, List.setIfInBounds_toArray, List.set_cons_zero, List.set_cons_succ]) | (refine' wpT_take_dd rfl rfl (fun w' hc hl hsz => ?_) ?_; rotate_left 1; (focus ((try go_simp); (try go_bits); (first | done | with_reducible rfl))); simp only [Act.put, List.setIfInBounds_toArray, List.set_cons_zero, List.set_cons_succ]) | (refine' wpT_take_d rfl rfl (fun w' hc hl hsz => ?_) ?_; rotate_left 1; (focus ((try go_simp); (try go_bits); (first | done | with_reducible rfl))); simp only [Act.put, List.setIfInBounds_toArray, List.set_cons_zero, List.set_cons_succ]))
              (refine' wpT_pure rfl rfl (fun w' => ?_) ?_; rotate_left 1; (focus ((try go_simp); (try go_bits); (first | done | with_reducible rfl))); simp only [Act.put, List.setIfInBounds_toArray, List.set_cons_zero, List.set_cons_succ])
              refine wpT_one rfl rfl (fun K hK => ?_)
              go_wp2_with (go_at_call 9; refine (who_calls P T O pb tb _ HPI.out HTI.out HOI.out (HCAP.out.ext HT6.out.ext).cells.1 (HCAP.out.ext HT6.out.ext).cells.2.1).mono ?_; rintro e w7 ⟨rfl, rfl⟩)
              refine hK _ _ (Ext.refl _) ?_
              clear hK K
              refine wpT_one rfl rfl (fun K hK => ?_)
              go_wp2_with (go_at_call 17; refine (bytes_calls db' d M' _ HT6.out.hd HPR.out.fd.wf hbl2).mono ?_; rintro e w8 ⟨v8, rfl, hb8, hx8⟩; obtain ⟨A8, C8, rfl, _⟩ := id hb8)
              refine hK _ _ hx8 ?_
              clear hK K
              refine wpT_one rfl rfl (fun K hK => ?_)
              go_wp2_with (go_at_call 16; refine (show Calls Try.prog 16 #[.int .i64 P, .int .i64 (rot P T O), .int .i64 (S + T), .func (.func 12) #[] #[], .slice A8 d.bytes.length C8] _ (OfPost accW d.anew _) from (by have h := of_calls d i HPR.out.fd (by omega) 12 #[] A8 C8 d.bytes rfl _ hb8; rw [HPR.out.ro.dn, HPR.out.ro.me, HPR.out.ro.slot, HI.out.me, HI.out.slot] at h; exact h)).mono ?_; rintro e w9 ⟨db9, M9, rfl, hcb9, hmp9, hac9, hc9, hx9⟩)
              refine hK _ _ hx9 ?_
              clear hK K
              iterate 5 (refine' wpT_pure rfl rfl (fun w' => ?_) ?_; rotate_left 1; (focus ((try go_simp); (try go_bits); (first | done | with_reducible rfl))); simp only [Act.put, List.setIfInBounds_toArray, List.set_cons_zero, List.set_cons_succ])
              refine wpT_nil ?_
              have HT9 := Lib.hid ((HT6.out.ext' hx8).anewRight hc9 hcb9 hmp9 hac9 hx9)
              clear HT6 hx8 hx9 hc9 hcb9 hmp9 hac9 hb8 hent9 r1 r2 r3 r4 hpl6 htl6 hhl6 hsl6
              go_wp2_with (first
                | (go_at_call 18; refine (cores_calls cb6 db9 c.anew d.anew L6 M9 (asV hb sb tb) (turnVote P T S) [pb, tb, hb, sb] 10 #[.pointer (some ⟨hb, 0, none⟩), .pointer (some ⟨sb, 0, none⟩), .pointer (some ⟨tb, 0, none⟩)] _ HT9.out.hc HT9.out.hd HPR1.out.fc.wf HPR1.out.fd.wf (as_fn HPI.out HTI.out HSI.out (HCAP.out.ext HT9.out.ext)) HPR1.out.alike (by have := HPR1.out.fc.bytes_len (by omega); omega)).mono ?_; rintro e wz ⟨rfl, hxz⟩))
              exact ⟨⟨i + 1, _, _, _, _, _, _, by omega, by go_num, rfl, rfl, HT9.out.ext' hxz, HI1.out, HPR1.out⟩, by simp [intOf]; omega⟩
            · have t0 : (kd == 0) = false := by simpa using k0
              have t1' : (kd == 1) = false := by simpa using k1
              have t2 : (kd == 2) = false := by simpa using k2
              have t3 : (kd == 3) = false := by simpa using k3
              have HPR1 := Lib.hid (show Pair welcomed P T S c d (i + 1) from (by have h := HPR.out; exact ⟨h.fc.mono (by omega), h.fd.mono (by omega), h.ro, h.rest, h.slot, h.at0⟩))
              clear k0 k1 k2 k3
              go_wp2_with (first
                | (go_at_call 18; refine (cores_calls cb' db' c d L' M' (asV hb sb tb) (turnVote P T S) [pb, tb, hb, sb] 10 #[.pointer (some ⟨hb, 0, none⟩), .pointer (some ⟨sb, 0, none⟩), .pointer (some ⟨tb, 0, none⟩)] _ HT.out.hc HT.out.hd HPR.out.fc.wf HPR.out.fd.wf (as_fn HPI.out HTI.out HSI.out (HCAP.out.ext HT.out.ext)) HPR.out.alike (by have := HPR.out.fc.bytes_len (by omega); omega)).mono ?_; rintro e wz ⟨rfl, hxz⟩))
              exact ⟨⟨i + 1, _, _, _, _, _, _, by omega, by go_num, rfl, rfl, HT.out.ext' hxz, HI.out, HPR1.out⟩, by simp [intOf]; omega⟩
    · have HT := Lib.hid hT
      have HPR := Lib.hid hPR
      clear hT hI hPR
      go_wp2_with (first
        | (go_at_call 18; refine (cores_calls cb' db' c d L' M' (asV hb sb tb) (turnVote P T S) [pb, tb, hb, sb] 10 #[.pointer (some ⟨hb, 0, none⟩), .pointer (some ⟨sb, 0, none⟩), .pointer (some ⟨tb, 0, none⟩)] _ HT.out.hc HT.out.hd HPR.out.fc.wf HPR.out.fd.wf (as_fn HPI.out HTI.out HSI.out (HCAP.out.ext HT.out.ext)) HPR.out.alike (by have := HPR.out.fc.bytes_len (by omega); omega)).mono ?_; rintro e wz ⟨rfl, hxz⟩))
      go_ret
      exact ⟨rfl, Ext.trans HXW.out (HT.out.ext' hxz).ext⟩

theorem rotated_calls (n me slot by' : Int) (hn : 0 ≤ n ∧ n ≤ 255) (hme : 0 ≤ me ∧ me ≤ 255) (hslot : 0 ≤ slot ∧ slot ≤ 255) (hby : 0 ≤ by' ∧ by' ≤ 255) (l : List ActP) (A : Option Addr) (C : Nat) (w : World) (hl : ActsAt w A l) : Calls Try.prog 3 #[.int .u8 n, .int .u8 me, .int .u8 slot, .int .u8 by', .slice A l.length C] w (GivesBool true w) := by
  cases hb : brief l with
  | false => exact rotated_brief n me slot by' hn hme hslot hby l A C w hl hb
  | true => exact rotated_long n me slot by' hn hme hslot hby l A C w hl hb
end Go.Proofs.Ytkpllkjionegeaa

/- THE STATEMENT WholeRotated: with all peers some places further on, going round, and the slot as many further on, a core does the same and has the same bytes. It holds for every input. -/
namespace Go.Proofs.Ytkpllkjionegeaa
open Go Go.RowKit Go.ChangeShapes Go.WideShapes Go.ChangeAt

set_option maxRecDepth 100000 in
theorem rotated_lifted (os : Os) (started : os.Started) (H : Type) (enc : TypeId × Value → H) :
    ReturnsInHanded {} Try.checked os 3 .any (Rows.wholeRotatedSpec.pre6 enc Try.prog Try.f3 Rows.wholeRotatedRow.domain false) (Rows.wholeRotatedSpec.post enc Try.prog Try.f3 false true false false) := by
  refine returnsInHanded_of_change (C := Try.checked) ownG started (by kernel_rfl) Try.func3
    (ChangeSpec.witness6 (enc := enc) (C := Try.checked) false ⟨#[], #[.int .u8 0, .int .u8 0, .int .u8 0, .int .u8 0, .slice none 0 0], []⟩ 8 (by kernel_rfl) (by kernel_rfl) (by kernel_rfl) (by kernel_rfl)) ?_
  intro W base args ds gs before hval0 hW hcnd _
  have hval : ∀ (j : Nat) t v, Try.f3.params[j]? = some t → args[j]? = some v → Value.okWide Try.prog W .any base t v := hval0
  have hW' := hW
  obtain ⟨p, q, hA0, hV, rfl, hfz, hnd⟩ := hW
  have hA : DataW.TrodAll enc Try.prog W 0 (fun _ => true) true Try.f3.params.toList args.toList ds p := hA0
  rw [Try.params3] at hA hval
  obtain ⟨v0, vs0, d0, ds0, p0, q0, hargs, rfl, rfl, h0, r0⟩ := trodAll_cons hA
  obtain ⟨v1, vs1, d1, ds1, p1, q1, rfl, rfl, rfl, h1, r1⟩ := trodAll_cons r0
  obtain ⟨v2, vs2, d2, ds2, p2, q2, rfl, rfl, rfl, h2, r2⟩ := trodAll_cons r1
  obtain ⟨v3, vs3, d3, ds3, p3, q3, rfl, rfl, rfl, h3, r3⟩ := trodAll_cons r2
  obtain ⟨v4, vs4, d4, ds4, p4, q4, rfl, rfl, rfl, h4, r4⟩ := trodAll_cons r3
  obtain ⟨rfl, rfl, rfl⟩ := trodAll_nil r4
  obtain rfl : args = #[v0, v1, v2, v3, v4] := by cases args; simp_all
  obtain ⟨rfl, rfl⟩ := trodVars_none hV
  obtain ⟨a0, rfl, rfl, rfl, w0⟩ := open_int Try.underlying5 (hval 0 5 v0 rfl rfl) h0
  obtain ⟨a1, rfl, rfl, rfl, w1⟩ := open_int Try.underlying5 (hval 1 5 v1 rfl rfl) h1
  obtain ⟨a2, rfl, rfl, rfl, w2⟩ := open_int Try.underlying5 (hval 2 5 v2 rfl rfl) h2
  obtain ⟨a3, rfl, rfl, rfl, w3⟩ := open_int Try.underlying5 (hval 3 5 v3 rfl rfl) h3
  have k4 := h4
  have lt4 : ∀ x ∈ p4, x.block < W.heap.size := by obtain ⟨m, hm⟩ := k4; exact DataW.trod_lt m _ _ _ hm
  obtain ⟨A4, N4, C4, rfl⟩ := okWide_slice Try.underlying22 (hval 4 22 v4 rfl rfl)
  obtain ⟨l, hl4, hacts⟩ : ∃ l : List ActP, N4 = l.length ∧ ActsAt W A4 l := by
    obtain ⟨fuel, hf⟩ := h4
    obtain ⟨A, C, l, he, ha⟩ := acts_of_trod (by simpa [Value.cells] using hf)
    cases he
    exact ⟨l, rfl, ha⟩
  subst hl4
  clear hA0 hval0
  refine (rotated_calls a0 a1 a2 a3 (u8_wf w0) (u8_wf w1) (u8_wf w2) (u8_wf w3) l A4 C4 W hacts).mono fun e W' ⟨he, bel⟩ => ?_
  subst he
  exact ⟨_, rfl, _, _, _, [], _, [], hW', trodAll_mk1 (shut_bool Try.underlying4 _), (trodAll_cons_mk (shut_int Try.underlying5 w0) (trodAll_cons_mk (shut_int Try.underlying5 w1) (trodAll_cons_mk (shut_int Try.underlying5 w2) (trodAll_cons_mk (shut_int Try.underlying5 w3) (trodAll_cons_mk (Below.trod laidOut (by kernel_rfl) (of_decide_eq_true (by kernel_rfl)) k4 bel lt4) trodAll_mk0))))), rfl, bel.frame _, fun h => by cases h⟩

theorem rotated_over : Rows.wholeRotatedRow.holds Try.pinned (OpenSpec.ofChange Rows.wholeRotatedSpec) :=
  OpenClaim.holds_of_wide 3 Try.f3 rfl rfl rfl rfl rfl rfl rfl ⟨rfl, rfl, rfl, rfl, rfl⟩ rfl rfl rfl rfl rfl (by kernel_rfl) Try.func3 (by kernel_rfl)
    (of_decide_eq_true (by kernel_rfl)) (by unfold Func.isWrapper; first | (rw [if_pos (by decide +kernel)]; kernel_rfl) | (rw [if_neg (by decide +kernel)]; exact ⟨rfl, rfl⟩))
    (fun os started H enc _ => rotated_lifted os started H enc)

theorem wholeRotated_holds : Rows.WholeRotatedSaid := rotated_over
#print axioms wholeRotated_holds
end Go.Proofs.Ytkpllkjionegeaa
