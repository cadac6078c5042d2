/- Maps as rising lists; what a core of the vote is and does, in plain words; how it lies in memory; the walk of a region that draws its order. -/
import Derived.OrdersHeld
import Derived.Below
import Derived.Deep.RegionHeld3
import Derived.Deep.Draws
import Derived.Laws.AppendOwn
import Derived.MapKept
import Derived.Maps.RangeRun
import Derived.ChangeMaps5
import Derived.WideKeyElems
import Derived.Test.YtkpllkjionegeaaRows
import Derived.WalkKit
import Derived.KernelRfl
set_option linter.unusedVariables false
set_option linter.unusedSimpArgs false
/- Maps from numbers as lists that rise by their keys: look up, put, and the laws between them. No program. -/
namespace Go.Proofs.Ytkpllkjionegeaa

/-- a map from numbers: a list of pairs, rising by the first -/
abbrev AL (α : Type) := List (Int × α)

namespace AL
variable {α β : Type}

def get? : AL α → Int → Option α
  | [], _ => none
  | (k, v) :: r, x => if k = x then some v else get? r x

def put : AL α → Int → α → AL α
  | [], x, u => [(x, u)]
  | (k, v) :: r, x, u => if x < k then (x, u) :: (k, v) :: r else if x = k then (x, u) :: r else (k, v) :: put r x u

def keys (m : AL α) : List Int := m.map (·.1)
def vals (m : AL α) : List α := m.map (·.2)

/-- the keys rise -/
def Rising (m : AL α) : Prop := m.Pairwise (fun p q => p.1 < q.1)

theorem rising_nil : Rising ([] : AL α) := List.Pairwise.nil

theorem get?_none_of_lt : ∀ {m : AL α} {x : Int}, (∀ p ∈ m, x < p.1) → get? m x = none
  | [], _, _ => rfl
  | (k, v) :: r, x, h => by
    have h1 := h (k, v) (by simp)
    simp only [get?]
    rw [if_neg (by simp at h1; omega)]
    exact get?_none_of_lt fun p hp => h p (by simp [hp])

theorem get?_mem : ∀ {m : AL α} {x : Int} {v : α}, get? m x = some v → (x, v) ∈ m
  | [], _, _, h => by simp [get?] at h
  | (k, u) :: r, x, v, h => by
    simp only [get?] at h
    split at h
    · rename_i he; subst he; cases h; simp
    · exact List.mem_cons_of_mem _ (get?_mem h)

theorem get?_of_mem : ∀ {m : AL α} {x : Int} {v : α}, Rising m → (x, v) ∈ m → get? m x = some v
  | [], _, _, _, h => by cases h
  | (k, u) :: r, x, v, hr, h => by
    obtain ⟨h1, h2⟩ := List.pairwise_cons.1 hr
    simp only [get?]
    rcases List.mem_cons.1 h with h | h
    · cases h; simp
    · have := h1 _ h
      rw [if_neg (by simp at this; omega)]
      exact get?_of_mem h2 h

theorem mem_iff {m : AL α} (hr : Rising m) {x : Int} {v : α} : (x, v) ∈ m ↔ get? m x = some v := ⟨get?_of_mem hr, get?_mem⟩

theorem mem_put {p : Int × α} : ∀ {m : AL α} {x : Int} {u : α}, p ∈ put m x u → p = (x, u) ∨ p ∈ m
  | [], _, _, h => by simp [put] at h; exact Or.inl h
  | (k, v) :: r, x, u, h => by
    simp only [put] at h
    split at h
    · rcases List.mem_cons.1 h with h | h
      · exact Or.inl h
      · exact Or.inr h
    · split at h
      · rcases List.mem_cons.1 h with h | h
        · exact Or.inl h
        · exact Or.inr (List.mem_cons_of_mem _ h)
      · rcases List.mem_cons.1 h with h | h
        · exact Or.inr (by simp [h])
        · rcases mem_put h with h | h
          · exact Or.inl h
          · exact Or.inr (List.mem_cons_of_mem _ h)

theorem rising_put : ∀ {m : AL α} {x : Int} {u : α}, Rising m → Rising (put m x u)
  | [], _, _, _ => by simp [put, Rising]
  | (k, v) :: r, x, u, hr => by
    obtain ⟨h1, h2⟩ := List.pairwise_cons.1 hr
    simp only [put]
    split
    · rename_i hlt
      refine List.pairwise_cons.2 ⟨fun q hq => ?_, hr⟩
      rcases List.mem_cons.1 hq with rfl | hq
      · exact hlt
      · have := h1 q hq; simp at this ⊢; omega
    · split
      · rename_i _ he
        subst he
        exact List.pairwise_cons.2 ⟨h1, h2⟩
      · rename_i h3 h4
        refine List.pairwise_cons.2 ⟨fun q hq => ?_, rising_put h2⟩
        rcases mem_put hq with rfl | hq
        · simp; omega
        · exact h1 q hq

theorem get?_put : ∀ {m : AL α} {x : Int} {u : α} (y : Int), Rising m → get? (put m x u) y = if x = y then some u else get? m y
  | [], x, u, y, _ => by simp [put, get?]
  | (k, v) :: r, x, u, y, hr => by
    obtain ⟨h1, h2⟩ := List.pairwise_cons.1 hr
    simp only [put]
    split
    · simp [get?]
    · split
      · rename_i _ he
        subst he
        simp only [get?]
        split <;> rfl
      · rename_i h3 h4
        simp only [get?]
        split
        · rename_i he
          subst he
          rw [if_neg (by omega)]
        · exact get?_put y h2

/-- two such maps that answer alike are one -/
theorem ext_get? : ∀ {m m' : AL α}, Rising m → Rising m' → (∀ x, get? m x = get? m' x) → m = m'
  | [], [], _, _, _ => rfl
  | [], (k, v) :: r, _, _, h => by have := h k; simp [get?] at this
  | (k, v) :: r, [], _, _, h => by have := h k; simp [get?] at this
  | (k, v) :: r, (k', v') :: r', hr, hr', h => by
    obtain ⟨h1, h2⟩ := List.pairwise_cons.1 hr
    obtain ⟨h1', h2'⟩ := List.pairwise_cons.1 hr'
    have n1 : ∀ x, x < k → get? ((k, v) :: r) x = none := fun x hx => get?_none_of_lt fun p hp => by
      rcases List.mem_cons.1 hp with rfl | hp
      · exact hx
      · have := h1 p hp; simp at this; omega
    have n2 : ∀ x, x < k' → get? ((k', v') :: r') x = none := fun x hx => get?_none_of_lt fun p hp => by
      rcases List.mem_cons.1 hp with rfl | hp
      · exact hx
      · have := h1' p hp; simp at this; omega
    have hk : k = k' := by
      rcases Int.lt_trichotomy k k' with hlt | he | hlt
      · have := h k; rw [n2 k hlt] at this; simp [get?] at this
      · exact he
      · have := h k'; rw [n1 k' hlt] at this; simp [get?] at this
    subst hk
    have hv := h k
    simp [get?] at hv
    subst hv
    congr 1
    refine ext_get? h2 h2' fun x => ?_
    by_cases hx : k = x
    · subst hx
      rw [get?_none_of_lt (m := r) fun p hp => h1 p hp, get?_none_of_lt (m := r') fun p hp => h1' p hp]
    · have := h x
      simpa [get?, hx] using this

/-- the values turned -/
def mapVal (f : α → β) (m : AL α) : AL β := m.map fun p => (p.1, f p.2)

theorem get?_mapVal (f : α → β) : ∀ (m : AL α) (x : Int), get? (mapVal f m) x = (get? m x).map f
  | [], _ => rfl
  | (k, v) :: r, x => by
    have := get?_mapVal f r x
    simp only [mapVal] at this
    simp only [mapVal, List.map_cons, get?]
    split
    · rfl
    · exact this

theorem rising_mapVal {f : α → β} {m : AL α} (h : Rising m) : Rising (mapVal f m) := List.pairwise_map.2 h

theorem mapVal_put (f : α → β) : ∀ (m : AL α) (x : Int) (u : α), mapVal f (put m x u) = put (mapVal f m) x (f u)
  | [], _, _ => rfl
  | (k, v) :: r, x, u => by
    have := mapVal_put f r x u
    simp only [mapVal] at this
    simp only [mapVal, put, List.map_cons]
    split
    · rfl
    · split
      · rfl
      · simp [this]

theorem keys_mapVal (f : α → β) (m : AL α) : keys (mapVal f m) = keys m := by simp [keys, mapVal]

theorem keys_rising {m : AL α} (h : Rising m) : (keys m).Pairwise (· < ·) := List.pairwise_map.2 h

theorem keys_nodup {m : AL α} (h : Rising m) : (keys m).Nodup := (keys_rising h).imp (fun h => by omega)

theorem mem_keys {m : AL α} {x : Int} : x ∈ keys m ↔ ∃ v, (x, v) ∈ m := by
  simp [keys]

theorem mem_keys_get? {m : AL α} (hr : Rising m) {x : Int} : x ∈ keys m ↔ (get? m x).isSome = true := by
  rw [mem_keys]
  constructor
  · rintro ⟨v, h⟩; rw [get?_of_mem hr h]; rfl
  · intro h
    obtain ⟨v, hv⟩ := Option.isSome_iff_exists.1 h
    exact ⟨v, get?_mem hv⟩

theorem perm_put_new {m : AL α} {x : Int} {u : α} : get? m x = none → (put m x u).Perm ((x, u) :: m) := by
  induction m with
  | nil => intro _; exact List.Perm.refl _
  | cons p r ih =>
    obtain ⟨k, v⟩ := p
    intro h
    simp only [get?] at h
    split at h
    · cases h
    · rename_i hne
      simp only [put]
      split
      · exact List.Perm.refl _
      · rw [if_neg (fun e => hne e.symm)]
        exact (List.Perm.cons _ (ih h)).trans (List.Perm.swap _ _ _)

theorem put_old {m : AL α} {x : Int} {u v0 : α} (hr : Rising m) : get? m x = some v0 → put m x u = m.map (fun p => if p.1 = x then (p.1, u) else p) := by
  induction m with
  | nil => intro h; simp [get?] at h
  | cons p r ih =>
    obtain ⟨k, v⟩ := p
    obtain ⟨h1, h2⟩ := List.pairwise_cons.1 hr
    intro h
    simp only [get?] at h
    simp only [put, List.map_cons]
    split at h
    · rename_i he
      subst he
      have : r.map (fun p => if p.1 = k then (p.1, u) else p) = r := by
        refine (List.map_congr_left fun p hp => ?_).trans (List.map_id r)
        have := h1 p hp
        rw [if_neg (by simp at this; omega)]; rfl
      simp [this]
    · rename_i hne
      have hmem := get?_mem h
      have := h1 _ hmem
      simp at this
      rw [if_neg (by omega), if_neg (fun e => hne e.symm), if_neg hne, ih h2 h]

theorem length_le_of_bounds {l : List Int} (hp : l.Pairwise (· < ·)) {a : Int} {n : Nat} (h : ∀ x ∈ l, a ≤ x ∧ x < a + n) : l.length ≤ n := by
  induction l generalizing a n with
  | nil => simp
  | cons x r ih =>
    obtain ⟨h1, h2⟩ := List.pairwise_cons.1 hp
    have hx := h x (by simp)
    have : r.length ≤ (a + n - (x + 1)).toNat := ih (a := x + 1) h2 fun y hy => by
      have := h1 y hy; have := h y (by simp [hy]); omega
    simp; omega

end AL
end Go.Proofs.Ytkpllkjionegeaa

/- What a core of the vote is and does, in plain words: no memory, no program. -/
namespace Go.Proofs.Ytkpllkjionegeaa

abbrev Bytes := List UInt8
abbrev Told := AL Bytes

structure Vote where
  kind : Int
  frm : Int
  slot : Int
  view : Int
  valid : Int
  value : Bytes
  deriving DecidableEq

structure Core where
  n : Int
  me : Int
  slot : Int
  view : Int
  wish : Bytes
  wishes : Bool
  props : AL (Bytes × Int)
  preps : AL Told
  comms : AL Told
  turns : AL Told
  seen : AL Int
  decs : Told
  lock : Int
  locked : Bytes
  decided : Bool
  value : Bytes

def quorum (n : Int) : Int := n - (n - 1) / 3

/-- the value that at least so many peers told -/
def count (t : Told) (least : Int) : Option Bytes :=
  (t.find? fun p => decide (least ≤ ((t.filter fun q => q.2 == p.2).length : Int))).map (·.2)

def inner (m : AL Told) (view : Int) : Told := (AL.get? m view).getD []

def setTold (m : AL Told) (view who : Int) (v : Bytes) : Bool × AL Told :=
  if (AL.get? (inner m view) who).isSome then (false, m) else (true, AL.put m view (AL.put (inner m view) who v))

def voteOk (v : Vote) : Bool :=
  decide (1 ≤ v.kind ∧ v.kind ≤ 5 ∧ 1 ≤ v.frm ∧ v.frm ≤ 64 ∧ 0 ≤ v.slot ∧ v.slot ≤ 256 ∧ 0 ≤ v.view ∧ v.view ≤ 1048576 ∧ -1 ≤ v.valid ∧ v.valid ≤ 1048576 ∧ v.value.length ≤ 4096)

namespace Core

def make (n me slot : Int) : Core :=
  { n, me, slot, view := 0, wish := [], wishes := false, props := [], preps := [], comms := [], turns := [], seen := [], decs := [], lock := -1, locked := [], decided := false, value := [] }

def newOk (n me slot : Int) : Bool := decide (4 ≤ n ∧ n ≤ 64 ∧ 1 ≤ me ∧ me ≤ n ∧ 0 ≤ slot ∧ slot ≤ 256)

variable (c : Core)

def f : Int := (c.n - 1) / 3
def proposer (view : Int) : Int := 1 + (c.slot + view) % c.n

/-- what a peer told is known, if it is new -/
def know (v : Vote) : Bool × Core :=
  if v.kind = 1 then
    if (AL.get? c.props v.view).isSome || v.frm != c.proposer v.view then (false, c)
    else (true, { c with props := AL.put c.props v.view (v.value, v.valid) })
  else if v.kind = 2 then let r := setTold c.preps v.view v.frm v.value; (r.1, { c with preps := r.2 })
  else if v.kind = 3 then let r := setTold c.comms v.view v.frm v.value; (r.1, { c with comms := r.2 })
  else if v.kind = 5 then let r := setTold c.turns v.view v.frm v.value; (r.1, { c with turns := r.2 })
  else if (AL.get? c.decs v.frm).isSome then (false, c)
  else (true, { c with decs := AL.put c.decs v.frm v.value })

def prepared (view : Int) : Option Bytes := count (inner c.preps view) (quorum c.n)

/-- the greatest view below one in which a value is prepared -/
def bestIn (c : Core) (below : Int) : List Int → Option (Int × Bytes)
  | [] => none
  | view :: r => match c.prepared view with
    | some v => if view < below then some (view, v) else bestIn c below r
    | none => bestIn c below r
def best (below : Int) : Option (Int × Bytes) := bestIn c below (AL.keys c.preps).reverse

def views : List Int := (AL.vals c.seen).mergeSort (fun x y => decide (x ≤ y))

/-- the view to which it turns, if there is one -/
def turnTo : Option Int :=
  if (c.views.length : Int) ≤ c.f then none
  else
    let v := c.views.getD (c.views.length - 1 - c.f.toNat) 0
    if v ≤ c.view then none else some v

def turn : Option Core := c.turnTo.map fun v => { c with view := v }

def propose : Option Core :=
  if (AL.get? c.props c.view).isSome || c.proposer c.view != c.me then none
  else match c.best c.view with
    | some (view, value) => some { c with props := AL.put c.props c.view (value, view) }
    | none => if c.wishes then some { c with props := AL.put c.props c.view (c.wish, -1) } else none

variable (acc : Bytes → Bool)

def fit (p : Bytes × Int) : Bool :=
  acc p.1 && (decide (c.lock < 0) || p.1 == c.locked || (decide (c.lock ≤ p.2) && decide (p.2 < c.view) && c.prepared p.2 == some p.1))

def prepare : Option Core :=
  match AL.get? c.props c.view with
  | none => none
  | some p =>
    if (AL.get? (inner c.preps c.view) c.me).isSome || !c.fit acc p then none
    else some { c with preps := (setTold c.preps c.view c.me p.1).2 }

def commit : Option Core :=
  match c.prepared c.view with
  | none => none
  | some value =>
    if (AL.get? (inner c.comms c.view) c.me).isSome then none
    else some { c with lock := c.view, locked := value, comms := (setTold c.comms c.view c.me value).2 }

/-- how many stand behind a value in a view -/
def behind (t : Told) (value : Bytes) : Int :=
  (((List.range c.n.toNat).filter fun (i : Nat) => AL.get? t ((i : Int) + 1) == some value || AL.get? c.decs ((i : Int) + 1) == some value).length : Int)

def agreed (view : Int) : Option Bytes :=
  ((inner c.comms view).find? fun p => decide (quorum c.n ≤ c.behind (inner c.comms view) p.2)).map (·.2)

def decideIn (c : Core) : List Int → Option Bytes
  | [] => none
  | view :: r => match c.agreed view with
    | some v => some v
    | none => decideIn c r

def decision : Option Bytes :=
  match c.decideIn (AL.keys c.comms) with
  | some v => some v
  | none => count c.decs (c.f + 1)

def decide : Option Core := c.decision.map fun v => { c with decided := true, value := v }

/-- one thing that it can do; behind a failed decision the value is nothing -/
def step : Option Core :=
  if c.decided then none else
  match c.turn with
  | some c' => some c'
  | none => match c.propose with
    | some c' => some c'
    | none => match c.prepare acc with
      | some c' => some c'
      | none => match c.commit with
        | some c' => some c'
        | none => c.decide

def actN : Nat → Core → Core
  | 0, c => c
  | k + 1, c => match c.step acc with
    | some c' => actN k c'
    | none => c

def act : Core := actN acc 32 c

def take (v : Vote) : Bool × Core :=
  if v.slot ≠ c.slot ∨ v.frm > c.n ∨ v.frm = c.me ∨ voteOk v = false then (false, c)
  else
    let r := c.know v
    if r.1 = false then (false, c)
    else
      let c1 := r.2
      let c2 := if v.kind ≠ 4 then { c1 with seen := AL.put c1.seen v.frm (max ((AL.get? c1.seen v.frm).getD 0) v.view) } else c1
      (true, c2.act acc)

def doWish (value : Bytes) : Core :=
  if c.wishes = true ∨ value.length > 4096 then c
  else ({ c with wish := value, wishes := true } : Core).act acc

def late : Core :=
  if c.decided = false ∧ c.view < 1048576 then ({ c with view := c.view + 1 } : Core).act acc else c

def mine (kind : Int) (m : AL Told) : List Vote :=
  m.filterMap fun p => (AL.get? p.2 c.me).map fun value => { kind, frm := c.me, slot := c.slot, view := p.1, valid := -1, value }

def says : List Vote :=
  (if c.decided then [{ kind := 4, frm := c.me, slot := c.slot, view := 0, valid := -1, value := c.value }]
   else [{ kind := 5, frm := c.me, slot := c.slot, view := c.view, valid := -1, value := [] }]) ++
  (match AL.get? c.props c.view with
   | some p => if !c.decided && c.proposer c.view == c.me then [{ kind := 1, frm := c.me, slot := c.slot, view := c.view, valid := p.2, value := p.1 }] else []
   | none => []) ++
  c.mine 2 c.preps ++ c.mine 3 c.comms

def grown : Int × Int × Int :=
  (c.view, ((c.preps.filter fun p => (AL.get? p.2 c.me).isSome).length : Int), ((c.comms.filter fun p => (AL.get? p.2 c.me).isSome).length : Int))

end Core

/-- a number as four bytes -/
def four (n : Int) : Bytes := [UInt8.ofNat (n / 16777216 % 256).toNat, UInt8.ofNat (n / 65536 % 256).toNat, UInt8.ofNat (n / 256 % 256).toNat, UInt8.ofNat (n % 256).toNat]

def votesBytes (l : List Vote) : Bytes := four l.length ++ l.flatMap fun v => four v.view ++ four v.value.length ++ v.value

def Core.bytes (c : Core) : Bytes :=
  four c.view ++ votesBytes (c.mine 2 c.preps) ++ votesBytes (c.mine 3 c.comms) ++ (if c.decided then 1 :: (four c.value.length ++ c.value) else 0 :: four 0)

/-- a core that begins anew from what another one's bytes say -/
def Core.anew (c : Core) : Core :=
  let own := fun (m : AL Told) => m.filterMap fun p => (AL.get? p.2 c.me).map fun value => (p.1, ([(c.me, value)] : Told))
  let comms := own c.comms
  { Core.make c.n c.me c.slot with
    view := c.view, preps := own c.preps, comms, decided := c.decided, value := if c.decided then c.value else [],
    lock := match comms.getLast? with | some p => p.1 | none => -1,
    locked := match comms.getLast? with | some p => (AL.get? p.2 c.me).getD [] | none => [] }

end Go.Proofs.Ytkpllkjionegeaa

/- The bounds of all that a core holds, and that what it does keeps them. No program. -/
namespace Go.Proofs.Ytkpllkjionegeaa

/-- the numbers of a core are in their bounds -/
structure Nums (c : Core) : Prop where
  n4 : 4 ≤ c.n
  n64 : c.n ≤ 64
  me1 : 1 ≤ c.me
  men : c.me ≤ c.n
  s0 : 0 ≤ c.slot
  s1 : c.slot ≤ 256
  v0 : 0 ≤ c.view
  v1 : c.view ≤ 1048576

/-- a map of who told what: peers, and values that are not long -/
def IWf (t : Told) : Prop := AL.Rising t ∧ ∀ who v, AL.get? t who = some v → (1 ≤ who ∧ who ≤ 64) ∧ v.length ≤ 4096

def TWf (m : AL Told) : Prop := AL.Rising m ∧ ∀ k t, AL.get? m k = some t → (0 ≤ k ∧ k ≤ 1048576) ∧ IWf t

structure Wf (c : Core) : Prop extends Nums c where
  lock0 : -1 ≤ c.lock
  lock1 : c.lock ≤ 1048576
  wishL : c.wish.length ≤ 4096
  lockedL : c.locked.length ≤ 4096
  valueL : c.value.length ≤ 4096
  propsR : AL.Rising c.props
  props : ∀ k p, AL.get? c.props k = some p → (0 ≤ k ∧ k ≤ 1048576) ∧ p.1.length ≤ 4096 ∧ -1 ≤ p.2 ∧ p.2 ≤ 1048576
  preps : TWf c.preps
  comms : TWf c.comms
  turns : TWf c.turns
  seenR : AL.Rising c.seen
  seen : ∀ who x, AL.get? c.seen who = some x → (1 ≤ who ∧ who ≤ 64) ∧ 0 ≤ x ∧ x ≤ 1048576
  decs : IWf c.decs
  val : c.decided = false → c.value = []

theorem IWf.nil : IWf [] := ⟨AL.rising_nil, fun _ _ h => by simp [AL.get?] at h⟩
theorem TWf.nil : TWf [] := ⟨AL.rising_nil, fun _ _ h => by simp [AL.get?] at h⟩

theorem IWf.keys {t : Told} (h : IWf t) : (∀ k ∈ AL.keys t, 1 ≤ k ∧ k ≤ 64) ∧ t.length ≤ 64 := by
  have h1 : ∀ k ∈ AL.keys t, 1 ≤ k ∧ k ≤ 64 := fun k hk => by
    obtain ⟨v, hv⟩ := Option.isSome_iff_exists.1 ((AL.mem_keys_get? h.1).1 hk)
    exact (h.2 k v hv).1
  refine ⟨h1, ?_⟩
  have := AL.length_le_of_bounds (AL.keys_rising h.1) (a := 1) (n := 64) (fun x hx => by have := h1 x hx; omega)
  simpa [AL.keys] using this

theorem TWf.keys {m : AL Told} (h : TWf m) : (∀ k ∈ AL.keys m, 0 ≤ k ∧ k ≤ 1048576) ∧ m.length ≤ 1048577 := by
  have h1 : ∀ k ∈ AL.keys m, 0 ≤ k ∧ k ≤ 1048576 := fun k hk => by
    obtain ⟨v, hv⟩ := Option.isSome_iff_exists.1 ((AL.mem_keys_get? h.1).1 hk)
    exact (h.2 k v hv).1
  refine ⟨h1, ?_⟩
  have := AL.length_le_of_bounds (AL.keys_rising h.1) (a := 0) (n := 1048577) (fun x hx => by have := h1 x hx; omega)
  simpa [AL.keys] using this

theorem TWf.inner {m : AL Told} (h : TWf m) (view : Int) : IWf (inner m view) := by
  unfold Go.Proofs.Ytkpllkjionegeaa.inner
  cases hg : AL.get? m view with
  | none => exact IWf.nil
  | some t => exact (h.2 view t hg).2

theorem count_mem {t : Told} {least : Int} {v : Bytes} (h : count t least = some v) : ∃ who, (who, v) ∈ t ∧ least ≤ ((t.filter fun q => q.2 == v).length : Int) := by
  unfold count at h
  obtain ⟨p, hp, rfl⟩ := Option.map_eq_some_iff.1 h
  obtain ⟨k, v⟩ := p
  have := List.find?_some hp
  exact ⟨k, List.mem_of_find?_eq_some hp, by simpa using this⟩

theorem IWf.count_len {t : Told} (h : IWf t) {least : Int} {v : Bytes} (hc : count t least = some v) : v.length ≤ 4096 := by
  obtain ⟨who, hm, _⟩ := count_mem hc
  exact (h.2 who v (AL.get?_of_mem h.1 hm)).2

theorem IWf.put {t : Told} (h : IWf t) {who : Int} {v : Bytes} (hw : 1 ≤ who ∧ who ≤ 64) (hv : v.length ≤ 4096) : IWf (AL.put t who v) := by
  refine ⟨AL.rising_put h.1, fun k u hu => ?_⟩
  rw [AL.get?_put k h.1] at hu
  split at hu
  · rename_i he; subst he; cases hu; exact ⟨hw, hv⟩
  · exact h.2 k u hu

theorem TWf.put {m : AL Told} (h : TWf m) {view : Int} {t : Told} (hv : 0 ≤ view ∧ view ≤ 1048576) (ht : IWf t) : TWf (AL.put m view t) := by
  refine ⟨AL.rising_put h.1, fun k u hu => ?_⟩
  rw [AL.get?_put k h.1] at hu
  split at hu
  · rename_i he; subst he; cases hu; exact ⟨hv, ht⟩
  · exact h.2 k u hu

theorem TWf.setTold {m : AL Told} (h : TWf m) {view who : Int} {v : Bytes} (hv : 0 ≤ view ∧ view ≤ 1048576) (hw : 1 ≤ who ∧ who ≤ 64) (hl : v.length ≤ 4096) : TWf (setTold m view who v).2 := by
  unfold Go.Proofs.Ytkpllkjionegeaa.setTold
  split
  · exact h
  · exact h.put hv ((h.inner view).put hw hl)

theorem quorum_pos {n : Int} (h : 4 ≤ n) : 1 ≤ quorum n := by unfold quorum; omega

namespace Wf
variable {c : Core}

theorem prepared_len (h : Wf c) {view : Int} {v : Bytes} (hp : c.prepared view = some v) : v.length ≤ 4096 := (h.preps.inner view).count_len hp

theorem best_in (h : Wf c) {below : Int} : ∀ {l : List Int}, (∀ k ∈ l, 0 ≤ k ∧ k ≤ 1048576) → ∀ {view : Int} {v : Bytes}, Core.bestIn c below l = some (view, v) → (0 ≤ view ∧ view ≤ 1048576 ∧ view < below) ∧ c.prepared view = some v
  | [], _, _, _, hb => by simp [Core.bestIn] at hb
  | k :: r, hl, view, v, hb => by
    simp only [Core.bestIn] at hb
    split at hb
    · rename_i u hu
      split at hb
      · rename_i hlt
        cases hb
        have := hl k (by simp)
        exact ⟨⟨this.1, this.2, hlt⟩, hu⟩
      · exact best_in h (fun k hk => hl k (by simp [hk])) hb
    · exact best_in h (fun k hk => hl k (by simp [hk])) hb

theorem best_spec (h : Wf c) {below view : Int} {v : Bytes} (hb : c.best below = some (view, v)) : (0 ≤ view ∧ view ≤ 1048576 ∧ view < below) ∧ c.prepared view = some v :=
  h.best_in (fun k hk => h.preps.keys.1 k (by simpa using hk)) hb

theorem turnTo_spec (h : Wf c) {v : Int} (ht : c.turnTo = some v) : c.view < v ∧ v ≤ 1048576 := by
  unfold Core.turnTo at ht
  split at ht
  · cases ht
  · rename_i hlen
    simp only at ht
    split at ht
    · cases ht
    · rename_i hle
      cases ht
      refine ⟨by omega, ?_⟩
      have hf : 0 ≤ c.f := by unfold Core.f; have := h.n4; omega
      have hlt : c.views.length - 1 - c.f.toNat < c.views.length := by omega
      have hm : c.views.getD (c.views.length - 1 - c.f.toNat) 0 ∈ c.views := by
        rw [List.getD, List.getElem?_eq_getElem hlt]; exact List.getElem_mem hlt
      have hm2 : c.views.getD (c.views.length - 1 - c.f.toNat) 0 ∈ AL.vals c.seen := (List.mergeSort_perm _ _).mem_iff.1 hm
      obtain ⟨p, hp, e⟩ := List.mem_map.1 hm2
      have := (h.seen p.1 p.2 (AL.get?_of_mem h.seenR hp)).2.2
      rw [e] at this
      exact this

theorem turn (h : Wf c) {c' : Core} (ht : c.turn = some c') : Wf c' := by
  obtain ⟨v, hv, rfl⟩ := Option.map_eq_some_iff.1 ht
  have := h.turnTo_spec hv
  exact { h with v0 := by have := h.v0; show 0 ≤ v; omega, v1 := this.2 }

theorem put_props (h : Wf c) {view valid : Int} {v : Bytes} (hv : 0 ≤ view ∧ view ≤ 1048576) (hl : v.length ≤ 4096) (ha : -1 ≤ valid ∧ valid ≤ 1048576) : Wf { c with props := AL.put c.props view (v, valid) } := by
  have key : ∀ k p, AL.get? (AL.put c.props view (v, valid)) k = some p → (0 ≤ k ∧ k ≤ 1048576) ∧ p.1.length ≤ 4096 ∧ -1 ≤ p.2 ∧ p.2 ≤ 1048576 := fun k p hp => by
    rw [AL.get?_put k h.propsR] at hp
    split at hp
    · rename_i he; subst he; cases hp; exact ⟨hv, hl, ha.1, ha.2⟩
    · exact h.props k p hp
  exact { h with propsR := AL.rising_put h.propsR, props := key }

theorem propose (h : Wf c) {c' : Core} (ht : c.propose = some c') : Wf c' := by
  unfold Core.propose at ht
  split at ht
  · cases ht
  · split at ht
    · rename_i view value hb
      cases ht
      have := h.best_spec hb
      exact h.put_props ⟨h.v0, h.v1⟩ (h.prepared_len this.2) ⟨by omega, by omega⟩
    · split at ht
      · cases ht
        exact h.put_props ⟨h.v0, h.v1⟩ h.wishL ⟨by omega, by omega⟩
      · cases ht

theorem prepare (h : Wf c) {acc : Bytes → Bool} {c' : Core} (ht : c.prepare acc = some c') : Wf c' := by
  unfold Core.prepare at ht
  split at ht
  · cases ht
  · rename_i p hp
    split at ht
    · cases ht
    · cases ht
      have h1 := h.men; have h2 := h.n64
      exact { h with preps := h.preps.setTold ⟨h.v0, h.v1⟩ ⟨h.me1, by omega⟩ (h.props _ p hp).2.1 }

theorem commit (h : Wf c) {c' : Core} (ht : c.commit = some c') : Wf c' := by
  unfold Core.commit at ht
  split at ht
  · cases ht
  · rename_i v hv
    split at ht
    · cases ht
    · cases ht
      have h1 := h.men; have h2 := h.n64; have h3 := h.v0
      exact { h with comms := h.comms.setTold ⟨h.v0, h.v1⟩ ⟨h.me1, by omega⟩ (h.prepared_len hv), lock0 := by show -1 ≤ c.view; omega, lock1 := h.v1, lockedL := h.prepared_len hv }

theorem agreed_len (h : Wf c) {view : Int} {v : Bytes} (ha : c.agreed view = some v) : v.length ≤ 4096 := by
  unfold Core.agreed at ha
  obtain ⟨p, hp, rfl⟩ := Option.map_eq_some_iff.1 ha
  have hi := h.comms.inner view
  exact (hi.2 p.1 p.2 (AL.get?_of_mem hi.1 (List.mem_of_find?_eq_some hp))).2

theorem decide_len (h : Wf c) {v : Bytes} (ha : c.decision = some v) : v.length ≤ 4096 := by
  unfold Core.decision at ha
  have : ∀ (l : List Int) (v : Bytes), Core.decideIn c l = some v → v.length ≤ 4096 := by
    intro l
    induction l with
    | nil => intro v h; simp [Core.decideIn] at h
    | cons k r ih =>
      intro v hv
      simp only [Core.decideIn] at hv
      split at hv
      · rename_i u hu; cases hv; exact h.agreed_len hu
      · exact ih v hv
  split at ha
  · rename_i u hu; cases ha; exact this _ _ hu
  · exact h.decs.count_len ha

theorem decide (h : Wf c) {c' : Core} (ht : c.decide = some c') : Wf c' := by
  obtain ⟨v, hv, rfl⟩ := Option.map_eq_some_iff.1 ht
  exact { h with valueL := h.decide_len hv, val := fun h => by cases h }

theorem step (h : Wf c) {acc : Bytes → Bool} {c' : Core} (ht : c.step acc = some c') : Wf c' := by
  unfold Core.step at ht
  split at ht
  · cases ht
  · split at ht
    · rename_i h1; cases ht; exact h.turn h1
    · split at ht
      · rename_i h1; cases ht; exact h.propose h1
      · split at ht
        · rename_i h1; cases ht; exact h.prepare h1
        · split at ht
          · rename_i h1; cases ht; exact h.commit h1
          · exact h.decide ht

theorem actN {acc : Bytes → Bool} : ∀ (k : Nat) {c : Core}, Wf c → Wf (Core.actN acc k c)
  | 0, _, h => h
  | k + 1, c, h => by
    simp only [Core.actN]
    split
    · rename_i h1; exact actN k (h.step h1)
    · exact h

theorem act (h : Wf c) (acc : Bytes → Bool) : Wf (c.act acc) := actN 32 h

theorem know (h : Wf c) {v : Vote} (hv : voteOk v = true) : Wf (c.know v).2 := by
  simp only [voteOk, decide_eq_true_eq] at hv
  unfold Core.know
  split
  · split
    · exact h
    · exact h.put_props ⟨by omega, by omega⟩ (by omega) ⟨by omega, by omega⟩
  · split
    · exact { h with preps := h.preps.setTold ⟨by omega, by omega⟩ ⟨by omega, by omega⟩ (by omega) }
    · split
      · exact { h with comms := h.comms.setTold ⟨by omega, by omega⟩ ⟨by omega, by omega⟩ (by omega) }
      · split
        · exact { h with turns := h.turns.setTold ⟨by omega, by omega⟩ ⟨by omega, by omega⟩ (by omega) }
        · split
          · exact h
          · exact { h with decs := h.decs.put ⟨by omega, by omega⟩ (by omega) }

theorem put_seen (h : Wf c) {who x : Int} (hw : 1 ≤ who ∧ who ≤ 64) (hx : 0 ≤ x ∧ x ≤ 1048576) : Wf { c with seen := AL.put c.seen who x } := by
  have key : ∀ k p, AL.get? (AL.put c.seen who x) k = some p → (1 ≤ k ∧ k ≤ 64) ∧ 0 ≤ p ∧ p ≤ 1048576 := fun k p hp => by
    rw [AL.get?_put k h.seenR] at hp
    split at hp
    · rename_i he; subst he; cases hp; exact ⟨hw, hx⟩
    · exact h.seen k p hp
  exact { h with seenR := AL.rising_put h.seenR, seen := key }

end Wf
end Go.Proofs.Ytkpllkjionegeaa

/- How much a core has still to do: each step has less behind it, so that acting ends. No program. -/
namespace Go.Proofs.Ytkpllkjionegeaa

/-- how much there is still to do -/
def Core.mu (c : Core) : Nat :=
  (if c.turnTo.isSome then 16 else 0) + (if (AL.get? c.props c.view).isNone then 8 else 0) + (if (AL.get? (inner c.preps c.view) c.me).isNone then 4 else 0) +
    (if (AL.get? (inner c.comms c.view) c.me).isNone then 2 else 0) + (if c.decided then 0 else 1)

theorem Core.mu_le (c : Core) : c.mu ≤ 31 := by unfold Core.mu; (repeat' split) <;> omega

theorem inner_setTold {m : AL Told} (hm : TWf m) {view who : Int} {v : Bytes} (hd : (AL.get? (inner m view) who).isSome = false) : AL.get? (inner (setTold m view who v).2 view) who = some v := by
  unfold setTold
  simp only [hd, Bool.false_eq_true, if_false]
  show AL.get? ((AL.get? (AL.put m view (AL.put (inner m view) who v)) view).getD []) who = some v
  rw [AL.get?_put _ hm.1, if_pos rfl, Option.getD_some, AL.get?_put _ (hm.inner view).1, if_pos rfl]

theorem Wf.turnTo_done {c : Core} (h : Wf c) {v : Int} (ht : c.turnTo = some v) : ({ c with view := v } : Core).turnTo = none := by
  unfold Core.turnTo at ht ⊢
  have e1 : ({ c with view := v } : Core).views = c.views := rfl
  have e2 : ({ c with view := v } : Core).f = c.f := rfl
  rw [e1, e2]
  split at ht
  · cases ht
  · rename_i hn
    rw [if_neg hn]
    simp only at ht ⊢
    split at ht
    · cases ht
    · cases ht
      rw [if_pos (Int.le_refl _)]

theorem Wf.step_mu {c : Core} (h : Wf c) {acc : Bytes → Bool} {c' : Core} (hs : c.step acc = some c') : c'.mu < c.mu := by
  unfold Core.step at hs
  split at hs
  · cases hs
  · rename_i hd
    have hd : c.decided = false := by simpa using hd
    split at hs
    · rename_i c1 ht
      cases hs
      obtain ⟨v, hv, rfl⟩ := Option.map_eq_some_iff.1 ht
      have h0 := h.turnTo_done hv
      unfold Core.mu
      rw [h0, hv]
      simp only [Option.isSome_none, Option.isSome_some, hd, Bool.false_eq_true, if_false, if_true]
      repeat' split
      all_goals omega
    · rename_i ht
      have ht : c.turnTo = none := by simpa [Core.turn] using ht
      split at hs
      · rename_i c1 hp
        cases hs
        unfold Core.propose at hp
        split at hp
        · cases hp
        · rename_i hpp
          have hpn : (AL.get? c.props c.view).isNone = true := by
            cases hx : AL.get? c.props c.view with
            | none => rfl
            | some y => rw [hx] at hpp; simp at hpp
          have key : ∀ y, ({ c with props := AL.put c.props c.view y } : Core).mu < c.mu := fun y => by
            have e1 : ({ c with props := AL.put c.props c.view y } : Core).turnTo = none := ht
            unfold Core.mu
            rw [e1, ht]
            simp only [AL.get?_put _ h.propsR, if_true, hpn, Option.isSome_none, Option.isNone_some, Bool.false_eq_true, if_false]
            repeat' split
            all_goals omega
          split at hp
          · cases hp; exact key _
          · split at hp
            · cases hp; exact key _
            · cases hp
      · rename_i hp
        split at hs
        · rename_i c1 hpr
          cases hs
          unfold Core.prepare at hpr
          split at hpr
          · cases hpr
          · rename_i p hpp
            split at hpr
            · cases hpr
            · rename_i hno
              cases hpr
              have hns : (AL.get? (inner c.preps c.view) c.me).isSome = false := by
                cases hx : (AL.get? (inner c.preps c.view) c.me).isSome with
                | false => rfl
                | true => rw [hx] at hno; simp at hno
              have hnn : (AL.get? (inner c.preps c.view) c.me).isNone = true := by cases hx : AL.get? (inner c.preps c.view) c.me <;> simp_all
              have e1 : ({ c with preps := (setTold c.preps c.view c.me p.1).2 } : Core).turnTo = none := ht
              unfold Core.mu
              rw [e1, ht]
              simp only [inner_setTold h.preps hns, hnn, hpp, Option.isSome_none, Option.isNone_some, Bool.false_eq_true, if_false, if_true]
              repeat' split
              all_goals omega
        · rename_i hpr
          split at hs
          · rename_i c1 hcm
            cases hs
            unfold Core.commit at hcm
            split at hcm
            · cases hcm
            · rename_i v hv
              split at hcm
              · cases hcm
              · rename_i hno
                cases hcm
                have hns : (AL.get? (inner c.comms c.view) c.me).isSome = false := by simpa using hno
                have hnn : (AL.get? (inner c.comms c.view) c.me).isNone = true := by cases hx : AL.get? (inner c.comms c.view) c.me <;> simp_all
                have e1 : ({ c with lock := c.view, locked := v, comms := (setTold c.comms c.view c.me v).2 } : Core).turnTo = none := ht
                unfold Core.mu
                rw [e1, ht]
                simp only [inner_setTold h.comms hns, hnn, Option.isSome_none, Option.isNone_some, Bool.false_eq_true, if_false, if_true]
                repeat' split
                all_goals omega
          · rename_i hcm
            unfold Core.decide at hs
            obtain ⟨v, hv, rfl⟩ := Option.map_eq_some_iff.1 hs
            have e1 : ({ c with decided := true, value := v } : Core).turnTo = none := ht
            unfold Core.mu
            rw [e1, ht, hd]
            simp only [Option.isSome_none, Bool.false_eq_true, if_false, if_true]
            repeat' split
            all_goals omega

theorem Wf.actN_done {acc : Bytes → Bool} : ∀ (k : Nat) {c : Core}, Wf c → c.mu < k → (Core.actN acc k c).step acc = none
  | 0, c, _, h => by omega
  | k + 1, c, hw, h => by
    simp only [Core.actN]
    cases hs : c.step acc with
    | none => exact hs
    | some c' =>
      have := hw.step_mu hs
      exact Wf.actN_done k (hw.step hs) (by omega)

theorem Wf.act_done {c : Core} (hw : Wf c) (acc : Bytes → Bool) : (c.act acc).step acc = none := hw.actN_done 32 (by have := c.mu_le; omega)
end Go.Proofs.Ytkpllkjionegeaa

/- The plain law of WholeHeard: what is told twice is told once. No program. -/
namespace Go.Proofs.Ytkpllkjionegeaa

/-! ### what is known stays known -/

/-- whatever is there stays there -/
def Stays (m m' : AL Told) : Prop := ∀ view who, (AL.get? (inner m view) who).isSome = true → (AL.get? (inner m' view) who).isSome = true

theorem Stays.refl (m : AL Told) : Stays m m := fun _ _ h => h
theorem Stays.trans {a b c : AL Told} (h : Stays a b) (k : Stays b c) : Stays a c := fun v w x => k v w (h v w x)

theorem inner_put {m : AL Told} (hm : AL.Rising m) (view : Int) (t : Told) (u : Int) : inner (AL.put m view t) u = if view = u then t else inner m u := by
  unfold inner
  rw [AL.get?_put u hm]
  split <;> rfl

theorem get_setTold {m : AL Told} (hm : TWf m) (view who : Int) (v : Bytes) (u x : Int) (hn : (AL.get? (inner m view) who).isSome = false) :
    AL.get? (inner (setTold m view who v).2 u) x = if view = u ∧ who = x then some v else AL.get? (inner m u) x := by
  unfold setTold
  simp only [hn, Bool.false_eq_true, if_false]
  rw [inner_put hm.1]
  by_cases h1 : view = u
  · subst h1
    rw [if_pos rfl, AL.get?_put x (hm.inner view).1]
    by_cases h2 : who = x <;> simp [h2]
  · rw [if_neg h1, if_neg (fun h => h1 h.1)]

theorem setTold_old {m : AL Told} {view who : Int} {v : Bytes} (h : (AL.get? (inner m view) who).isSome = true) : setTold m view who v = (false, m) := by
  unfold setTold; simp [h]

theorem stays_setTold {m : AL Told} (hm : TWf m) (view who : Int) (v : Bytes) : Stays m (setTold m view who v).2 := fun u x h => by
  cases hn : (AL.get? (inner m view) who).isSome with
  | true => rw [setTold_old hn]; exact h
  | false =>
    rw [get_setTold hm view who v u x hn]
    split
    · rfl
    · exact h

theorem setTold_new {m : AL Told} (hm : TWf m) (view who : Int) (v : Bytes) : (AL.get? (inner (setTold m view who v).2 view) who).isSome = true := by
  cases hn : (AL.get? (inner m view) who).isSome with
  | true => rw [setTold_old hn]; exact hn
  | false => rw [get_setTold hm view who v view who hn]; simp

/-- a core knows at least as much, and is the same peer -/
structure Knows (c c' : Core) : Prop where
  n : c'.n = c.n
  me : c'.me = c.me
  slot : c'.slot = c.slot
  props : ∀ k, (AL.get? c.props k).isSome = true → (AL.get? c'.props k).isSome = true
  preps : Stays c.preps c'.preps
  comms : Stays c.comms c'.comms
  turns : c'.turns = c.turns
  decs : c'.decs = c.decs
  seen : c'.seen = c.seen
  wish : c'.wish = c.wish
  wishes : c'.wishes = c.wishes

theorem Knows.refl (c : Core) : Knows c c := ⟨rfl, rfl, rfl, fun _ h => h, Stays.refl _, Stays.refl _, rfl, rfl, rfl, rfl, rfl⟩
theorem Knows.trans {a b c : Core} (h : Knows a b) (k : Knows b c) : Knows a c :=
  ⟨k.n.trans h.n, k.me.trans h.me, k.slot.trans h.slot, fun x y => k.props x (h.props x y), h.preps.trans k.preps, h.comms.trans k.comms, k.turns.trans h.turns, k.decs.trans h.decs, k.seen.trans h.seen, k.wish.trans h.wish, k.wishes.trans h.wishes⟩

theorem isSome_put {α : Type} {m : AL α} (hm : AL.Rising m) (x : Int) (u : α) (k : Int) (h : (AL.get? m k).isSome = true) : (AL.get? (AL.put m x u) k).isSome = true := by
  rw [AL.get?_put k hm]
  split
  · rfl
  · exact h

/-- the step of a core, told apart -/
theorem step_cases {c c' : Core} {acc : Bytes → Bool} (h : c.step acc = some c') :
    c.decided = false ∧ ((c.turn = some c') ∨ (c.turn = none ∧ c.propose = some c') ∨ (c.turn = none ∧ c.propose = none ∧ c.prepare acc = some c') ∨
      (c.turn = none ∧ c.propose = none ∧ c.prepare acc = none ∧ c.commit = some c') ∨ (c.turn = none ∧ c.propose = none ∧ c.prepare acc = none ∧ c.commit = none ∧ c.decide = some c')) := by
  unfold Core.step at h
  split at h
  · cases h
  · rename_i hd
    refine ⟨by simpa using hd, ?_⟩
    split at h
    · rename_i h1; cases h; exact Or.inl h1
    · rename_i h1
      split at h
      · rename_i h2; cases h; exact Or.inr (Or.inl ⟨h1, h2⟩)
      · rename_i h2
        split at h
        · rename_i h3; cases h; exact Or.inr (Or.inr (Or.inl ⟨h1, h2, h3⟩))
        · rename_i h3
          split at h
          · rename_i h4; cases h; exact Or.inr (Or.inr (Or.inr (Or.inl ⟨h1, h2, h3, h4⟩)))
          · rename_i h4; exact Or.inr (Or.inr (Or.inr (Or.inr ⟨h1, h2, h3, h4, h⟩)))

theorem turn_eq {c c' : Core} (h : c.turn = some c') : ∃ v, c.turnTo = some v ∧ c' = { c with view := v } := by
  obtain ⟨v, h1, h2⟩ := Option.map_eq_some_iff.1 h
  exact ⟨v, h1, h2.symm⟩

theorem propose_eq {c c' : Core} (h : c.propose = some c') : ∃ p, c' = { c with props := AL.put c.props c.view p } ∧ (AL.get? c.props c.view).isSome = false ∧ c.proposer c.view = c.me ∧
    ((∃ view value, c.best c.view = some (view, value) ∧ p = (value, view)) ∨ (c.best c.view = none ∧ c.wishes = true ∧ p = (c.wish, -1))) := by
  unfold Core.propose at h
  split at h
  · cases h
  · rename_i hn
    simp only [Bool.or_eq_true, bne_iff_ne, ne_eq, not_or, Bool.not_eq_true, Decidable.not_not] at hn
    split at h
    · rename_i view value hb
      cases h; exact ⟨_, rfl, hn.1, hn.2, Or.inl ⟨view, value, hb, rfl⟩⟩
    · rename_i hb
      split at h
      · rename_i hw
        cases h; exact ⟨_, rfl, hn.1, hn.2, Or.inr ⟨hb, hw, rfl⟩⟩
      · cases h

theorem prepare_eq {c c' : Core} {acc : Bytes → Bool} (h : c.prepare acc = some c') : ∃ p, AL.get? c.props c.view = some p ∧ (AL.get? (inner c.preps c.view) c.me).isSome = false ∧ c.fit acc p = true ∧ c' = { c with preps := (setTold c.preps c.view c.me p.1).2 } := by
  unfold Core.prepare at h
  split at h
  · cases h
  · rename_i p hp
    split at h
    · cases h
    · rename_i hn
      simp only [Bool.or_eq_true, Bool.not_eq_true', not_or, Bool.not_eq_true, Bool.not_eq_false] at hn
      cases h; exact ⟨p, hp, hn.1, hn.2, rfl⟩

theorem commit_eq {c c' : Core} (h : c.commit = some c') : ∃ v, c.prepared c.view = some v ∧ (AL.get? (inner c.comms c.view) c.me).isSome = false ∧ c' = { c with lock := c.view, locked := v, comms := (setTold c.comms c.view c.me v).2 } := by
  unfold Core.commit at h
  split at h
  · cases h
  · rename_i v hv
    split at h
    · cases h
    · rename_i hn
      cases h; exact ⟨v, hv, by simpa using hn, rfl⟩

theorem decide_eq {c c' : Core} (h : c.decide = some c') : ∃ v, c.decision = some v ∧ c' = { c with decided := true, value := v } := by
  obtain ⟨v, h1, h2⟩ := Option.map_eq_some_iff.1 h
  exact ⟨v, h1, h2.symm⟩

theorem Knows.step {c c' : Core} {acc : Bytes → Bool} (hw : Wf c) (h : c.step acc = some c') : Knows c c' := by
  obtain ⟨_, h | ⟨_, h⟩ | ⟨_, _, h⟩ | ⟨_, _, _, h⟩ | ⟨_, _, _, _, h⟩⟩ := step_cases h
  · obtain ⟨v, _, rfl⟩ := turn_eq h
    exact { Knows.refl c with }
  · obtain ⟨p, rfl, _⟩ := propose_eq h
    exact { Knows.refl c with props := fun k hk => isSome_put hw.propsR _ _ k hk }
  · obtain ⟨p, _, _, _, rfl⟩ := prepare_eq h
    exact { Knows.refl c with preps := stays_setTold hw.preps _ _ _ }
  · obtain ⟨v, _, _, rfl⟩ := commit_eq h
    exact { Knows.refl c with comms := stays_setTold hw.comms _ _ _ }
  · obtain ⟨v, _, rfl⟩ := decide_eq h
    exact { Knows.refl c with }

theorem Knows.actN {acc : Bytes → Bool} : ∀ (k : Nat) {c : Core}, Wf c → Knows c (Core.actN acc k c)
  | 0, c, _ => Knows.refl c
  | k + 1, c, hw => by
    simp only [Core.actN]
    split
    · rename_i h1; exact (Knows.step hw h1).trans (Knows.actN k (hw.step h1))
    · exact Knows.refl c

theorem Knows.act {c : Core} (hw : Wf c) (acc : Bytes → Bool) : Knows c (c.act acc) := Knows.actN 32 hw

theorem know_again {c c' : Core} {v : Vote} (hw : Wf c) (hv : voteOk v = true) (hk : Knows (c.know v).2 c') : (c'.know v).1 = false := by
  have h1 := hk.props
  have h2 := hk.preps
  have h3 := hk.comms
  have h4 := hk.turns
  have h5 := hk.decs
  unfold Core.know at h1 h2 h3 h4 h5 ⊢
  have set_false : ∀ {m : AL Told}, (AL.get? (inner m v.view) v.frm).isSome = true → (setTold m v.view v.frm v.value).1 = false := fun h => by rw [setTold_old h]
  by_cases k1 : v.kind = 1
  · simp only [k1, if_true] at h1 ⊢
    have hp : c'.proposer v.view = c.proposer v.view := by
      unfold Core.proposer
      rw [hk.n, hk.slot]
      unfold Core.know
      simp only [k1, if_true]
      split <;> rfl
    by_cases hc : ((AL.get? c.props v.view).isSome || v.frm != c.proposer v.view) = true
    · simp only [hc, if_true] at h1
      have : ((AL.get? c'.props v.view).isSome || v.frm != c'.proposer v.view) = true := by
        rw [hp]
        simp only [Bool.or_eq_true] at hc ⊢
        rcases hc with hc | hc
        · exact Or.inl (h1 _ hc)
        · exact Or.inr hc
      simp [this]
    · simp only [hc, Bool.false_eq_true, if_false] at h1
      have : (AL.get? c'.props v.view).isSome = true := h1 _ (by rw [AL.get?_put _ hw.propsR]; simp)
      simp [this]
  · simp only [k1, if_false] at h2 h3 h4 h5 ⊢
    by_cases k2 : v.kind = 2
    · simp only [k2, if_true] at h2 ⊢
      exact set_false (h2 _ _ (setTold_new hw.preps _ _ _))
    · simp only [k2, if_false] at h3 h4 h5 ⊢
      by_cases k3 : v.kind = 3
      · simp only [k3, if_true] at h3 ⊢
        exact set_false (h3 _ _ (setTold_new hw.comms _ _ _))
      · simp only [k3, if_false] at h4 h5 ⊢
        by_cases k5 : v.kind = 5
        · simp only [k5, if_true] at h4 ⊢
          rw [h4]
          exact set_false (setTold_new hw.turns _ _ _)
        · simp only [k5, if_false] at h5 ⊢
          by_cases hc : (AL.get? c.decs v.frm).isSome = true
          · simp only [hc, if_true] at h5
            rw [h5]; simp [hc]
          · simp only [hc, Bool.false_eq_true, if_false] at h5
            rw [h5, AL.get?_put _ hw.decs.1]; simp

/-- a vote that was taken is not taken again -/
theorem take_again_no {c : Core} (hw : Wf c) {acc : Bytes → Bool} {v : Vote} (h : (c.take acc v).1 = true) : ((c.take acc v).2).take acc v = (false, (c.take acc v).2) := by
  have e : c.take acc v = if v.slot ≠ c.slot ∨ v.frm > c.n ∨ v.frm = c.me ∨ voteOk v = false then (false, c)
    else if (c.know v).1 = false then (false, c)
    else (true, (if v.kind ≠ 4 then { (c.know v).2 with seen := AL.put (c.know v).2.seen v.frm (max ((AL.get? (c.know v).2.seen v.frm).getD 0) v.view) } else (c.know v).2).act acc) := rfl
  by_cases h1 : v.slot ≠ c.slot ∨ v.frm > c.n ∨ v.frm = c.me ∨ voteOk v = false
  · rw [e, if_pos h1] at h; cases h
  · rw [if_neg h1] at e
    by_cases h2 : (c.know v).1 = false
    · rw [e, if_pos h2] at h; cases h
    · rw [if_neg h2] at e
      rw [e]
      simp only [not_or, Bool.not_eq_false] at h1
      obtain ⟨a1, a2, a3, a4⟩ := h1
      have a4' := a4
      simp only [voteOk, decide_eq_true_eq] at a4'
      have hwk := hw.know a4
      have hw2 : Wf (if v.kind ≠ 4 then { (c.know v).2 with seen := AL.put (c.know v).2.seen v.frm (max ((AL.get? (c.know v).2.seen v.frm).getD 0) v.view) } else (c.know v).2) := by
        split
        · refine hwk.put_seen ⟨by omega, by omega⟩ ?_
          have : 0 ≤ (AL.get? (c.know v).2.seen v.frm).getD 0 ∧ (AL.get? (c.know v).2.seen v.frm).getD 0 ≤ 1048576 := by
            cases hs : AL.get? (c.know v).2.seen v.frm with
            | none => simp
            | some x => have := hwk.seen _ _ hs; simp; omega
          omega
        · exact hwk
      have hk0 := Knows.act hw2 acc
      have hid : (if v.kind ≠ 4 then { (c.know v).2 with seen := AL.put (c.know v).2.seen v.frm (max ((AL.get? (c.know v).2.seen v.frm).getD 0) v.view) } else (c.know v).2).n = c.n ∧
          (if v.kind ≠ 4 then { (c.know v).2 with seen := AL.put (c.know v).2.seen v.frm (max ((AL.get? (c.know v).2.seen v.frm).getD 0) v.view) } else (c.know v).2).me = c.me ∧
          (if v.kind ≠ 4 then { (c.know v).2 with seen := AL.put (c.know v).2.seen v.frm (max ((AL.get? (c.know v).2.seen v.frm).getD 0) v.view) } else (c.know v).2).slot = c.slot := by
        have : (c.know v).2.n = c.n ∧ (c.know v).2.me = c.me ∧ (c.know v).2.slot = c.slot := by
          unfold Core.know
          (repeat' split) <;> exact ⟨rfl, rfl, rfl⟩
        split <;> exact this
      obtain ⟨C2, hC2⟩ : ∃ C2, C2 = (if v.kind ≠ 4 then { (c.know v).2 with seen := AL.put (c.know v).2.seen v.frm (max ((AL.get? (c.know v).2.seen v.frm).getD 0) v.view) } else (c.know v).2) := ⟨_, rfl⟩
      rw [← hC2] at hk0 hid ⊢
      have hk1 : ({ (c.know v).2 with seen := C2.seen } : Core) = C2 := by
        rw [hC2]; split <;> rfl
      have hkk : (Core.know (C2.act acc) v).1 = false := by
        have : Knows (c.know v).2 { C2.act acc with seen := (c.know v).2.seen } := by
          have e1 : (c.know v).2 = { C2 with seen := (c.know v).2.seen } := by rw [← hk1]
          exact ⟨by rw [e1]; exact hk0.n, by rw [e1]; exact hk0.me, by rw [e1]; exact hk0.slot, by rw [e1]; exact hk0.props, by rw [e1]; exact hk0.preps, by rw [e1]; exact hk0.comms, by rw [e1]; exact hk0.turns, by rw [e1]; exact hk0.decs, rfl, by rw [e1]; exact hk0.wish, by rw [e1]; exact hk0.wishes⟩
        have := know_again hw a4 this
        have e2 : ∀ (x : Core) (s : AL Int), (Core.know { x with seen := s } v).1 = (Core.know x v).1 := fun x s => by
          have ep : ({ x with seen := s } : Core).proposer v.view = x.proposer v.view := rfl
          unfold Core.know
          rw [ep]
          split
          · split <;> rfl
          · split
            · rfl
            · split
              · rfl
              · split
                · rfl
                · split <;> rfl
        rwa [e2] at this
      unfold Core.take
      rw [hk0.slot, hk0.n, hk0.me, hid.1, hid.2.1, hid.2.2, if_neg (by simp only [not_or, Bool.not_eq_false]; exact ⟨a1, a2, a3, a4⟩)]
      simp only [hkk, if_true]

/-- a second wish says nothing -/
theorem wish_again {c : Core} (hw : Wf c) {acc : Bytes → Bool} {a b : Bytes} (ha : a.length ≤ 4096) : (c.doWish acc a).doWish acc b = c.doWish acc a := by
  have hws : (c.doWish acc a).wishes = true := by
    unfold Core.doWish
    split
    · rename_i h
      rcases h with h | h
      · exact h
      · omega
    · exact (Knows.act (c := { c with wish := a, wishes := true }) { hw with wishL := ha } acc).wishes
  generalize c.doWish acc a = d at hws
  unfold Core.doWish
  rw [if_pos (Or.inl hws)]
end Go.Proofs.Ytkpllkjionegeaa

/- A core that begins anew has the same bytes; how many votes of its own a core has; its values are short. No program. -/
namespace Go.Proofs.Ytkpllkjionegeaa

/-! ### one's own votes as a list by views -/

def ownAL (me : Int) (m : AL Told) : AL Bytes := m.filterMap fun p => (AL.get? p.2 me).map fun value => (p.1, value)

theorem mine_own (c : Core) (kind : Int) (m : AL Told) : c.mine kind m = (ownAL c.me m).map fun p => { kind, frm := c.me, slot := c.slot, view := p.1, valid := -1, value := p.2 } := by
  unfold Core.mine ownAL
  rw [List.map_filterMap]
  congr 1
  funext p
  cases AL.get? p.2 c.me <;> rfl

theorem own_key {me : Int} {m : AL Told} {p : Int × Bytes} (h : p ∈ ownAL me m) : ∃ t, (p.1, t) ∈ m ∧ AL.get? t me = some p.2 := by
  unfold ownAL at h
  obtain ⟨q, hq, he⟩ := List.mem_filterMap.1 h
  obtain ⟨v, hv, e⟩ := Option.map_eq_some_iff.1 he
  subst e
  exact ⟨q.2, hq, hv⟩

theorem rising_own (me : Int) : ∀ {m : AL Told}, AL.Rising m → AL.Rising (ownAL me m)
  | [], _ => List.Pairwise.nil
  | (k, t) :: r, h => by
    obtain ⟨h1, h2⟩ := List.pairwise_cons.1 h
    have ih := rising_own me h2
    unfold ownAL at ih ⊢
    rw [List.filterMap_cons]
    cases AL.get? t me with
    | none => exact ih
    | some v =>
      refine List.pairwise_cons.2 ⟨fun p hp => ?_, ih⟩
      obtain ⟨t', ht, _⟩ := own_key (me := me) (m := r) hp
      exact h1 _ ht

theorem get_own (me : Int) : ∀ {m : AL Told}, AL.Rising m → ∀ k, AL.get? (ownAL me m) k = AL.get? (inner m k) me
  | [], _, k => rfl
  | (j, t) :: r, h, k => by
    obtain ⟨h1, h2⟩ := List.pairwise_cons.1 h
    have ih := get_own me h2 k
    have hin : inner ((j, t) :: r) k = if j = k then t else inner r k := by
      unfold inner
      simp only [AL.get?]
      split <;> rfl
    rw [hin]
    have e : ownAL me ((j, t) :: r) = match AL.get? t me with | none => ownAL me r | some v => (j, v) :: ownAL me r := by
      unfold ownAL
      rw [List.filterMap_cons]
      cases AL.get? t me <;> rfl
    rw [e]
    by_cases hj : j = k
    · subst hj
      rw [if_pos rfl]
      cases hv : AL.get? t me with
      | some v => simp [AL.get?]
      | none =>
        refine AL.get?_none_of_lt fun p hp => ?_
        obtain ⟨t', ht, _⟩ := own_key hp
        exact h1 _ ht
    · rw [if_neg hj]
      cases hv : AL.get? t me with
      | none => exact ih
      | some v => simp only [AL.get?, if_neg hj]; exact ih

theorem own_told (me : Int) (a : AL Bytes) : ownAL me (AL.mapVal (fun v => ([(me, v)] : Told)) a) = a := by
  induction a with
  | nil => rfl
  | cons p r ih =>
    unfold ownAL AL.mapVal at ih ⊢
    rw [List.map_cons, List.filterMap_cons, ih]
    simp [AL.get?]

theorem own_other {m : AL Told} (hm : TWf m) {me view who : Int} {v : Bytes} (hne : who ≠ me) : ownAL me (setTold m view who v).2 = ownAL me m := by
  cases hn : (AL.get? (inner m view) who).isSome with
  | true => rw [setTold_old hn]
  | false =>
    have hr : AL.Rising (setTold m view who v).2 := by
      unfold setTold; simp only [hn, Bool.false_eq_true, if_false]; exact AL.rising_put hm.1
    refine AL.ext_get? (rising_own me hr) (rising_own me hm.1) fun k => ?_
    rw [get_own me hr, get_own me hm.1, get_setTold hm view who v k me hn, if_neg (fun h => hne h.2)]

theorem own_me {m : AL Told} (hm : TWf m) {me view : Int} {v : Bytes} (hn : (AL.get? (inner m view) me).isSome = false) : ownAL me (setTold m view me v).2 = AL.put (ownAL me m) view v := by
  have hr : AL.Rising (setTold m view me v).2 := by
    unfold setTold; simp only [hn, Bool.false_eq_true, if_false]; exact AL.rising_put hm.1
  refine AL.ext_get? (rising_own me hr) (AL.rising_put (rising_own me hm.1)) fun k => ?_
  rw [get_own me hr, get_setTold hm view me v k me hn, AL.get?_put k (rising_own me hm.1), get_own me hm.1]
  by_cases h : view = k <;> simp [h]

theorem length_put {α : Type} : ∀ (m : AL α) (x : Int) (u : α), (AL.put m x u).length ≤ m.length + 1
  | [], _, _ => by simp [AL.put]
  | (k, v) :: r, x, u => by
    have := length_put r x u
    simp only [AL.put]
    split
    · simp
    · split <;> simp <;> omega

theorem own_count_le {m : AL Told} (hm : TWf m) {me view : Int} {v : Bytes} : (ownAL me (setTold m view me v).2).length ≤ (ownAL me m).length + 1 := by
  cases hn : (AL.get? (inner m view) me).isSome with
  | true => rw [setTold_old hn]; exact Nat.le_succ _
  | false => rw [own_me hm hn]; exact length_put _ _ _

/-! ### a core that begins anew -/

theorem anew_own (me : Int) (m : AL Told) : (m.filterMap fun p => (AL.get? p.2 me).map fun value => (p.1, ([(me, value)] : Told))) = AL.mapVal (fun v => ([(me, v)] : Told)) (ownAL me m) := by
  unfold ownAL AL.mapVal
  rw [List.map_filterMap]
  congr 1
  funext p
  cases AL.get? p.2 me <;> rfl

theorem anew_preps (c : Core) : c.anew.preps = AL.mapVal (fun v => ([(c.me, v)] : Told)) (ownAL c.me c.preps) := anew_own c.me c.preps
theorem anew_comms (c : Core) : c.anew.comms = AL.mapVal (fun v => ([(c.me, v)] : Told)) (ownAL c.me c.comms) := anew_own c.me c.comms

theorem anew_bytes (c : Core) : c.anew.bytes = c.bytes := by
  have e1 : c.anew.mine 2 c.anew.preps = c.mine 2 c.preps := by
    rw [mine_own, mine_own, anew_preps]
    show (ownAL c.me _).map _ = _
    rw [own_told]; rfl
  have e2 : c.anew.mine 3 c.anew.comms = c.mine 3 c.comms := by
    rw [mine_own, mine_own, anew_comms]
    show (ownAL c.me _).map _ = _
    rw [own_told]; rfl
  unfold Core.bytes
  rw [e1, e2]
  show four c.view ++ _ ++ _ ++ (if c.decided then 1 :: (four (if c.decided then c.value else []).length ++ (if c.decided then c.value else [])) else 0 :: four 0) = _
  cases c.decided <;> rfl

theorem TWf.told {me : Int} {m : AL Told} (h : TWf m) (hm : 1 ≤ me ∧ me ≤ 64) : TWf (AL.mapVal (fun v => ([(me, v)] : Told)) (ownAL me m)) := by
  refine ⟨AL.rising_mapVal (rising_own me h.1), fun k t ht => ?_⟩
  rw [AL.get?_mapVal, get_own me h.1] at ht
  obtain ⟨v, hv, rfl⟩ := Option.map_eq_some_iff.1 ht
  have hin : Go.Proofs.Ytkpllkjionegeaa.inner m k ≠ [] := fun e => by rw [e] at hv; cases hv
  have hk : ∃ t, AL.get? m k = some t := by
    unfold Go.Proofs.Ytkpllkjionegeaa.inner at hin
    cases hg : AL.get? m k with
    | none => rw [hg] at hin; exact absurd rfl hin
    | some t => exact ⟨t, rfl⟩
  obtain ⟨t, ht⟩ := hk
  refine ⟨(h.2 k t ht).1, by simp [AL.Rising], fun who u hu => ?_⟩
  simp only [AL.get?] at hu
  split at hu
  · rename_i e; cases hu; subst e; exact ⟨hm, ((h.inner k).2 _ _ hv).2⟩
  · cases hu

theorem Wf.anew {c : Core} (h : Wf c) : Wf c.anew := by
  have hm : 1 ≤ c.me ∧ c.me ≤ 64 := ⟨h.me1, by have := h.men; have := h.n64; omega⟩
  have hc : TWf c.anew.comms := by rw [anew_comms]; exact h.comms.told hm
  have hl : -1 ≤ c.anew.lock ∧ c.anew.lock ≤ 1048576 ∧ c.anew.locked.length ≤ 4096 := by
    have e1 : c.anew.lock = match c.anew.comms.getLast? with | some p => p.1 | none => -1 := rfl
    have e2 : c.anew.locked = match c.anew.comms.getLast? with | some p => (AL.get? p.2 c.me).getD [] | none => [] := rfl
    rw [e1, e2]
    cases hg : c.anew.comms.getLast? with
    | none => simp
    | some p =>
      have hp := List.mem_of_getLast? hg
      obtain ⟨k, t⟩ := p
      have ht := AL.get?_of_mem hc.1 hp
      have h1 := hc.2 k t ht
      refine ⟨by show -1 ≤ k; omega, h1.1.2, ?_⟩
      show ((AL.get? t c.me).getD []).length ≤ 4096
      cases hv : AL.get? t c.me with
      | none => simp
      | some v => exact (h1.2.2 _ _ hv).2
  exact
    { n4 := h.n4, n64 := h.n64, me1 := h.me1, men := h.men, s0 := h.s0, s1 := h.s1, v0 := h.v0, v1 := h.v1
      lock0 := hl.1, lock1 := hl.2.1
      wishL := by show ([] : Bytes).length ≤ 4096; simp
      lockedL := hl.2.2
      valueL := by show (if c.decided then c.value else []).length ≤ 4096; split; exact h.valueL; simp
      propsR := AL.rising_nil
      props := fun k p hp => by cases hp
      preps := by rw [anew_preps]; exact h.preps.told hm
      comms := hc
      turns := TWf.nil
      seenR := AL.rising_nil
      seen := fun k x hx => by cases hx
      decs := IWf.nil
      val := fun hd => by show (if c.decided then c.value else []) = []; rw [show c.decided = false from hd]; rfl }

theorem make_wf {n me slot : Int} (h : Core.newOk n me slot = true) : Wf (Core.make n me slot) := by
  unfold Core.newOk at h
  simp only [decide_eq_true_eq] at h
  exact
    { n4 := h.1, n64 := h.2.1, me1 := h.2.2.1, men := h.2.2.2.1, s0 := h.2.2.2.2.1, s1 := h.2.2.2.2.2, v0 := by show (0 : Int) ≤ 0; omega, v1 := by show (0 : Int) ≤ 1048576; omega
      lock0 := by show (-1 : Int) ≤ -1; omega, lock1 := by show (-1 : Int) ≤ 1048576; omega
      wishL := by show ([] : Bytes).length ≤ 4096; simp
      lockedL := by show ([] : Bytes).length ≤ 4096; simp
      valueL := by show ([] : Bytes).length ≤ 4096; simp
      propsR := AL.rising_nil
      props := fun k p hp => by cases hp
      preps := TWf.nil
      comms := TWf.nil
      turns := TWf.nil
      seenR := AL.rising_nil
      seen := fun k x hx => by cases hx
      decs := IWf.nil
      val := fun hd => rfl }

/-! ### what a core's own votes are -/

/-- its own votes are of its view or elder ones -/
def OwnLow (c : Core) : Prop := (∀ k v, AL.get? (ownAL c.me c.preps) k = some v → k ≤ c.view) ∧ ∀ k v, AL.get? (ownAL c.me c.comms) k = some v → k ≤ c.view

def ownN (c : Core) : Nat := (ownAL c.me c.preps).length + (ownAL c.me c.comms).length

theorem low_put {me view : Int} {m : AL Told} (hm : TWf m) {v : Bytes} (h : ∀ k v, AL.get? (ownAL me m) k = some v → k ≤ view) : ∀ k u, AL.get? (ownAL me (setTold m view me v).2) k = some u → k ≤ view := fun k u hu => by
  cases hn : (AL.get? (inner m view) me).isSome with
  | true => rw [setTold_old hn] at hu; exact h k u hu
  | false =>
    rw [own_me hm hn, AL.get?_put k (rising_own me hm.1)] at hu
    split at hu
    · rename_i e; omega
    · exact h k u hu

theorem OwnLow.step {c c' : Core} {acc : Bytes → Bool} (hw : Wf c) (hl : OwnLow c) (h : c.step acc = some c') : OwnLow c' ∧ ownN c' ≤ ownN c + 1 := by
  obtain ⟨_, h | ⟨_, h⟩ | ⟨_, _, h⟩ | ⟨_, _, _, h⟩ | ⟨_, _, _, _, h⟩⟩ := step_cases h
  · obtain ⟨v, hv, rfl⟩ := turn_eq h
    have := (hw.turnTo_spec hv).1
    exact ⟨⟨fun k u hu => by have := hl.1 k u hu; show k ≤ v; omega, fun k u hu => by have := hl.2 k u hu; show k ≤ v; omega⟩, Nat.le_succ _⟩
  · obtain ⟨p, rfl, _⟩ := propose_eq h
    exact ⟨hl, Nat.le_succ _⟩
  · obtain ⟨p, _, _, _, rfl⟩ := prepare_eq h
    have h1 := own_count_le hw.preps (me := c.me) (view := c.view) (v := p.1)
    exact ⟨⟨low_put hw.preps hl.1, hl.2⟩, by unfold ownN; show (ownAL c.me (setTold c.preps c.view c.me p.1).2).length + (ownAL c.me c.comms).length ≤ _; omega⟩
  · obtain ⟨v, _, _, rfl⟩ := commit_eq h
    have h1 := own_count_le hw.comms (me := c.me) (view := c.view) (v := v)
    exact ⟨⟨hl.1, low_put hw.comms hl.2⟩, by unfold ownN; show (ownAL c.me c.preps).length + (ownAL c.me (setTold c.comms c.view c.me v).2).length ≤ _; omega⟩
  · obtain ⟨v, _, rfl⟩ := decide_eq h
    exact ⟨hl, Nat.le_succ _⟩

theorem OwnLow.actN {acc : Bytes → Bool} : ∀ (k : Nat) {c : Core}, Wf c → OwnLow c → OwnLow (Core.actN acc k c) ∧ ownN (Core.actN acc k c) ≤ ownN c + k
  | 0, c, _, h => ⟨h, Nat.le_refl _⟩
  | k + 1, c, hw, h => by
    simp only [Core.actN]
    split
    · rename_i h1
      have h2 := h.step hw h1
      have h3 := OwnLow.actN (acc := acc) k (hw.step h1) h2.1
      exact ⟨h3.1, by omega⟩
    · exact ⟨h, by omega⟩

theorem OwnLow.act {acc : Bytes → Bool} {c : Core} (hw : Wf c) (h : OwnLow c) : OwnLow (c.act acc) ∧ ownN (c.act acc) ≤ ownN c + 32 := OwnLow.actN 32 hw h

theorem know_own {c : Core} (hw : Wf c) {v : Vote} (hne : v.frm ≠ c.me) : ownAL (c.know v).2.me (c.know v).2.preps = ownAL c.me c.preps ∧ ownAL (c.know v).2.me (c.know v).2.comms = ownAL c.me c.comms ∧ (c.know v).2.view = c.view := by
  unfold Core.know
  split
  · split <;> exact ⟨rfl, rfl, rfl⟩
  · split
    · exact ⟨own_other hw.preps hne, rfl, rfl⟩
    · split
      · exact ⟨rfl, own_other hw.comms hne, rfl⟩
      · split
        · exact ⟨rfl, rfl, rfl⟩
        · split <;> exact ⟨rfl, rfl, rfl⟩

theorem OwnLow.know {c : Core} (hw : Wf c) (h : OwnLow c) {v : Vote} (hne : v.frm ≠ c.me) : OwnLow (c.know v).2 ∧ ownN (c.know v).2 = ownN c := by
  obtain ⟨h1, h2, h3⟩ := know_own hw hne
  unfold OwnLow ownN
  rw [h1, h2, h3]
  exact ⟨h, rfl⟩

theorem OwnLow.anew {c : Core} (h : OwnLow c) : OwnLow c.anew ∧ ownN c.anew = ownN c := by
  have e1 : ownAL c.anew.me c.anew.preps = ownAL c.me c.preps := by rw [anew_preps]; exact own_told _ _
  have e2 : ownAL c.anew.me c.anew.comms = ownAL c.me c.comms := by rw [anew_comms]; exact own_told _ _
  unfold OwnLow ownN
  rw [e1, e2]
  exact ⟨h, rfl⟩

/-! ### the values of a core -/

def IV (Q : Bytes → Prop) (t : Told) : Prop := ∀ who v, AL.get? t who = some v → Q v
def TV (Q : Bytes → Prop) (m : AL Told) : Prop := ∀ view, IV Q (inner m view)

structure Vals (Q : Bytes → Prop) (c : Core) : Prop where
  nil : Q []
  wish : Q c.wish
  locked : Q c.locked
  value : Q c.value
  props : ∀ k p, AL.get? c.props k = some p → Q p.1
  preps : TV Q c.preps
  comms : TV Q c.comms
  decs : IV Q c.decs

section
variable {Q : Bytes → Prop}

theorem IV.count {t : Told} (h : IV Q t) (hw : IWf t) {least : Int} {v : Bytes} (hc : count t least = some v) : Q v := by
  obtain ⟨who, hm, _⟩ := count_mem hc
  exact h who v (AL.get?_of_mem hw.1 hm)

theorem TV.set {m : AL Told} (h : TV Q m) (hm : TWf m) {view who : Int} {v : Bytes} (hv : Q v) : TV Q (setTold m view who v).2 := fun u x y hy => by
  cases hn : (AL.get? (inner m view) who).isSome with
  | true => rw [setTold_old hn] at hy; exact h u x y hy
  | false =>
    rw [get_setTold hm view who v u x hn] at hy
    split at hy
    · cases hy; exact hv
    · exact h u x y hy

theorem put_q {β : Type} {R : β → Prop} {m : AL β} (hr : AL.Rising m) (h : ∀ k p, AL.get? m k = some p → R p) {x : Int} {u : β} (hu : R u) : ∀ k p, AL.get? (AL.put m x u) k = some p → R p := fun k p hp => by
  rw [AL.get?_put k hr] at hp
  split at hp
  · cases hp; exact hu
  · exact h k p hp

theorem Vals.agreed {c : Core} (hw : Wf c) (h : Vals Q c) {view : Int} {v : Bytes} (ha : c.agreed view = some v) : Q v := by
  unfold Core.agreed at ha
  obtain ⟨p, hp, rfl⟩ := Option.map_eq_some_iff.1 ha
  exact h.comms view p.1 p.2 (AL.get?_of_mem (hw.comms.inner view).1 (List.mem_of_find?_eq_some hp))

theorem Vals.decision {c : Core} (hw : Wf c) (h : Vals Q c) {v : Bytes} (ha : c.decision = some v) : Q v := by
  unfold Core.decision at ha
  have : ∀ (l : List Int) (v : Bytes), Core.decideIn c l = some v → Q v := by
    intro l
    induction l with
    | nil => intro v h; simp [Core.decideIn] at h
    | cons k r ih =>
      intro v hv
      simp only [Core.decideIn] at hv
      split at hv
      · rename_i u hu; cases hv; exact h.agreed hw hu
      · exact ih v hv
  split at ha
  · rename_i u hu; cases ha; exact this _ _ hu
  · exact h.decs.count hw.decs ha

theorem Vals.step {c c' : Core} {acc : Bytes → Bool} (hw : Wf c) (h : Vals Q c) (hs : c.step acc = some c') : Vals Q c' := by
  obtain ⟨_, hs | ⟨_, hs⟩ | ⟨_, _, hs⟩ | ⟨_, _, _, hs⟩ | ⟨_, _, _, _, hs⟩⟩ := step_cases hs
  · obtain ⟨v, hv, rfl⟩ := turn_eq hs
    exact { h with }
  · obtain ⟨p, rfl, _, _, hp⟩ := propose_eq hs
    have hq : Q p.1 := by
      rcases hp with ⟨view, value, hb, rfl⟩ | ⟨_, _, rfl⟩
      · exact (h.preps view).count (hw.preps.inner view) (hw.best_spec hb).2
      · exact h.wish
    exact { h with props := put_q (R := fun p : Bytes × Int => Q p.1) hw.propsR h.props hq }
  · obtain ⟨p, hp, _, _, rfl⟩ := prepare_eq hs
    exact { h with preps := h.preps.set hw.preps (h.props _ p hp) }
  · obtain ⟨v, hv, _, rfl⟩ := commit_eq hs
    have hq : Q v := (h.preps c.view).count (hw.preps.inner c.view) hv
    exact { h with locked := hq, comms := h.comms.set hw.comms hq }
  · obtain ⟨v, hv, rfl⟩ := decide_eq hs
    exact { h with value := h.decision hw hv }

theorem Vals.actN {acc : Bytes → Bool} : ∀ (k : Nat) {c : Core}, Wf c → Vals Q c → Vals Q (Core.actN acc k c)
  | 0, c, _, h => h
  | k + 1, c, hw, h => by
    simp only [Core.actN]
    split
    · rename_i h1; exact Vals.actN k (hw.step h1) (h.step hw h1)
    · exact h

theorem Vals.act {acc : Bytes → Bool} {c : Core} (hw : Wf c) (h : Vals Q c) : Vals Q (c.act acc) := Vals.actN 32 hw h

theorem Vals.know {c : Core} (hw : Wf c) (h : Vals Q c) {v : Vote} (hv : Q v.value) : Vals Q (c.know v).2 := by
  unfold Core.know
  split
  · split
    · exact h
    · exact { h with props := put_q (R := fun p : Bytes × Int => Q p.1) hw.propsR h.props hv }
  · split
    · exact { h with preps := h.preps.set hw.preps hv }
    · split
      · exact { h with comms := h.comms.set hw.comms hv }
      · split
        · exact { h with }
        · split
          · exact h
          · exact { h with decs := put_q (R := Q) hw.decs.1 h.decs hv }

theorem TV.told {me : Int} {m : AL Told} (h : TV Q m) (hm : AL.Rising m) : TV Q (AL.mapVal (fun v => ([(me, v)] : Told)) (ownAL me m)) := fun view who u hu => by
  unfold inner at hu
  rw [AL.get?_mapVal, get_own me hm] at hu
  cases hg : AL.get? (inner m view) me with
  | none => rw [hg] at hu; cases hu
  | some v =>
    rw [hg] at hu
    simp only [Option.map_some, Option.getD_some, AL.get?] at hu
    split at hu
    · cases hu; exact h view me _ hg
    · cases hu

theorem Vals.anew {c : Core} (hw : Wf c) (h : Vals Q c) : Vals Q c.anew := by
  have hc : TV Q c.anew.comms := by rw [anew_comms]; exact h.comms.told hw.comms.1
  have hl : Q c.anew.locked := by
    have e2 : c.anew.locked = match c.anew.comms.getLast? with | some p => (AL.get? p.2 c.me).getD [] | none => [] := rfl
    rw [e2]
    cases hg : c.anew.comms.getLast? with
    | none => exact h.nil
    | some p =>
      have hp := List.mem_of_getLast? hg
      obtain ⟨k, t⟩ := p
      have ht := AL.get?_of_mem hw.anew.comms.1 hp
      show Q ((AL.get? t c.me).getD [])
      cases hv : AL.get? t c.me with
      | none => exact h.nil
      | some v =>
        have := hc k c.me v
        unfold inner at this
        rw [ht] at this
        exact this hv
  exact ⟨h.nil, h.nil, hl, by show Q (if c.decided then c.value else []); split; exact h.value; exact h.nil, fun k p hp => (by cases hp), by rw [anew_preps]; exact h.preps.told hw.preps.1, hc, fun k p hp => (by cases hp)⟩

theorem Vals.make {n me slot : Int} (h : Q []) : Vals Q (Core.make n me slot) :=
  ⟨h, h, h, h, fun k p hp => (by cases hp), fun k who v hv => (by cases hv), fun k who v hv => (by cases hv), fun k p hp => (by cases hp)⟩
end

/-! ### what holds of a core act by act -/

structure Fine (c : Core) (k : Nat) : Prop where
  wf : Wf c
  low : OwnLow c
  vals : Vals (fun v => v.length ≤ 101) c
  few : ownN c ≤ 32 * k

theorem Fine.make {n me slot : Int} (h : Core.newOk n me slot = true) : Fine (Core.make n me slot) 0 :=
  ⟨make_wf h, ⟨fun k v hv => (by cases hv), fun k v hv => (by cases hv)⟩, Vals.make (by simp), by show (ownAL me []).length + (ownAL me []).length ≤ _; simp [ownAL]⟩

theorem Fine.act {c : Core} {k : Nat} (h : Fine c k) (acc : Bytes → Bool) : Fine (c.act acc) (k + 1) :=
  ⟨h.wf.act acc, (OwnLow.act h.wf h.low).1, h.vals.act h.wf, by have := (OwnLow.act (acc := acc) h.wf h.low).2; have := h.few; omega⟩

theorem Fine.mono {c : Core} {k j : Nat} (h : Fine c k) (hj : k ≤ j) : Fine c j := ⟨h.wf, h.low, h.vals, by have := h.few; omega⟩

theorem Fine.anew {c : Core} {k : Nat} (h : Fine c k) : Fine c.anew k := ⟨h.wf.anew, h.low.anew.1, h.vals.anew h.wf, by rw [h.low.anew.2]; exact h.few⟩

theorem seen_le {c : Core} (h : Wf c) (v : Vote) (hv : voteOk v = true) : 0 ≤ max ((AL.get? c.seen v.frm).getD 0) v.view ∧ max ((AL.get? c.seen v.frm).getD 0) v.view ≤ 1048576 := by
  simp only [voteOk, decide_eq_true_eq] at hv
  have : 0 ≤ (AL.get? c.seen v.frm).getD 0 ∧ (AL.get? c.seen v.frm).getD 0 ≤ 1048576 := by
    cases hs : AL.get? c.seen v.frm with
    | none => simp
    | some x => have := h.seen _ _ hs; simp; omega
  omega

/-- what a core is when it knows a vote that it takes -/
def Core.told (c : Core) (v : Vote) : Core :=
  if v.kind ≠ 4 then { (c.know v).2 with seen := AL.put (c.know v).2.seen v.frm (max ((AL.get? (c.know v).2.seen v.frm).getD 0) v.view) } else (c.know v).2

theorem take_eq (c : Core) (acc : Bytes → Bool) (v : Vote) : c.take acc v = if v.slot ≠ c.slot ∨ v.frm > c.n ∨ v.frm = c.me ∨ voteOk v = false then (false, c)
    else if (c.know v).1 = false then (false, c) else (true, (c.told v).act acc) := rfl

theorem Fine.told {c : Core} {k : Nat} (h : Fine c k) {v : Vote} (hv : voteOk v = true) (hne : v.frm ≠ c.me) (hl : v.value.length ≤ 101) : Fine (c.told v) k := by
  have hk := h.wf.know hv
  have h1 := OwnLow.know h.wf h.low hne
  have h2 := Vals.know h.wf h.vals (v := v) hl
  have a4 := hv
  simp only [voteOk, decide_eq_true_eq] at a4
  unfold Core.told
  split
  · exact ⟨hk.put_seen ⟨by omega, by omega⟩ (seen_le hk v hv), h1.1, { h2 with }, by have := h.few; show ownN (c.know v).2 ≤ _; omega⟩
  · exact ⟨hk, h1.1, h2, by have := h.few; omega⟩

theorem Fine.take {c : Core} {k : Nat} (h : Fine c k) (acc : Bytes → Bool) {v : Vote} (hl : v.value.length ≤ 101) : Fine (c.take acc v).2 (k + 1) := by
  rw [take_eq]
  split
  · exact h.mono (by omega)
  · rename_i hn
    simp only [not_or, Bool.not_eq_false] at hn
    split
    · exact h.mono (by omega)
    · exact (h.told hn.2.2.2 hn.2.2.1 hl).act acc

theorem Fine.wish {c : Core} {k : Nat} (h : Fine c k) (acc : Bytes → Bool) {v : Bytes} (hl : v.length ≤ 101) : Fine (c.doWish acc v) (k + 1) := by
  unfold Core.doWish
  split
  · exact h.mono (by omega)
  · exact Fine.act (c := { c with wish := v, wishes := true }) ⟨{ h.wf with wishL := by show v.length ≤ 4096; omega }, h.low, { h.vals with wish := hl }, h.few⟩ acc

theorem Fine.late {c : Core} {k : Nat} (h : Fine c k) (acc : Bytes → Bool) : Fine (c.late acc) (k + 1) := by
  unfold Core.late
  split
  · rename_i hd
    have h0 := h.wf.v0
    refine Fine.act (c := { c with view := c.view + 1 }) ⟨{ h.wf with v0 := by show 0 ≤ c.view + 1; omega, v1 := by show c.view + 1 ≤ 1048576; omega }, ⟨fun k u hu => ?_, fun k u hu => ?_⟩, { h.vals with }, h.few⟩ acc
    · have := h.low.1 k u hu; show k ≤ c.view + 1; omega
    · have := h.low.2 k u hu; show k ≤ c.view + 1; omega
  · exact h.mono (by omega)

/-! ### how long the bytes are -/

theorem flatMap_len {α : Type} (f : α → Bytes) (b : Nat) : ∀ l : List α, (∀ x ∈ l, (f x).length ≤ b) → (l.flatMap f).length ≤ l.length * b
  | [], _ => by simp
  | x :: r, h => by
    have h1 := h x (by simp)
    have h2 := flatMap_len f b r fun y hy => h y (by simp [hy])
    rw [List.flatMap_cons, List.length_append, List.length_cons, Nat.succ_mul]
    omega

theorem Fine.mine_val {c : Core} {k : Nat} (h : Fine c k) {v : Vote} (kind : Int) (hv : v ∈ c.mine kind c.preps ∨ v ∈ c.mine kind c.comms) : v.value.length ≤ 101 ∧ 0 ≤ v.view ∧ v.view ≤ c.view := by
  have key : ∀ m : AL Told, TWf m → TV (fun v => v.length ≤ 101) m → (∀ k v, AL.get? (ownAL c.me m) k = some v → k ≤ c.view) → v ∈ c.mine kind m → v.value.length ≤ 101 ∧ 0 ≤ v.view ∧ v.view ≤ c.view := fun m hm hq hl hv => by
    rw [mine_own] at hv
    obtain ⟨p, hp, rfl⟩ := List.mem_map.1 hv
    obtain ⟨t, ht, hg⟩ := own_key hp
    have ht' := AL.get?_of_mem hm.1 ht
    have h1 := hq p.1 c.me p.2
    unfold inner at h1
    rw [ht'] at h1
    exact ⟨h1 hg, (hm.2 _ _ ht').1.1, hl p.1 p.2 (AL.get?_of_mem (rising_own c.me hm.1) hp)⟩
  rcases hv with hv | hv
  · exact key _ h.wf.preps h.vals.preps h.low.1 hv
  · exact key _ h.wf.comms h.vals.comms h.low.2 hv

theorem vbytes_len (l : List Vote) (h : ∀ v ∈ l, v.value.length ≤ 101) : (votesBytes l).length ≤ 4 + l.length * 109 := by
  unfold votesBytes
  rw [List.length_append]
  have := flatMap_len (fun v : Vote => four v.view ++ four v.value.length ++ v.value) 109 l (fun v hv => by have := h v hv; simp [four]; omega)
  have e : (four l.length).length = 4 := rfl
  omega

theorem Fine.bytes_len {c : Core} {k : Nat} (h : Fine c k) (hk : k ≤ 200) : c.bytes.length ≤ 800000 := by
  unfold Core.bytes
  simp only [List.length_append]
  have h1 := vbytes_len (c.mine 2 c.preps) (fun v hv => (h.mine_val 2 (Or.inl hv)).1)
  have h2 := vbytes_len (c.mine 3 c.comms) (fun v hv => (h.mine_val 3 (Or.inr hv)).1)
  have h3 : (c.mine 2 c.preps).length + (c.mine 3 c.comms).length = ownN c := by rw [mine_own, mine_own]; simp [ownN]
  have h4 := h.few
  have h5 : (if c.decided then 1 :: (four c.value.length ++ c.value) else 0 :: four 0).length ≤ 106 := by
    have := h.vals.value
    split <;> simp [four] <;> omega
  have e : (four c.view).length = 4 := rfl
  omega
end Go.Proofs.Ytkpllkjionegeaa

/- A region whose operations may come in any order is walked in ONE order: readers are taken early, one at a time; what makes memory comes when nothing else may come; what writes comes when all that was taken early must stand before it. Conditions: the program follows the mixed orders; the region is shown not to panic. -/
namespace Go.Proofs.Ytkpllkjionegeaa
open Go Go.RowKit

/-- Nothing that was there has turned. -/
abbrev Ext (w w' : World) : Prop := Below w.heap.size w w'

theorem Ext.refl (w : World) : Ext w w := Below.refl _ _
theorem Ext.trans {a b c : World} (h : Ext a b) (k : Ext b c) : Ext a c := Below.trans h (Below.mono k h.size)

/-- the plan of an order -/
inductive OT where
  | nil
  | take (i : Nat) (t : OT)
  | pure (i : Nat) (t : OT)
  | one (i : Nat) (t : OT)
  | two (i : Nat) (t : OT) (j : Nat) (u : OT)

/-- from operation j, by binding edges, does one come to i? -/
def reaches (md : Region.Mode) (ops : Array Oper) : Nat → Nat → Nat → Bool
  | 0, _, _ => false
  | f + 1, j, i => match ops[j]? with
    | none => false
    | some o => o.after.any fun e => Region.binds md e && (e.on == i || reaches md ops f e.on i)

/-- the writers that have not come up yet wait for i -/
def awaited (md : Region.Mode) (ops : Array Oper) (wr : List Nat) (listed : Array Bool) (i : Nat) : Bool :=
  wr.all fun j => listed.getD j true || (j != i && reaches md ops ops.size j i)

def okT (md : Region.Mode) (ops : Array Oper) (wr : List Nat) : Array Bool → OT → Bool
  | listed, .nil => (Region.ready md ops listed).isEmpty
  | listed, .take i t => (Region.ready md ops listed).contains i && Region.free md ops listed i && awaited md ops wr listed i && okT md ops wr (listed.setIfInBounds i true) t
  | listed, .pure i t => (Region.ready md ops listed).contains i && Region.free md ops listed i && okT md ops wr (listed.setIfInBounds i true) t
  | listed, .one i t => Region.ready md ops listed == [i] && okT md ops wr (listed.setIfInBounds i true) t
  | listed, .two i t j u => Region.ready md ops listed == [i, j] && okT md ops wr (listed.setIfInBounds i true) t && okT md ops wr (listed.setIfInBounds j true) u

section
variable (P : Program) (ops : Array Oper) (Q : Exit → Act → World → Prop) (wr : List Nat)

/-- what is to be shown, along the plan -/
def wpT : OT → Act → World → Prop
  | .nil, a, w => Q .normal a w
  | .take i t, a, w => ∃ o v, ops[i]? = some o ∧ YieldsIf P ops (Ext w) o v a ∧ wpT t (a.put o.dst v) w
  | .pure i t, a, w => ∃ o v, ops[i]? = some o ∧ YieldsIf P ops (fun _ => True) o v a ∧ wpT t (a.put o.dst v) w
  | .one i t, a, w => wpOp P ops Q i (fun a' w' => (i ∈ wr ∨ Ext w w') ∧ wpT t a' w') a w
  | .two i t j u, a, w => wpOp P ops Q i (fun a' w' => (i ∈ wr ∨ Ext w w') ∧ wpT t a' w') a w ∧ wpOp P ops Q j (fun a' w' => (j ∈ wr ∨ Ext w w') ∧ wpT u a' w') a w

def wpAnyE (md : Region.Mode) : Nat → Array Bool → Act → World → Prop
  | 0, listed, a, w => Region.ready md ops listed = [] ∧ Q .normal a w
  | fuel + 1, listed, a, w =>
    (Region.ready md ops listed = [] → Q .normal a w) ∧
    ∀ i ∈ Region.ready md ops listed, wpOp P ops Q i (fun a' w' => (i ∈ wr ∨ Ext w w') ∧ wpAnyE md fuel (listed.setIfInBounds i true) a' w') a w
end

section
variable {P : Program} {ops : Array Oper} {Q : Exit → Act → World → Prop} {wr : List Nat} {md : Region.Mode}

theorem wpAny_of_E : ∀ (fuel : Nat) (listed : Array Bool) (a : Act) (w : World), wpAnyE P ops Q wr md fuel listed a w → wpAny P md ops Q fuel listed a w
  | 0, _, _, _, h => h
  | fuel + 1, _, _, _, h => ⟨h.1, fun i hi => wpOp_mono (fun a' w' h' => wpAny_of_E fuel _ a' w' h'.2) (h.2 i hi)⟩

/-- what is listed stands on what is listed -/
def Closed (md : Region.Mode) (ops : Array Oper) (listed : Array Bool) : Prop :=
  ∀ j o, ops[j]? = some o → listed.getD j false = true → ∀ e ∈ o.after, Region.binds md e = true → listed.getD e.on false = true

theorem Closed.none (n : Nat) : Closed md ops (Array.replicate n false) := fun j o _ h => by
  exfalso
  by_cases hj : j < n <;> simp [Array.getElem?_replicate, hj] at h

theorem Closed.set {listed : Array Bool} (hc : Closed md ops listed) {i : Nat} (hi : i ∈ Region.ready md ops listed) : Closed md ops (listed.setIfInBounds i true) := by
  intro j o ho hj e he hb
  obtain ⟨_, oi, hoi, hall⟩ := mem_ready.1 hi
  by_cases hij : i = j
  · subst hij
    rw [hoi] at ho
    cases ho
    exact getD_set_true (hall e he hb)
  · rw [getD_set_ne false hij] at hj
    exact getD_set_true (hc j o ho hj e he hb)

theorem reaches_listed {listed : Array Bool} (hc : Closed md ops listed) : ∀ (f j i : Nat), reaches md ops f j i = true →
    (∀ o, ops[j]? = some o → ∀ e ∈ o.after, Region.binds md e = true → listed.getD e.on false = true) → listed.getD i false = true
  | 0, _, _, h, _ => by simp [reaches] at h
  | f + 1, j, i, h, hl => by
    unfold reaches at h
    cases ho : ops[j]? with
    | none => simp [ho] at h
    | some o =>
      simp only [ho] at h
      obtain ⟨e, he, hx⟩ := Array.any_eq_true'.1 h
      simp only [Bool.and_eq_true, Bool.or_eq_true, beq_iff_eq] at hx
      have hle := hl o ho e he hx.1
      rcases hx.2 with rfl | hr
      · exact hle
      · exact reaches_listed hc f e.on i hr (fun o' ho' e' he' hb' => hc e.on o' ho' hle e' he' hb')

theorem awaited_set {listed : Array Bool} {i j : Nat} (h : awaited md ops wr listed i = true) (hji : j ≠ i) : awaited md ops wr (listed.setIfInBounds j true) i = true := by
  unfold awaited at *
  rw [List.all_eq_true] at *
  intro k hk
  have h1 := h k hk
  rw [Bool.or_eq_true] at *
  rcases h1 with h1 | h1
  · left
    by_cases hjk : j = k
    · subst hjk
      rcases Nat.lt_or_ge j listed.size with h' | h'
      · simp [h']
      · simp [Array.getElem?_eq_none h']
    · rw [getD_set_ne true hjk]; exact h1
  · right; exact h1

theorem YieldsIf.later {o : Oper} {v : Value} {a : Act} {w w' : World} (h : YieldsIf P ops (Ext w) o v a) (he : Ext w w') : YieldsIf P ops (Ext w') o v a :=
  h.imp (fun ⟨hw, hv⟩ => ⟨hw, fun w1 h1 => hv w1 (he.trans h1)⟩) id

theorem wpAnyE_first {i : Nat} {oi : Oper} {v : Value} (hi : ops[i]? = some oi) (hsel : ∀ (j : Nat) (o : Oper) cs b, ops[j]? = some o → o.op ≠ .select cs b)
    (hQ : ∀ c a w, Q (.panic c) (a.put oi.dst v) w → Q (.panic c) a w) :
    ∀ (fuel : Nat) (listed : Array Bool) (a : Act) (w : World),
      (∀ j oj, ops[j]? = some oj → j ≠ i → listed.getD j true = false → (∀ e ∈ oj.after, Region.binds md e = true → e.on ≠ i) → oi.apart ops oj = true) →
      Closed md ops listed → awaited md ops wr listed i = true →
      i ∈ Region.ready md ops listed → YieldsIf P ops (Ext w) oi v a →
      wpAnyE P ops Q wr md fuel (listed.setIfInBounds i true) (a.put oi.dst v) w → wpAnyE P ops Q wr md (fuel + 1) listed a w := by
  intro fuel
  induction fuel with
  | zero =>
    intro listed a w _ hc hw hr hy H
    refine ⟨fun h => (by rw [h] at hr; cases hr), fun j hj => ?_⟩
    by_cases hji : j = i
    · subst hji; exact hy.wpOp hi (Ext.refl w) ⟨Or.inr (Ext.refl w), H⟩
    · have := ready_mono hj hji
      rw [H.1] at this
      cases this
  | succ fuel ih =>
    intro listed a w hfree hc hw hr hy H
    refine ⟨fun h => (by rw [h] at hr; cases hr), fun j hj => ?_⟩
    by_cases hji : j = i
    · subst hji; exact hy.wpOp hi (Ext.refl w) ⟨Or.inr (Ext.refl w), H⟩
    · have h1 := H.2 j (ready_mono hj hji)
      obtain ⟨hjun, oj, hoj, hall⟩ := mem_ready.1 hj
      have hiun := (mem_ready.1 hr).1
      have hiF : listed.getD i false ≠ true := by
        intro h1
        rcases Nat.lt_or_ge i listed.size with h' | h'
        · simp [h'] at hiun h1; rw [hiun] at h1; cases h1
        · simp [Array.getElem?_eq_none h'] at hiun
      have hnot : ∀ e ∈ oj.after, Region.binds md e = true → e.on ≠ i := fun e he hb heq => by
        have h1 := hall e he hb
        rw [heq] at h1
        exact hiF h1
      have hjw : j ∉ wr := by
        intro hjw
        unfold awaited at hw
        rw [List.all_eq_true] at hw
        have h2 := hw j hjw
        rw [Bool.or_eq_true, Bool.and_eq_true] at h2
        rcases h2 with h2 | h2
        · rw [hjun] at h2; cases h2
        · exact hiF (reaches_listed hc _ j i h2.2 (fun o ho e he hb => by rw [hoj] at ho; cases ho; exact hall e he hb))
      have h2 := wpOp_putIf hoj (hfree j oj hoj hji hjun hnot) (fun cs b => hsel i oi cs b hi) (fun cs b => hsel j oj cs b hoj) hQ hy h1
      have hfree' : ∀ k ok, ops[k]? = some ok → k ≠ i → (listed.setIfInBounds j true).getD k true = false →
          (∀ e ∈ ok.after, Region.binds md e = true → e.on ≠ i) → oi.apart ops ok = true := fun k ok hk hki hun hno => by
        refine hfree k ok hk hki ?_ hno
        by_cases hjk : j = k
        · subst hjk; exact hjun
        · rw [getD_set_ne true hjk] at hun; exact hun
      refine wpOp_mono (fun a' w' h3 => ?_) h2
      have hext : Ext w w' := h3.2.1.resolve_left hjw
      refine ⟨Or.inr hext, ih (listed.setIfInBounds j true) a' w' hfree' (hc.set hj) (awaited_set hw hji) (ready_mono hr (Ne.symm hji)) (YieldsIf.later h3.1 hext) ?_⟩
      rw [Array.setIfInBounds_comm _ _ hji]
      exact h3.2.2

/-- .. one that looks at no world at all -/
theorem wpAnyE_firstP {i : Nat} {oi : Oper} {v : Value} (hi : ops[i]? = some oi) (hsel : ∀ (j : Nat) (o : Oper) cs b, ops[j]? = some o → o.op ≠ .select cs b)
    (hQ : ∀ c a w, Q (.panic c) (a.put oi.dst v) w → Q (.panic c) a w) :
    ∀ (fuel : Nat) (listed : Array Bool) (a : Act) (w : World),
      (∀ j oj, ops[j]? = some oj → j ≠ i → listed.getD j true = false → (∀ e ∈ oj.after, Region.binds md e = true → e.on ≠ i) → oi.apart ops oj = true) →
      i ∈ Region.ready md ops listed → YieldsIf P ops (fun _ => True) oi v a →
      wpAnyE P ops Q wr md fuel (listed.setIfInBounds i true) (a.put oi.dst v) w → wpAnyE P ops Q wr md (fuel + 1) listed a w := by
  intro fuel
  induction fuel with
  | zero =>
    intro listed a w _ hr hy H
    refine ⟨fun h => (by rw [h] at hr; cases hr), fun j hj => ?_⟩
    by_cases hji : j = i
    · subst hji; exact hy.wpOp hi trivial ⟨Or.inr (Ext.refl w), H⟩
    · have := ready_mono hj hji
      rw [H.1] at this
      cases this
  | succ fuel ih =>
    intro listed a w hfree hr hy H
    refine ⟨fun h => (by rw [h] at hr; cases hr), fun j hj => ?_⟩
    by_cases hji : j = i
    · subst hji; exact hy.wpOp hi trivial ⟨Or.inr (Ext.refl w), H⟩
    · have h1 := H.2 j (ready_mono hj hji)
      obtain ⟨hjun, oj, hoj, hall⟩ := mem_ready.1 hj
      have hnot : ∀ e ∈ oj.after, Region.binds md e = true → e.on ≠ i := fun e he hb heq => by
        have h1 := hall e he hb
        have h0 := (mem_ready.1 hr).1
        rw [heq] at h1
        rcases Nat.lt_or_ge i listed.size with h' | h'
        · simp [h'] at h0 h1; rw [h0] at h1; cases h1
        · simp [Array.getElem?_eq_none h'] at h1
      have h2 := wpOp_putIf hoj (hfree j oj hoj hji hjun hnot) (fun cs b => hsel i oi cs b hi) (fun cs b => hsel j oj cs b hoj) hQ hy h1
      have hfree' : ∀ k ok, ops[k]? = some ok → k ≠ i → (listed.setIfInBounds j true).getD k true = false →
          (∀ e ∈ ok.after, Region.binds md e = true → e.on ≠ i) → oi.apart ops ok = true := fun k ok hk hki hun hno => by
        refine hfree k ok hk hki ?_ hno
        by_cases hjk : j = k
        · subst hjk; exact hjun
        · rw [getD_set_ne true hjk] at hun; exact hun
      refine wpOp_mono (fun a' w' h3 => ⟨h3.2.1, ih (listed.setIfInBounds j true) a' w' hfree' (ready_mono hr (Ne.symm hji)) h3.1 ?_⟩) h2
      rw [Array.setIfInBounds_comm _ _ hji]
      exact h3.2.2

/-- how many steps a plan has -/
def OT.len : OT → Nat
  | .nil => 0
  | .take _ t => t.len + 1
  | .pure _ t => t.len + 1
  | .one _ t => t.len + 1
  | .two _ t _ u => max t.len u.len + 1

theorem wpAnyE_done {listed : Array Bool} {a : Act} {w : World} (hr : Region.ready md ops listed = []) (h : Q .normal a w) : ∀ fuel, wpAnyE P ops Q wr md fuel listed a w
  | 0 => ⟨hr, h⟩
  | _ + 1 => ⟨fun _ => h, by rw [hr]; simp⟩

theorem wpAnyE_of_T (hsel : Region.noSelect ops = true) (hQ : ∀ c a a' w, Q (.panic c) a w → Q (.panic c) a' w) : ∀ (t : OT) (fuel : Nat) (listed : Array Bool) (a : Act) (w : World), t.len ≤ fuel →
    okT md ops wr listed t = true → Closed md ops listed → wpT P ops Q wr t a w → wpAnyE P ops Q wr md fuel listed a w
  | .nil, fuel, listed, a, w, _, hok, _, h => by
    simp only [okT, List.isEmpty_iff] at hok
    exact wpAnyE_done hok h fuel
  | .take i t, fuel, listed, a, w, hl, hok, hc, h => by
    simp only [okT, Bool.and_eq_true, List.contains_iff_mem] at hok
    obtain ⟨⟨⟨hr, hf⟩, haw⟩, hok⟩ := hok
    obtain ⟨o, v, ho, hy, h⟩ := h
    obtain ⟨f, rfl⟩ : ∃ f, fuel = f + 1 := ⟨fuel - 1, by simp [OT.len] at hl; omega⟩
    exact wpAnyE_first ho (Region.noSelect_spec hsel) (fun c a w => hQ c _ _ w) f listed a w (Region.free_spec ho hf) hc haw hr hy
      (wpAnyE_of_T hsel hQ t f _ _ w (by simp [OT.len] at hl; omega) hok (hc.set hr) h)
  | .pure i t, fuel, listed, a, w, hl, hok, hc, h => by
    simp only [okT, Bool.and_eq_true, List.contains_iff_mem] at hok
    obtain ⟨⟨hr, hf⟩, hok⟩ := hok
    obtain ⟨o, v, ho, hy, h⟩ := h
    obtain ⟨f, rfl⟩ : ∃ f, fuel = f + 1 := ⟨fuel - 1, by simp [OT.len] at hl; omega⟩
    exact wpAnyE_firstP ho (Region.noSelect_spec hsel) (fun c a w => hQ c _ _ w) f listed a w (Region.free_spec ho hf) hr hy
      (wpAnyE_of_T hsel hQ t f _ _ w (by simp [OT.len] at hl; omega) hok (hc.set hr) h)
  | .one i t, fuel, listed, a, w, hl, hok, hc, h => by
    simp only [okT, Bool.and_eq_true, beq_iff_eq] at hok
    obtain ⟨hr, hok⟩ := hok
    obtain ⟨f, rfl⟩ : ∃ f, fuel = f + 1 := ⟨fuel - 1, by simp [OT.len] at hl; omega⟩
    have hi : i ∈ Region.ready md ops listed := by rw [hr]; simp
    refine ⟨fun h0 => (by rw [h0] at hr; cases hr), fun j hj => ?_⟩
    rw [hr] at hj
    obtain rfl : j = i := by simpa using hj
    exact wpOp_mono (fun a' w' h' => ⟨h'.1, wpAnyE_of_T hsel hQ t f _ _ w' (by simp [OT.len] at hl; omega) hok (hc.set hi) h'.2⟩) h
  | .two i t j u, fuel, listed, a, w, hl, hok, hc, h => by
    simp only [okT, Bool.and_eq_true, beq_iff_eq] at hok
    obtain ⟨⟨hr, hok1⟩, hok2⟩ := hok
    obtain ⟨f, rfl⟩ : ∃ f, fuel = f + 1 := ⟨fuel - 1, by simp [OT.len] at hl; omega⟩
    have hi : i ∈ Region.ready md ops listed := by rw [hr]; simp
    have hj0 : j ∈ Region.ready md ops listed := by rw [hr]; simp
    refine ⟨fun h0 => (by rw [h0] at hr; cases hr), fun k hk => ?_⟩
    rw [hr] at hk
    simp only [List.mem_cons, List.not_mem_nil, or_false] at hk
    rcases hk with rfl | rfl
    · exact wpOp_mono (fun a' w' h' => ⟨h'.1, wpAnyE_of_T hsel hQ t f _ _ w' (by simp [OT.len] at hl; omega) hok1 (hc.set hi) h'.2⟩) h.1
    · exact wpOp_mono (fun a' w' h' => ⟨h'.1, wpAnyE_of_T hsel hQ u f _ _ w' (by simp [OT.len] at hl; omega) hok2 (hc.set hj0) h'.2⟩) h.2

/-- **THE BEGINNING.** -/
theorem wp_region_T {id : Nat} {a : Act} {w : World} (wr : List Nat) (t : OT) (hm : P.follows .mixedOrders = true)
    (hok : (Region.noSelect ops && decide (t.len ≤ ops.size) && okT .any ops wr (Array.replicate ops.size false) t) = true)
    (h : wpT P ops (NoPanic Q) wr t a w.drew) : (Code.region id ops true).wp P Q a w := by
  simp only [Bool.and_eq_true, decide_eq_true_eq] at hok
  obtain ⟨⟨h1, h2⟩, h3⟩ := hok
  refine wp_region_noPanic (wp_region_any hm (wpAny_of_E _ _ _ _ (wpAnyE_of_T h1 (fun c a a' w => ?_) t ops.size _ a _ h2 h3 (Closed.none _) h)))
  exact fun h => (h : False).elim

theorem at_drop {i : Nat} {o : Oper} {rs : List Oper} (h : ops.toList.drop i = o :: rs) : ops[i]? = some o := by
  have := List.getElem?_drop (xs := ops.toList) (i := i) (j := 0)
  rw [h] at this
  simpa using this.symm

variable {a : Act} {w : World} {t : OT} {i : Nat} {o : Oper} {rs : List Oper}

theorem wpT_nil (h : Q .normal a w) : wpT P ops (NoPanic Q) wr .nil a w := h

/-- a reader without a guard -/
theorem wpT_take (ho' : ops.toList.drop i = o :: rs) (hg : o.guard = none) {v : Value}
    (hy : ∀ w', (∀ b k s, b < w.heap.size → w'.cell? ⟨b, k, s⟩ = w.cell? ⟨b, k, s⟩) → (∀ b, b < w.heap.size → w'.heap[b]? = w.heap[b]?) → w.heap.size ≤ w'.heap.size → (execOp a.eval o).run P w' = .ok (.value v) w')
    (h : wpT P ops Q wr t (a.put o.dst v) w) : wpT P ops Q wr (.take i t) a w :=
  ⟨o, v, at_drop ho', Or.inl ⟨by simp [Region.wanted, hg], fun w' he => hy w' (fun b k s hb => he.cell (p := ⟨b, k, s⟩) hb) he.block he.size⟩, h⟩

/-- a reader with a guard that says yes -/
theorem wpT_take_on (ho' : ops.toList.drop i = o :: rs) (hg : Region.wanted o (yielded ops a.tmps) = true) {v : Value}
    (hy : ∀ w', (∀ b k s, b < w.heap.size → w'.cell? ⟨b, k, s⟩ = w.cell? ⟨b, k, s⟩) → (∀ b, b < w.heap.size → w'.heap[b]? = w.heap[b]?) → w.heap.size ≤ w'.heap.size → (execOp a.eval o).run P w' = .ok (.value v) w')
    (h : wpT P ops Q wr t (a.put o.dst v) w) : wpT P ops Q wr (.take i t) a w :=
  ⟨o, v, at_drop ho', Or.inl ⟨hg, fun w' he => hy w' (fun b k s hb => he.cell (p := ⟨b, k, s⟩) hb) he.block he.size⟩, h⟩

/-- the same behind the draw -/
theorem wpT_take_d (ho' : ops.toList.drop i = o :: rs) (hg : o.guard = none) {v : Value}
    (hy : ∀ w', (∀ b k s, b < w.heap.size → w'.cell? ⟨b, k, s⟩ = w.cell? ⟨b, k, s⟩) → (∀ b, b < w.heap.size → w'.heap[b]? = w.heap[b]?) → w.heap.size ≤ w'.heap.size → (execOp a.eval o).run P w' = .ok (.value v) w')
    (h : wpT P ops Q wr t (a.put o.dst v) w.drew) : wpT P ops Q wr (.take i t) a w.drew := wpT_take ho' hg (fun w' h1 h2 h3 => hy w' h1 h2 h3) h

theorem wpT_take_on_d (ho' : ops.toList.drop i = o :: rs) (hg : Region.wanted o (yielded ops a.tmps) = true) {v : Value}
    (hy : ∀ w', (∀ b k s, b < w.heap.size → w'.cell? ⟨b, k, s⟩ = w.cell? ⟨b, k, s⟩) → (∀ b, b < w.heap.size → w'.heap[b]? = w.heap[b]?) → w.heap.size ≤ w'.heap.size → (execOp a.eval o).run P w' = .ok (.value v) w')
    (h : wpT P ops Q wr t (a.put o.dst v) w.drew) : wpT P ops Q wr (.take i t) a w.drew := wpT_take_on ho' hg (fun w' h1 h2 h3 => hy w' h1 h2 h3) h

theorem wpT_take_dd (ho' : ops.toList.drop i = o :: rs) (hg : o.guard = none) {v : Value}
    (hy : ∀ w', (∀ b k s, b < w.heap.size → w'.cell? ⟨b, k, s⟩ = w.cell? ⟨b, k, s⟩) → (∀ b, b < w.heap.size → w'.heap[b]? = w.heap[b]?) → w.heap.size ≤ w'.heap.size → (execOp a.eval o).run P w' = .ok (.value v) w')
    (h : wpT P ops Q wr t (a.put o.dst v) w.drew.drew) : wpT P ops Q wr (.take i t) a w.drew.drew := wpT_take ho' hg (fun w' h1 h2 h3 => hy w' h1 h2 h3) h

theorem wpT_take_on_dd (ho' : ops.toList.drop i = o :: rs) (hg : Region.wanted o (yielded ops a.tmps) = true) {v : Value}
    (hy : ∀ w', (∀ b k s, b < w.heap.size → w'.cell? ⟨b, k, s⟩ = w.cell? ⟨b, k, s⟩) → (∀ b, b < w.heap.size → w'.heap[b]? = w.heap[b]?) → w.heap.size ≤ w'.heap.size → (execOp a.eval o).run P w' = .ok (.value v) w')
    (h : wpT P ops Q wr t (a.put o.dst v) w.drew.drew) : wpT P ops Q wr (.take i t) a w.drew.drew := wpT_take_on ho' hg (fun w' h1 h2 h3 => hy w' h1 h2 h3) h

theorem wpT_take_ddd (ho' : ops.toList.drop i = o :: rs) (hg : o.guard = none) {v : Value}
    (hy : ∀ w', (∀ b k s, b < w.heap.size → w'.cell? ⟨b, k, s⟩ = w.cell? ⟨b, k, s⟩) → (∀ b, b < w.heap.size → w'.heap[b]? = w.heap[b]?) → w.heap.size ≤ w'.heap.size → (execOp a.eval o).run P w' = .ok (.value v) w')
    (h : wpT P ops Q wr t (a.put o.dst v) w.drew.drew.drew) : wpT P ops Q wr (.take i t) a w.drew.drew.drew := wpT_take ho' hg (fun w' h1 h2 h3 => hy w' h1 h2 h3) h

theorem wpT_take_on_ddd (ho' : ops.toList.drop i = o :: rs) (hg : Region.wanted o (yielded ops a.tmps) = true) {v : Value}
    (hy : ∀ w', (∀ b k s, b < w.heap.size → w'.cell? ⟨b, k, s⟩ = w.cell? ⟨b, k, s⟩) → (∀ b, b < w.heap.size → w'.heap[b]? = w.heap[b]?) → w.heap.size ≤ w'.heap.size → (execOp a.eval o).run P w' = .ok (.value v) w')
    (h : wpT P ops Q wr t (a.put o.dst v) w.drew.drew.drew) : wpT P ops Q wr (.take i t) a w.drew.drew.drew := wpT_take_on ho' hg (fun w' h1 h2 h3 => hy w' h1 h2 h3) h

theorem wpT_take_dddd (ho' : ops.toList.drop i = o :: rs) (hg : o.guard = none) {v : Value}
    (hy : ∀ w', (∀ b k s, b < w.heap.size → w'.cell? ⟨b, k, s⟩ = w.cell? ⟨b, k, s⟩) → (∀ b, b < w.heap.size → w'.heap[b]? = w.heap[b]?) → w.heap.size ≤ w'.heap.size → (execOp a.eval o).run P w' = .ok (.value v) w')
    (h : wpT P ops Q wr t (a.put o.dst v) w.drew.drew.drew.drew) : wpT P ops Q wr (.take i t) a w.drew.drew.drew.drew := wpT_take ho' hg (fun w' h1 h2 h3 => hy w' h1 h2 h3) h

theorem wpT_take_on_dddd (ho' : ops.toList.drop i = o :: rs) (hg : Region.wanted o (yielded ops a.tmps) = true) {v : Value}
    (hy : ∀ w', (∀ b k s, b < w.heap.size → w'.cell? ⟨b, k, s⟩ = w.cell? ⟨b, k, s⟩) → (∀ b, b < w.heap.size → w'.heap[b]? = w.heap[b]?) → w.heap.size ≤ w'.heap.size → (execOp a.eval o).run P w' = .ok (.value v) w')
    (h : wpT P ops Q wr t (a.put o.dst v) w.drew.drew.drew.drew) : wpT P ops Q wr (.take i t) a w.drew.drew.drew.drew := wpT_take_on ho' hg (fun w' h1 h2 h3 => hy w' h1 h2 h3) h

/-- what looks at no world -/
theorem wpT_pure (ho' : ops.toList.drop i = o :: rs) (hg : o.guard = none) {v : Value} (hy : ∀ w', (execOp a.eval o).run P w' = .ok (.value v) w')
    (h : wpT P ops Q wr t (a.put o.dst v) w) : wpT P ops Q wr (.pure i t) a w :=
  ⟨o, v, at_drop ho', Or.inl ⟨by simp [Region.wanted, hg], fun w' _ => hy w'⟩, h⟩

theorem wpT_pure_on (ho' : ops.toList.drop i = o :: rs) (hg : Region.wanted o (yielded ops a.tmps) = true) {v : Value} (hy : ∀ w', (execOp a.eval o).run P w' = .ok (.value v) w')
    (h : wpT P ops Q wr t (a.put o.dst v) w) : wpT P ops Q wr (.pure i t) a w :=
  ⟨o, v, at_drop ho', Or.inl ⟨hg, fun w' _ => hy w'⟩, h⟩

theorem wpT_pure_off (ho' : ops.toList.drop i = o :: rs) (hg : Region.wanted o (yielded ops a.tmps) = false) (h : wpT P ops Q wr t (a.put o.dst undef) w) : wpT P ops Q wr (.pure i t) a w :=
  ⟨o, undef, at_drop ho', Or.inr ⟨hg, rfl⟩, h⟩

/-- one whose guard says no (a call too may be passed by so) -/
theorem wpT_take_off (ho' : ops.toList.drop i = o :: rs) (hg : Region.wanted o (yielded ops a.tmps) = false) (h : wpT P ops Q wr t (a.put o.dst undef) w) : wpT P ops Q wr (.take i t) a w :=
  ⟨o, undef, at_drop ho', Or.inr ⟨hg, rfl⟩, h⟩

theorem wpT_one (ho' : ops.toList.drop i = o :: rs) (hg : o.guard = none)
    (h : ∀ K : Act → World → Prop, (∀ a' w', Ext w w' → wpT P ops Q wr t a' w' → K a' w') → o.wp P a w K Q) : wpT P ops Q wr (.one i t) a w := by
  show wpOp P ops Q i _ a w
  have ho := at_drop ho'
  unfold wpOp
  simp only [ho, Region.wanted, hg, if_true]
  exact Or.inl (h _ fun a' w' h1 h2 => ⟨Or.inr h1, h2⟩)

theorem wpT_one_on (ho' : ops.toList.drop i = o :: rs) (hg : Region.wanted o (yielded ops a.tmps) = true)
    (h : ∀ K : Act → World → Prop, (∀ a' w', Ext w w' → wpT P ops Q wr t a' w' → K a' w') → o.wp P a w K Q) : wpT P ops Q wr (.one i t) a w := by
  show wpOp P ops Q i _ a w
  have ho := at_drop ho'
  unfold wpOp
  simp only [ho, hg, if_true]
  exact Or.inl (h _ fun a' w' h1 h2 => ⟨Or.inr h1, h2⟩)

theorem wpT_one_off (ho' : ops.toList.drop i = o :: rs) (hg : Region.wanted o (yielded ops a.tmps) = false) (h : wpT P ops Q wr t (a.put o.dst undef) w) : wpT P ops Q wr (.one i t) a w := by
  show wpOp P ops Q i _ a w
  have ho := at_drop ho'
  unfold wpOp
  simp only [ho, hg, Bool.false_eq_true, if_false]
  exact ⟨Or.inr (Ext.refl w), h⟩

/-- a writer -/
theorem wpT_writer (ho' : ops.toList.drop i = o :: rs) (hg : o.guard = none) (hw : i ∈ wr)
    (h : ∀ K : Act → World → Prop, (∀ a' w', wpT P ops Q wr t a' w' → K a' w') → o.wp P a w K Q) : wpT P ops Q wr (.one i t) a w := by
  show wpOp P ops Q i _ a w
  have ho := at_drop ho'
  unfold wpOp
  simp only [ho, Region.wanted, hg, if_true]
  exact Or.inl (h _ fun a' w' h2 => ⟨Or.inl hw, h2⟩)

theorem wpT_writer_on (ho' : ops.toList.drop i = o :: rs) (hg : Region.wanted o (yielded ops a.tmps) = true) (hw : i ∈ wr)
    (h : ∀ K : Act → World → Prop, (∀ a' w', wpT P ops Q wr t a' w' → K a' w') → o.wp P a w K Q) : wpT P ops Q wr (.one i t) a w := by
  show wpOp P ops Q i _ a w
  have ho := at_drop ho'
  unfold wpOp
  simp only [ho, hg, if_true]
  exact Or.inl (h _ fun a' w' h2 => ⟨Or.inl hw, h2⟩)

/-- two that write, in either order -/
theorem wpT_two {j : Nat} {u : OT} {oj : Oper} (ho' : ops.toList.drop i = o :: rs) (hg : o.guard = none) (hw : i ∈ wr) {rsj : List Oper} (hoj' : ops.toList.drop j = oj :: rsj) (hgj : oj.guard = none) (hwj : j ∈ wr)
    (h : ∀ K : Act → World → Prop, (∀ a' w', wpT P ops Q wr t a' w' → K a' w') → o.wp P a w K Q)
    (h' : ∀ K : Act → World → Prop, (∀ a' w', wpT P ops Q wr u a' w' → K a' w') → oj.wp P a w K Q) : wpT P ops Q wr (.two i t j u) a w := by
  show wpOp P ops Q i _ a w ∧ wpOp P ops Q j _ a w
  have ho := at_drop ho'
  have hoj := at_drop hoj'
  unfold wpOp
  simp only [ho, Region.wanted, hg, hoj, hgj, if_true]
  exact ⟨Or.inl (h _ fun a' w' h2 => ⟨Or.inl hw, h2⟩), Or.inl (h' _ fun a' w' h2 => ⟨Or.inl hwj, h2⟩)⟩
end
end Go.Proofs.Ytkpllkjionegeaa

/- A region that draws its order, whose readers look at one block alone: operations that do not turn it may come before them (the copy, by program, of the text Draw with 'Same B' for 'Ext'). -/
namespace Go.Proofs.Ytkpllkjionegeaa.DB
open Go Go.RowKit

/-- the block B has not turned -/
def Same (B : Nat) (w w' : World) : Prop := w'.heap[B]? = w.heap[B]? ∧ w.heap.size ≤ w'.heap.size

theorem Same.refl (B : Nat) (w : World) : Same B w w := ⟨rfl, Nat.le_refl _⟩
theorem Same.trans {B : Nat} {a b c : World} (h : Same B a b) (k : Same B b c) : Same B a c := ⟨k.1.trans h.1, Nat.le_trans h.2 k.2⟩

/-- the plan of an order -/
inductive OT where
  | nil
  | take (i : Nat) (t : OT)
  | pure (i : Nat) (t : OT)
  | one (i : Nat) (t : OT)
  | two (i : Nat) (t : OT) (j : Nat) (u : OT)

/-- from operation j, by binding edges, does one come to i? -/
def reaches (md : Region.Mode) (ops : Array Oper) : Nat → Nat → Nat → Bool
  | 0, _, _ => false
  | f + 1, j, i => match ops[j]? with
    | none => false
    | some o => o.after.any fun e => Region.binds md e && (e.on == i || reaches md ops f e.on i)

/-- the writers that have not come up yet wait for i -/
def awaited (md : Region.Mode) (ops : Array Oper) (wr : List Nat) (listed : Array Bool) (i : Nat) : Bool :=
  wr.all fun j => listed.getD j true || (j != i && reaches md ops ops.size j i)

def okT (md : Region.Mode) (ops : Array Oper) (wr : List Nat) : Array Bool → OT → Bool
  | listed, .nil => (Region.ready md ops listed).isEmpty
  | listed, .take i t => (Region.ready md ops listed).contains i && Region.free md ops listed i && awaited md ops wr listed i && okT md ops wr (listed.setIfInBounds i true) t
  | listed, .pure i t => (Region.ready md ops listed).contains i && Region.free md ops listed i && okT md ops wr (listed.setIfInBounds i true) t
  | listed, .one i t => Region.ready md ops listed == [i] && okT md ops wr (listed.setIfInBounds i true) t
  | listed, .two i t j u => Region.ready md ops listed == [i, j] && okT md ops wr (listed.setIfInBounds i true) t && okT md ops wr (listed.setIfInBounds j true) u

section
variable (P : Program) (ops : Array Oper) (Q : Exit → Act → World → Prop) (wr : List Nat) (B : Nat)

/-- what is to be shown, along the plan -/
def wpT : OT → Act → World → Prop
  | .nil, a, w => Q .normal a w
  | .take i t, a, w => ∃ o v, ops[i]? = some o ∧ YieldsIf P ops (Same B w) o v a ∧ wpT t (a.put o.dst v) w
  | .pure i t, a, w => ∃ o v, ops[i]? = some o ∧ YieldsIf P ops (fun _ => True) o v a ∧ wpT t (a.put o.dst v) w
  | .one i t, a, w => wpOp P ops Q i (fun a' w' => (i ∈ wr ∨ Same B w w') ∧ wpT t a' w') a w
  | .two i t j u, a, w => wpOp P ops Q i (fun a' w' => (i ∈ wr ∨ Same B w w') ∧ wpT t a' w') a w ∧ wpOp P ops Q j (fun a' w' => (j ∈ wr ∨ Same B w w') ∧ wpT u a' w') a w

def wpAnyE (md : Region.Mode) : Nat → Array Bool → Act → World → Prop
  | 0, listed, a, w => Region.ready md ops listed = [] ∧ Q .normal a w
  | fuel + 1, listed, a, w =>
    (Region.ready md ops listed = [] → Q .normal a w) ∧
    ∀ i ∈ Region.ready md ops listed, wpOp P ops Q i (fun a' w' => (i ∈ wr ∨ Same B w w') ∧ wpAnyE md fuel (listed.setIfInBounds i true) a' w') a w
end

section
variable {P : Program} {ops : Array Oper} {Q : Exit → Act → World → Prop} {wr : List Nat} {B : Nat} {md : Region.Mode}

theorem wpAny_of_E : ∀ (fuel : Nat) (listed : Array Bool) (a : Act) (w : World), wpAnyE P ops Q wr B md fuel listed a w → wpAny P md ops Q fuel listed a w
  | 0, _, _, _, h => h
  | fuel + 1, _, _, _, h => ⟨h.1, fun i hi => wpOp_mono (fun a' w' h' => wpAny_of_E fuel _ a' w' h'.2) (h.2 i hi)⟩

/-- what is listed stands on what is listed -/
def Closed (md : Region.Mode) (ops : Array Oper) (listed : Array Bool) : Prop :=
  ∀ j o, ops[j]? = some o → listed.getD j false = true → ∀ e ∈ o.after, Region.binds md e = true → listed.getD e.on false = true

theorem Closed.none (n : Nat) : Closed md ops (Array.replicate n false) := fun j o _ h => by
  exfalso
  by_cases hj : j < n <;> simp [Array.getElem?_replicate, hj] at h

theorem Closed.set {listed : Array Bool} (hc : Closed md ops listed) {i : Nat} (hi : i ∈ Region.ready md ops listed) : Closed md ops (listed.setIfInBounds i true) := by
  intro j o ho hj e he hb
  obtain ⟨_, oi, hoi, hall⟩ := mem_ready.1 hi
  by_cases hij : i = j
  · subst hij
    rw [hoi] at ho
    cases ho
    exact getD_set_true (hall e he hb)
  · rw [getD_set_ne false hij] at hj
    exact getD_set_true (hc j o ho hj e he hb)

theorem reaches_listed {listed : Array Bool} (hc : Closed md ops listed) : ∀ (f j i : Nat), reaches md ops f j i = true →
    (∀ o, ops[j]? = some o → ∀ e ∈ o.after, Region.binds md e = true → listed.getD e.on false = true) → listed.getD i false = true
  | 0, _, _, h, _ => by simp [reaches] at h
  | f + 1, j, i, h, hl => by
    unfold reaches at h
    cases ho : ops[j]? with
    | none => simp [ho] at h
    | some o =>
      simp only [ho] at h
      obtain ⟨e, he, hx⟩ := Array.any_eq_true'.1 h
      simp only [Bool.and_eq_true, Bool.or_eq_true, beq_iff_eq] at hx
      have hle := hl o ho e he hx.1
      rcases hx.2 with rfl | hr
      · exact hle
      · exact reaches_listed hc f e.on i hr (fun o' ho' e' he' hb' => hc e.on o' ho' hle e' he' hb')

theorem awaited_set {listed : Array Bool} {i j : Nat} (h : awaited md ops wr listed i = true) (hji : j ≠ i) : awaited md ops wr (listed.setIfInBounds j true) i = true := by
  unfold awaited at *
  rw [List.all_eq_true] at *
  intro k hk
  have h1 := h k hk
  rw [Bool.or_eq_true] at *
  rcases h1 with h1 | h1
  · left
    by_cases hjk : j = k
    · subst hjk
      rcases Nat.lt_or_ge j listed.size with h' | h'
      · simp [h']
      · simp [Array.getElem?_eq_none h']
    · rw [getD_set_ne true hjk]; exact h1
  · right; exact h1

theorem YieldsIf.later {o : Oper} {v : Value} {a : Act} {w w' : World} (h : YieldsIf P ops (Same B w) o v a) (he : Same B w w') : YieldsIf P ops (Same B w') o v a :=
  h.imp (fun ⟨hw, hv⟩ => ⟨hw, fun w1 h1 => hv w1 (he.trans h1)⟩) id

theorem wpAnyE_first {i : Nat} {oi : Oper} {v : Value} (hi : ops[i]? = some oi) (hsel : ∀ (j : Nat) (o : Oper) cs b, ops[j]? = some o → o.op ≠ .select cs b)
    (hQ : ∀ c a w, Q (.panic c) (a.put oi.dst v) w → Q (.panic c) a w) :
    ∀ (fuel : Nat) (listed : Array Bool) (a : Act) (w : World),
      (∀ j oj, ops[j]? = some oj → j ≠ i → listed.getD j true = false → (∀ e ∈ oj.after, Region.binds md e = true → e.on ≠ i) → oi.apart ops oj = true) →
      Closed md ops listed → awaited md ops wr listed i = true →
      i ∈ Region.ready md ops listed → YieldsIf P ops (Same B w) oi v a →
      wpAnyE P ops Q wr B md fuel (listed.setIfInBounds i true) (a.put oi.dst v) w → wpAnyE P ops Q wr B md (fuel + 1) listed a w := by
  intro fuel
  induction fuel with
  | zero =>
    intro listed a w _ hc hw hr hy H
    refine ⟨fun h => (by rw [h] at hr; cases hr), fun j hj => ?_⟩
    by_cases hji : j = i
    · subst hji; exact hy.wpOp hi (Same.refl B w) ⟨Or.inr (Same.refl B w), H⟩
    · have := ready_mono hj hji
      rw [H.1] at this
      cases this
  | succ fuel ih =>
    intro listed a w hfree hc hw hr hy H
    refine ⟨fun h => (by rw [h] at hr; cases hr), fun j hj => ?_⟩
    by_cases hji : j = i
    · subst hji; exact hy.wpOp hi (Same.refl B w) ⟨Or.inr (Same.refl B w), H⟩
    · have h1 := H.2 j (ready_mono hj hji)
      obtain ⟨hjun, oj, hoj, hall⟩ := mem_ready.1 hj
      have hiun := (mem_ready.1 hr).1
      have hiF : listed.getD i false ≠ true := by
        intro h1
        rcases Nat.lt_or_ge i listed.size with h' | h'
        · simp [h'] at hiun h1; rw [hiun] at h1; cases h1
        · simp [Array.getElem?_eq_none h'] at hiun
      have hnot : ∀ e ∈ oj.after, Region.binds md e = true → e.on ≠ i := fun e he hb heq => by
        have h1 := hall e he hb
        rw [heq] at h1
        exact hiF h1
      have hjw : j ∉ wr := by
        intro hjw
        unfold awaited at hw
        rw [List.all_eq_true] at hw
        have h2 := hw j hjw
        rw [Bool.or_eq_true, Bool.and_eq_true] at h2
        rcases h2 with h2 | h2
        · rw [hjun] at h2; cases h2
        · exact hiF (reaches_listed hc _ j i h2.2 (fun o ho e he hb => by rw [hoj] at ho; cases ho; exact hall e he hb))
      have h2 := wpOp_putIf hoj (hfree j oj hoj hji hjun hnot) (fun cs b => hsel i oi cs b hi) (fun cs b => hsel j oj cs b hoj) hQ hy h1
      have hfree' : ∀ k ok, ops[k]? = some ok → k ≠ i → (listed.setIfInBounds j true).getD k true = false →
          (∀ e ∈ ok.after, Region.binds md e = true → e.on ≠ i) → oi.apart ops ok = true := fun k ok hk hki hun hno => by
        refine hfree k ok hk hki ?_ hno
        by_cases hjk : j = k
        · subst hjk; exact hjun
        · rw [getD_set_ne true hjk] at hun; exact hun
      refine wpOp_mono (fun a' w' h3 => ?_) h2
      have hext : Same B w w' := h3.2.1.resolve_left hjw
      refine ⟨Or.inr hext, ih (listed.setIfInBounds j true) a' w' hfree' (hc.set hj) (awaited_set hw hji) (ready_mono hr (Ne.symm hji)) (YieldsIf.later h3.1 hext) ?_⟩
      rw [Array.setIfInBounds_comm _ _ hji]
      exact h3.2.2

/-- .. one that looks at no world at all -/
theorem wpAnyE_firstP {i : Nat} {oi : Oper} {v : Value} (hi : ops[i]? = some oi) (hsel : ∀ (j : Nat) (o : Oper) cs b, ops[j]? = some o → o.op ≠ .select cs b)
    (hQ : ∀ c a w, Q (.panic c) (a.put oi.dst v) w → Q (.panic c) a w) :
    ∀ (fuel : Nat) (listed : Array Bool) (a : Act) (w : World),
      (∀ j oj, ops[j]? = some oj → j ≠ i → listed.getD j true = false → (∀ e ∈ oj.after, Region.binds md e = true → e.on ≠ i) → oi.apart ops oj = true) →
      i ∈ Region.ready md ops listed → YieldsIf P ops (fun _ => True) oi v a →
      wpAnyE P ops Q wr B md fuel (listed.setIfInBounds i true) (a.put oi.dst v) w → wpAnyE P ops Q wr B md (fuel + 1) listed a w := by
  intro fuel
  induction fuel with
  | zero =>
    intro listed a w _ hr hy H
    refine ⟨fun h => (by rw [h] at hr; cases hr), fun j hj => ?_⟩
    by_cases hji : j = i
    · subst hji; exact hy.wpOp hi trivial ⟨Or.inr (Same.refl B w), H⟩
    · have := ready_mono hj hji
      rw [H.1] at this
      cases this
  | succ fuel ih =>
    intro listed a w hfree hr hy H
    refine ⟨fun h => (by rw [h] at hr; cases hr), fun j hj => ?_⟩
    by_cases hji : j = i
    · subst hji; exact hy.wpOp hi trivial ⟨Or.inr (Same.refl B w), H⟩
    · have h1 := H.2 j (ready_mono hj hji)
      obtain ⟨hjun, oj, hoj, hall⟩ := mem_ready.1 hj
      have hnot : ∀ e ∈ oj.after, Region.binds md e = true → e.on ≠ i := fun e he hb heq => by
        have h1 := hall e he hb
        have h0 := (mem_ready.1 hr).1
        rw [heq] at h1
        rcases Nat.lt_or_ge i listed.size with h' | h'
        · simp [h'] at h0 h1; rw [h0] at h1; cases h1
        · simp [Array.getElem?_eq_none h'] at h1
      have h2 := wpOp_putIf hoj (hfree j oj hoj hji hjun hnot) (fun cs b => hsel i oi cs b hi) (fun cs b => hsel j oj cs b hoj) hQ hy h1
      have hfree' : ∀ k ok, ops[k]? = some ok → k ≠ i → (listed.setIfInBounds j true).getD k true = false →
          (∀ e ∈ ok.after, Region.binds md e = true → e.on ≠ i) → oi.apart ops ok = true := fun k ok hk hki hun hno => by
        refine hfree k ok hk hki ?_ hno
        by_cases hjk : j = k
        · subst hjk; exact hjun
        · rw [getD_set_ne true hjk] at hun; exact hun
      refine wpOp_mono (fun a' w' h3 => ⟨h3.2.1, ih (listed.setIfInBounds j true) a' w' hfree' (ready_mono hr (Ne.symm hji)) h3.1 ?_⟩) h2
      rw [Array.setIfInBounds_comm _ _ hji]
      exact h3.2.2

/-- how many steps a plan has -/
def OT.len : OT → Nat
  | .nil => 0
  | .take _ t => t.len + 1
  | .pure _ t => t.len + 1
  | .one _ t => t.len + 1
  | .two _ t _ u => max t.len u.len + 1

theorem wpAnyE_done {listed : Array Bool} {a : Act} {w : World} (hr : Region.ready md ops listed = []) (h : Q .normal a w) : ∀ fuel, wpAnyE P ops Q wr B md fuel listed a w
  | 0 => ⟨hr, h⟩
  | _ + 1 => ⟨fun _ => h, by rw [hr]; simp⟩

theorem wpAnyE_of_T (hsel : Region.noSelect ops = true) (hQ : ∀ c a a' w, Q (.panic c) a w → Q (.panic c) a' w) : ∀ (t : OT) (fuel : Nat) (listed : Array Bool) (a : Act) (w : World), t.len ≤ fuel →
    okT md ops wr listed t = true → Closed md ops listed → wpT P ops Q wr B t a w → wpAnyE P ops Q wr B md fuel listed a w
  | .nil, fuel, listed, a, w, _, hok, _, h => by
    simp only [okT, List.isEmpty_iff] at hok
    exact wpAnyE_done hok h fuel
  | .take i t, fuel, listed, a, w, hl, hok, hc, h => by
    simp only [okT, Bool.and_eq_true, List.contains_iff_mem] at hok
    obtain ⟨⟨⟨hr, hf⟩, haw⟩, hok⟩ := hok
    obtain ⟨o, v, ho, hy, h⟩ := h
    obtain ⟨f, rfl⟩ : ∃ f, fuel = f + 1 := ⟨fuel - 1, by simp [OT.len] at hl; omega⟩
    exact wpAnyE_first ho (Region.noSelect_spec hsel) (fun c a w => hQ c _ _ w) f listed a w (Region.free_spec ho hf) hc haw hr hy
      (wpAnyE_of_T hsel hQ t f _ _ w (by simp [OT.len] at hl; omega) hok (hc.set hr) h)
  | .pure i t, fuel, listed, a, w, hl, hok, hc, h => by
    simp only [okT, Bool.and_eq_true, List.contains_iff_mem] at hok
    obtain ⟨⟨hr, hf⟩, hok⟩ := hok
    obtain ⟨o, v, ho, hy, h⟩ := h
    obtain ⟨f, rfl⟩ : ∃ f, fuel = f + 1 := ⟨fuel - 1, by simp [OT.len] at hl; omega⟩
    exact wpAnyE_firstP ho (Region.noSelect_spec hsel) (fun c a w => hQ c _ _ w) f listed a w (Region.free_spec ho hf) hr hy
      (wpAnyE_of_T hsel hQ t f _ _ w (by simp [OT.len] at hl; omega) hok (hc.set hr) h)
  | .one i t, fuel, listed, a, w, hl, hok, hc, h => by
    simp only [okT, Bool.and_eq_true, beq_iff_eq] at hok
    obtain ⟨hr, hok⟩ := hok
    obtain ⟨f, rfl⟩ : ∃ f, fuel = f + 1 := ⟨fuel - 1, by simp [OT.len] at hl; omega⟩
    have hi : i ∈ Region.ready md ops listed := by rw [hr]; simp
    refine ⟨fun h0 => (by rw [h0] at hr; cases hr), fun j hj => ?_⟩
    rw [hr] at hj
    obtain rfl : j = i := by simpa using hj
    exact wpOp_mono (fun a' w' h' => ⟨h'.1, wpAnyE_of_T hsel hQ t f _ _ w' (by simp [OT.len] at hl; omega) hok (hc.set hi) h'.2⟩) h
  | .two i t j u, fuel, listed, a, w, hl, hok, hc, h => by
    simp only [okT, Bool.and_eq_true, beq_iff_eq] at hok
    obtain ⟨⟨hr, hok1⟩, hok2⟩ := hok
    obtain ⟨f, rfl⟩ : ∃ f, fuel = f + 1 := ⟨fuel - 1, by simp [OT.len] at hl; omega⟩
    have hi : i ∈ Region.ready md ops listed := by rw [hr]; simp
    have hj0 : j ∈ Region.ready md ops listed := by rw [hr]; simp
    refine ⟨fun h0 => (by rw [h0] at hr; cases hr), fun k hk => ?_⟩
    rw [hr] at hk
    simp only [List.mem_cons, List.not_mem_nil, or_false] at hk
    rcases hk with rfl | rfl
    · exact wpOp_mono (fun a' w' h' => ⟨h'.1, wpAnyE_of_T hsel hQ t f _ _ w' (by simp [OT.len] at hl; omega) hok1 (hc.set hi) h'.2⟩) h.1
    · exact wpOp_mono (fun a' w' h' => ⟨h'.1, wpAnyE_of_T hsel hQ u f _ _ w' (by simp [OT.len] at hl; omega) hok2 (hc.set hj0) h'.2⟩) h.2

/-- **THE BEGINNING.** -/
theorem wp_region_T {id : Nat} {a : Act} {w : World} (B : Nat) (wr : List Nat) (t : OT) (hm : P.follows .mixedOrders = true)
    (hok : (Region.noSelect ops && decide (t.len ≤ ops.size) && okT .any ops wr (Array.replicate ops.size false) t) = true)
    (h : wpT P ops (NoPanic Q) wr B t a w.drew) : (Code.region id ops true).wp P Q a w := by
  simp only [Bool.and_eq_true, decide_eq_true_eq] at hok
  obtain ⟨⟨h1, h2⟩, h3⟩ := hok
  refine wp_region_noPanic (wp_region_any hm (wpAny_of_E _ _ _ _ (wpAnyE_of_T h1 (fun c a a' w => ?_) t ops.size _ a _ h2 h3 (Closed.none _) h)))
  exact fun h => (h : False).elim

theorem at_drop {i : Nat} {o : Oper} {rs : List Oper} (h : ops.toList.drop i = o :: rs) : ops[i]? = some o := by
  have := List.getElem?_drop (xs := ops.toList) (i := i) (j := 0)
  rw [h] at this
  simpa using this.symm

variable {a : Act} {w : World} {t : OT} {i : Nat} {o : Oper} {rs : List Oper}

theorem wpT_nil (h : Q .normal a w) : wpT P ops (NoPanic Q) wr B .nil a w := h

/-- a reader without a guard -/
theorem wpT_take (ho' : ops.toList.drop i = o :: rs) (hg : o.guard = none) {v : Value}
    (hy : ∀ w', (∀ k s, w'.cell? ⟨B, k, s⟩ = w.cell? ⟨B, k, s⟩) → (w'.heap[B]? = w.heap[B]?) → w.heap.size ≤ w'.heap.size → (execOp a.eval o).run P w' = .ok (.value v) w')
    (h : wpT P ops Q wr B t (a.put o.dst v) w) : wpT P ops Q wr B (.take i t) a w :=
  ⟨o, v, at_drop ho', Or.inl ⟨by simp [Region.wanted, hg], fun w' he => hy w' (fun k s => World.cell?_of_block (a := ⟨B, k, s⟩) he.1) he.1 he.2⟩, h⟩

/-- a reader with a guard that says yes -/
theorem wpT_take_on (ho' : ops.toList.drop i = o :: rs) (hg : Region.wanted o (yielded ops a.tmps) = true) {v : Value}
    (hy : ∀ w', (∀ k s, w'.cell? ⟨B, k, s⟩ = w.cell? ⟨B, k, s⟩) → (w'.heap[B]? = w.heap[B]?) → w.heap.size ≤ w'.heap.size → (execOp a.eval o).run P w' = .ok (.value v) w')
    (h : wpT P ops Q wr B t (a.put o.dst v) w) : wpT P ops Q wr B (.take i t) a w :=
  ⟨o, v, at_drop ho', Or.inl ⟨hg, fun w' he => hy w' (fun k s => World.cell?_of_block (a := ⟨B, k, s⟩) he.1) he.1 he.2⟩, h⟩

/-- the same behind the draw -/
theorem wpT_take_d (ho' : ops.toList.drop i = o :: rs) (hg : o.guard = none) {v : Value}
    (hy : ∀ w', (∀ k s, w'.cell? ⟨B, k, s⟩ = w.cell? ⟨B, k, s⟩) → (w'.heap[B]? = w.heap[B]?) → w.heap.size ≤ w'.heap.size → (execOp a.eval o).run P w' = .ok (.value v) w')
    (h : wpT P ops Q wr B t (a.put o.dst v) w.drew) : wpT P ops Q wr B (.take i t) a w.drew := wpT_take ho' hg (fun w' h1 h2 h3 => hy w' h1 h2 h3) h

theorem wpT_take_on_d (ho' : ops.toList.drop i = o :: rs) (hg : Region.wanted o (yielded ops a.tmps) = true) {v : Value}
    (hy : ∀ w', (∀ k s, w'.cell? ⟨B, k, s⟩ = w.cell? ⟨B, k, s⟩) → (w'.heap[B]? = w.heap[B]?) → w.heap.size ≤ w'.heap.size → (execOp a.eval o).run P w' = .ok (.value v) w')
    (h : wpT P ops Q wr B t (a.put o.dst v) w.drew) : wpT P ops Q wr B (.take i t) a w.drew := wpT_take_on ho' hg (fun w' h1 h2 h3 => hy w' h1 h2 h3) h

theorem wpT_take_dd (ho' : ops.toList.drop i = o :: rs) (hg : o.guard = none) {v : Value}
    (hy : ∀ w', (∀ k s, w'.cell? ⟨B, k, s⟩ = w.cell? ⟨B, k, s⟩) → (w'.heap[B]? = w.heap[B]?) → w.heap.size ≤ w'.heap.size → (execOp a.eval o).run P w' = .ok (.value v) w')
    (h : wpT P ops Q wr B t (a.put o.dst v) w.drew.drew) : wpT P ops Q wr B (.take i t) a w.drew.drew := wpT_take ho' hg (fun w' h1 h2 h3 => hy w' h1 h2 h3) h

theorem wpT_take_on_dd (ho' : ops.toList.drop i = o :: rs) (hg : Region.wanted o (yielded ops a.tmps) = true) {v : Value}
    (hy : ∀ w', (∀ k s, w'.cell? ⟨B, k, s⟩ = w.cell? ⟨B, k, s⟩) → (w'.heap[B]? = w.heap[B]?) → w.heap.size ≤ w'.heap.size → (execOp a.eval o).run P w' = .ok (.value v) w')
    (h : wpT P ops Q wr B t (a.put o.dst v) w.drew.drew) : wpT P ops Q wr B (.take i t) a w.drew.drew := wpT_take_on ho' hg (fun w' h1 h2 h3 => hy w' h1 h2 h3) h

theorem wpT_take_ddd (ho' : ops.toList.drop i = o :: rs) (hg : o.guard = none) {v : Value}
    (hy : ∀ w', (∀ k s, w'.cell? ⟨B, k, s⟩ = w.cell? ⟨B, k, s⟩) → (w'.heap[B]? = w.heap[B]?) → w.heap.size ≤ w'.heap.size → (execOp a.eval o).run P w' = .ok (.value v) w')
    (h : wpT P ops Q wr B t (a.put o.dst v) w.drew.drew.drew) : wpT P ops Q wr B (.take i t) a w.drew.drew.drew := wpT_take ho' hg (fun w' h1 h2 h3 => hy w' h1 h2 h3) h

theorem wpT_take_on_ddd (ho' : ops.toList.drop i = o :: rs) (hg : Region.wanted o (yielded ops a.tmps) = true) {v : Value}
    (hy : ∀ w', (∀ k s, w'.cell? ⟨B, k, s⟩ = w.cell? ⟨B, k, s⟩) → (w'.heap[B]? = w.heap[B]?) → w.heap.size ≤ w'.heap.size → (execOp a.eval o).run P w' = .ok (.value v) w')
    (h : wpT P ops Q wr B t (a.put o.dst v) w.drew.drew.drew) : wpT P ops Q wr B (.take i t) a w.drew.drew.drew := wpT_take_on ho' hg (fun w' h1 h2 h3 => hy w' h1 h2 h3) h

theorem wpT_take_dddd (ho' : ops.toList.drop i = o :: rs) (hg : o.guard = none) {v : Value}
    (hy : ∀ w', (∀ k s, w'.cell? ⟨B, k, s⟩ = w.cell? ⟨B, k, s⟩) → (w'.heap[B]? = w.heap[B]?) → w.heap.size ≤ w'.heap.size → (execOp a.eval o).run P w' = .ok (.value v) w')
    (h : wpT P ops Q wr B t (a.put o.dst v) w.drew.drew.drew.drew) : wpT P ops Q wr B (.take i t) a w.drew.drew.drew.drew := wpT_take ho' hg (fun w' h1 h2 h3 => hy w' h1 h2 h3) h

theorem wpT_take_on_dddd (ho' : ops.toList.drop i = o :: rs) (hg : Region.wanted o (yielded ops a.tmps) = true) {v : Value}
    (hy : ∀ w', (∀ k s, w'.cell? ⟨B, k, s⟩ = w.cell? ⟨B, k, s⟩) → (w'.heap[B]? = w.heap[B]?) → w.heap.size ≤ w'.heap.size → (execOp a.eval o).run P w' = .ok (.value v) w')
    (h : wpT P ops Q wr B t (a.put o.dst v) w.drew.drew.drew.drew) : wpT P ops Q wr B (.take i t) a w.drew.drew.drew.drew := wpT_take_on ho' hg (fun w' h1 h2 h3 => hy w' h1 h2 h3) h

/-- what looks at no world -/
theorem wpT_pure (ho' : ops.toList.drop i = o :: rs) (hg : o.guard = none) {v : Value} (hy : ∀ w', (execOp a.eval o).run P w' = .ok (.value v) w')
    (h : wpT P ops Q wr B t (a.put o.dst v) w) : wpT P ops Q wr B (.pure i t) a w :=
  ⟨o, v, at_drop ho', Or.inl ⟨by simp [Region.wanted, hg], fun w' _ => hy w'⟩, h⟩

theorem wpT_pure_on (ho' : ops.toList.drop i = o :: rs) (hg : Region.wanted o (yielded ops a.tmps) = true) {v : Value} (hy : ∀ w', (execOp a.eval o).run P w' = .ok (.value v) w')
    (h : wpT P ops Q wr B t (a.put o.dst v) w) : wpT P ops Q wr B (.pure i t) a w :=
  ⟨o, v, at_drop ho', Or.inl ⟨hg, fun w' _ => hy w'⟩, h⟩

theorem wpT_pure_off (ho' : ops.toList.drop i = o :: rs) (hg : Region.wanted o (yielded ops a.tmps) = false) (h : wpT P ops Q wr B t (a.put o.dst undef) w) : wpT P ops Q wr B (.pure i t) a w :=
  ⟨o, undef, at_drop ho', Or.inr ⟨hg, rfl⟩, h⟩

/-- one whose guard says no (a call too may be passed by so) -/
theorem wpT_take_off (ho' : ops.toList.drop i = o :: rs) (hg : Region.wanted o (yielded ops a.tmps) = false) (h : wpT P ops Q wr B t (a.put o.dst undef) w) : wpT P ops Q wr B (.take i t) a w :=
  ⟨o, undef, at_drop ho', Or.inr ⟨hg, rfl⟩, h⟩

theorem wpT_one (ho' : ops.toList.drop i = o :: rs) (hg : o.guard = none)
    (h : ∀ K : Act → World → Prop, (∀ a' w', Same B w w' → wpT P ops Q wr B t a' w' → K a' w') → o.wp P a w K Q) : wpT P ops Q wr B (.one i t) a w := by
  show wpOp P ops Q i _ a w
  have ho := at_drop ho'
  unfold wpOp
  simp only [ho, Region.wanted, hg, if_true]
  exact Or.inl (h _ fun a' w' h1 h2 => ⟨Or.inr h1, h2⟩)

theorem wpT_one_on (ho' : ops.toList.drop i = o :: rs) (hg : Region.wanted o (yielded ops a.tmps) = true)
    (h : ∀ K : Act → World → Prop, (∀ a' w', Same B w w' → wpT P ops Q wr B t a' w' → K a' w') → o.wp P a w K Q) : wpT P ops Q wr B (.one i t) a w := by
  show wpOp P ops Q i _ a w
  have ho := at_drop ho'
  unfold wpOp
  simp only [ho, hg, if_true]
  exact Or.inl (h _ fun a' w' h1 h2 => ⟨Or.inr h1, h2⟩)

theorem wpT_one_off (ho' : ops.toList.drop i = o :: rs) (hg : Region.wanted o (yielded ops a.tmps) = false) (h : wpT P ops Q wr B t (a.put o.dst undef) w) : wpT P ops Q wr B (.one i t) a w := by
  show wpOp P ops Q i _ a w
  have ho := at_drop ho'
  unfold wpOp
  simp only [ho, hg, Bool.false_eq_true, if_false]
  exact ⟨Or.inr (Same.refl B w), h⟩

/-- a writer -/
theorem wpT_writer (ho' : ops.toList.drop i = o :: rs) (hg : o.guard = none) (hw : i ∈ wr)
    (h : ∀ K : Act → World → Prop, (∀ a' w', wpT P ops Q wr B t a' w' → K a' w') → o.wp P a w K Q) : wpT P ops Q wr B (.one i t) a w := by
  show wpOp P ops Q i _ a w
  have ho := at_drop ho'
  unfold wpOp
  simp only [ho, Region.wanted, hg, if_true]
  exact Or.inl (h _ fun a' w' h2 => ⟨Or.inl hw, h2⟩)

theorem wpT_writer_on (ho' : ops.toList.drop i = o :: rs) (hg : Region.wanted o (yielded ops a.tmps) = true) (hw : i ∈ wr)
    (h : ∀ K : Act → World → Prop, (∀ a' w', wpT P ops Q wr B t a' w' → K a' w') → o.wp P a w K Q) : wpT P ops Q wr B (.one i t) a w := by
  show wpOp P ops Q i _ a w
  have ho := at_drop ho'
  unfold wpOp
  simp only [ho, hg, if_true]
  exact Or.inl (h _ fun a' w' h2 => ⟨Or.inl hw, h2⟩)

/-- two that write, in either order -/
theorem wpT_two {j : Nat} {u : OT} {oj : Oper} (ho' : ops.toList.drop i = o :: rs) (hg : o.guard = none) (hw : i ∈ wr) {rsj : List Oper} (hoj' : ops.toList.drop j = oj :: rsj) (hgj : oj.guard = none) (hwj : j ∈ wr)
    (h : ∀ K : Act → World → Prop, (∀ a' w', wpT P ops Q wr B t a' w' → K a' w') → o.wp P a w K Q)
    (h' : ∀ K : Act → World → Prop, (∀ a' w', wpT P ops Q wr B u a' w' → K a' w') → oj.wp P a w K Q) : wpT P ops Q wr B (.two i t j u) a w := by
  show wpOp P ops Q i _ a w ∧ wpOp P ops Q j _ a w
  have ho := at_drop ho'
  have hoj := at_drop hoj'
  unfold wpOp
  simp only [ho, Region.wanted, hg, hoj, hgj, if_true]
  exact ⟨Or.inl (h _ fun a' w' h2 => ⟨Or.inl hw, h2⟩), Or.inl (h' _ fun a' w' h2 => ⟨Or.inl hwj, h2⟩)⟩
end
end Go.Proofs.Ytkpllkjionegeaa.DB

/- A map's block in memory, keyed by ints, read as a list that rises by its keys: look up, store, make, range. Over any program. -/
namespace Go.Proofs.Ytkpllkjionegeaa
open Go Go.RowKit Go.MapKept Go.ChangeMaps

/-- an entry as a pair -/
def kv (e : MapEntry) : Value × Value := (e.key, e.val)
/-- a pair as it lies -/
def kw (p : Int × Value) : Value × Value := (.int .i64 p.1, p.2)

/-- BLOCK r IS A MAP THAT READS AS m. -/
def MapAt (w : World) (r : Nat) (m : AL Value) : Prop :=
  ∃ es clk, w.heap[r]? = some (.map es clk) ∧ Stamped es clk ∧ (es.toList.map kv).Perm (m.map kw) ∧ AL.Rising m

theorem MapAt.lt {w : World} {r : Nat} {m : AL Value} (h : MapAt w r m) : r < w.heap.size := by
  obtain ⟨es, clk, hb, _⟩ := h
  exact (Array.getElem?_eq_some_iff.1 hb).1

theorem MapAt.rising {w : World} {r : Nat} {m : AL Value} (h : MapAt w r m) : AL.Rising m := by
  obtain ⟨es, clk, _, _, _, hr⟩ := h; exact hr

theorem MapAt.kept {w w' : World} {r : Nat} {m : AL Value} (h : MapAt w r m) (hb : w'.heap[r]? = w.heap[r]?) : MapAt w' r m := by
  obtain ⟨es, clk, h1, h2⟩ := h
  exact ⟨es, clk, hb.trans h1, h2⟩

theorem MapAt.ext {w w' : World} {r : Nat} {m : AL Value} (h : MapAt w r m) (hx : Ext w w') : MapAt w' r m := h.kept (hx.block r h.lt)

theorem MapAt.made (w : World) : MapAt (w.alloc (.map #[] 0)) w.heap.size [] :=
  ⟨#[], 0, (heap_alloc w _).1, stamped_empty 0, by simp, AL.rising_nil⟩

/-- the same block cannot read as two -/
theorem MapAt.same {w : World} {r : Nat} {m m' : AL Value} (h : MapAt w r m) (h' : MapAt w r m') : m = m' := by
  obtain ⟨es, clk, h1, h2, h3, h4⟩ := h
  obtain ⟨es', clk', h1', h2', h3', h4'⟩ := h'
  rw [h1] at h1'
  cases h1'
  have hp : (m.map kw).Perm (m'.map kw) := h3.symm.trans h3'
  have hinj : ∀ a b, kw a = kw b → a = b := fun a b h => by
    obtain ⟨a1, a2⟩ := a; obtain ⟨b1, b2⟩ := b
    simp [kw] at h; rw [h.1, h.2]
  refine AL.ext_get? h4 h4' fun x => ?_
  apply Option.ext
  intro v
  have key : ∀ {l l' : AL Value}, AL.Rising l → AL.Rising l' → (l.map kw).Perm (l'.map kw) → AL.get? l x = some v → AL.get? l' x = some v := fun {l l'} hl hl' hp h => by
    have hm := (hp.mem_iff (a := kw (x, v))).1 (List.mem_map_of_mem (AL.get?_mem h))
    obtain ⟨q, hq, he⟩ := List.mem_map.1 hm
    exact AL.get?_of_mem hl' ((hinj _ _ he) ▸ hq)
  exact ⟨key h4 h4' hp, key h4' h4 hp.symm⟩

section
variable {P : Program} {w : World} {r : Nat} {m : AL Value} {t e : TypeId}

theorem isKey_int (k : Int) : IsKey (.int .i64) (.int .i64 k) := by simp [IsKey]

theorem entries_keys {es : Array MapEntry} {m : AL Value} (hp : (es.toList.map kv).Perm (m.map kw)) : ∀ y ∈ es.toList, ∃ x : Int, y.key = .int .i64 x ∧ (x, y.val) ∈ m := fun y hy => by
  have := (hp.mem_iff (a := kv y)).1 (List.mem_map_of_mem hy)
  obtain ⟨q, hq, he⟩ := List.mem_map.1 this
  obtain ⟨q1, q2⟩ := q
  simp [kv, kw] at he
  exact ⟨q1, he.1.symm, by rw [← he.2]; exact hq⟩

theorem find_spec {es : Array MapEntry} (hp : (es.toList.map kv).Perm (m.map kw)) (hr : AL.Rising m) (k : Int) :
    (Instr.findNow (.int .i64) (.int .i64 k) es.toList 0 = some none ∧ AL.get? m k = none ∧ ∀ y ∈ es.toList, y.key ≠ .int .i64 k) ∨
    ∃ j y, Instr.findNow (.int .i64) (.int .i64 k) es.toList 0 = some (some (j, y.val)) ∧ es[j]? = some y ∧ y.key = .int .i64 k ∧ AL.get? m k = some y.val := by
  have hks : ∀ y ∈ es.toList, IsKey (.int .i64) y.key := fun y hy => by
    obtain ⟨x, hx, _⟩ := entries_keys hp y hy
    rw [hx]; exact isKey_int x
  rcases findNow_spec (isKey_int k) es.toList 0 hks with ⟨h1, h2⟩ | ⟨j, y, h1, h2, h3⟩
  · refine Or.inl ⟨h1, ?_, h2⟩
    cases hg : AL.get? m k with
    | none => rfl
    | some v =>
      exfalso
      have hm := AL.get?_mem hg
      have := (hp.mem_iff (a := kw (k, v))).2 (List.mem_map_of_mem hm)
      obtain ⟨y, hy, he⟩ := List.mem_map.1 this
      simp [kv, kw] at he
      exact h2 y hy he.1
  · refine Or.inr ⟨j, y, by simpa using h1, by simpa using h2, h3, ?_⟩
    have hy : y ∈ es.toList := List.mem_of_getElem? h2
    obtain ⟨x, hx, hm⟩ := entries_keys hp y hy
    rw [hx] at h3
    cases h3
    exact AL.get?_of_mem hr hm

/-- 'm[k]', with ok or without. -/
theorem MapAt.lookup (h : MapAt w r m) (ht : P.underlying t = some (.map 3 e)) (hk : P.underlying 3 = some (.int .i64)) {z : Value} (hz : (zeroValue e).run P w = .ok z w) (k : Int) (ok : Bool) :
    (Instr.lookup t (.map (some r)) (.int .i64 k) ok).run P w = .ok (if ok then .tuple #[(AL.get? m k).getD z, .bool (AL.get? m k).isSome] else (AL.get? m k).getD z) w := by
  obtain ⟨es, clk, hb, hs, hp, hr⟩ := h
  rcases find_spec hp hr k with ⟨h1, h2, _⟩ | ⟨j, y, h1, _, _, h2⟩
  · simp [Instr.lookup, run_underlying ht, MapKept.run_getObj_map hb, run_checkKey hk (isKey_int k) es.isEmpty 9999, run_findKey hk h1, h2, hz]
  · simp [Instr.lookup, run_underlying ht, MapKept.run_getObj_map hb, run_checkKey hk (isKey_int k) es.isEmpty 9999, run_findKey hk h1, h2]

/-- .. of a nil map. -/
theorem lookup_nilmap (w : World) (ht : P.underlying t = some (.map 3 e)) (hk : P.underlying 3 = some (.int .i64)) {z : Value} (hz : (zeroValue e).run P w = .ok z w) (k : Int) (ok : Bool) :
    (Instr.lookup t (.map none) (.int .i64 k) ok).run P w = .ok (if ok then .tuple #[z, .bool false] else z) w := by
  simp [Instr.lookup, run_underlying ht, run_checkKey hk (isKey_int k) true 9999, run_findKey hk (show Instr.findNow (.int .i64) (.int .i64 k) [] 0 = some none from rfl), hz]

/-- nothing but block r has turned -/
structure But (r : Nat) (w w' : World) : Prop where
  os : w'.os = w.os
  tape : w'.tape = w.tape
  output : w'.output = w.output
  size : w'.heap.size = w.heap.size
  block : ∀ b, b ≠ r → w'.heap[b]? = w.heap[b]?

theorem setBlock_but (w : World) (r : Nat) (o : Obj) : But r w (setBlock w r o) :=
  ⟨rfl, rfl, rfl, by simp [setBlock], fun b hb => by simp [setBlock, Array.getElem?_setIfInBounds_ne (Ne.symm hb)]⟩

open Classical in
theorem kv_modify {es : Array MapEntry} (j : Nat) (y : MapEntry) (hj : es[j]? = some y) (v : Value) (hnd : es.toList.Pairwise (fun a b => a.key ≠ b.key)) :
    (es.modify j fun e => { e with key := y.key, val := v }).toList.map kv = (es.toList.map kv).map (fun p => if p.1 = y.key then (p.1, v) else p) := by
  apply List.ext_getElem?
  intro i
  simp only [List.getElem?_map, Array.getElem?_toList, Array.getElem?_modify, Option.map_map]
  by_cases hij : j = i
  · subst hij
    simp [hj, kv]
  · rw [if_neg hij]
    cases hi : es[i]? with
    | none => simp
    | some x =>
      simp only [Option.map_some, Function.comp]
      congr 1
      refine (if_neg ?_).symm
      intro he
      replace he : x.key = y.key := he
      have hj' : es.toList[j]? = some y := by simpa using hj
      have hi' : es.toList[i]? = some x := by simpa using hi
      obtain ⟨hj1, hj2⟩ := List.getElem?_eq_some_iff.1 hj'
      obtain ⟨hi1, hi2⟩ := List.getElem?_eq_some_iff.1 hi'
      rcases Nat.lt_or_gt_of_ne hij with hlt | hlt
      · have := (List.pairwise_iff_getElem.1 hnd) j i hj1 hi1 hlt
        rw [hj2, hi2] at this; exact this he.symm
      · have := (List.pairwise_iff_getElem.1 hnd) i j hi1 hj1 hlt
        rw [hj2, hi2] at this; exact this he

/-- 'm[k] = v'. -/
theorem MapAt.update (h : MapAt w r m) (ht : P.underlying t = some (.map 3 e)) (hk : P.underlying 3 = some (.int .i64)) (k : Int) (v : Value) :
    ∃ w', (Instr.mapUpdate t (.map (some r)) (.int .i64 k) v).run P w = .ok () w' ∧ MapAt w' r (AL.put m k v) ∧ But r w w' := by
  obtain ⟨es, clk, hb, hs, hp, hr⟩ := h
  rcases find_spec hp hr k with ⟨h1, h2, h3⟩ | ⟨j, y, h1, hj, hy, h2⟩
  · refine ⟨setBlock w r (.map (es.push { key := .int .i64 k, val := v, born := clk }) (clk + 1)), ?_, ⟨_, _, (heap_set hb).1, stamped_push hs h3, ?_, AL.rising_put hr⟩, setBlock_but _ _ _⟩
    · simp [Instr.mapUpdate, run_underlying ht, MapKept.run_getObj_map hb, run_checkKey hk (isKey_int k) false 9999, run_findKey hk h1, MapKept.run_setObj_map _ hb, setBlock]
    · simp only [Array.toList_push, List.map_append, List.map_cons, List.map_nil]
      refine List.Perm.trans ?_ ((AL.perm_put_new h2).map kw).symm
      simp only [List.map_cons]
      exact (List.perm_append_singleton _ _).trans (List.Perm.cons _ hp)
  · have hjs : (es[j]?.map (·.key)).getD (.int .i64 k) = .int .i64 k := by simp [hj, hy]
    refine ⟨setBlock w r (.map (es.modify j fun e => { e with key := .int .i64 k, val := v }) clk), ?_, ⟨_, _, (heap_set hb).1, stamped_modify hs _ _ (fun _ _ => rfl) (fun e' _ he' => ?_), ?_, AL.rising_put hr⟩, setBlock_but _ _ _⟩
    · simp only [Instr.mapUpdate]
      simp [run_underlying ht, MapKept.run_getObj_map hb, run_checkKey hk (isKey_int k) false 9999, run_findKey hk h1, MapKept.run_setObj_map _ hb, setBlock, hj, hy, run_keyThatStays (isKey_int k)]
    · rw [hj] at he'; cases he'; exact hy.symm
    · have hnd : es.toList.Pairwise (fun a b => a.key ≠ b.key) := ((stamped_iff es clk).1 hs).2.2
      have := kv_modify j y hj v hnd
      rw [hy] at this
      rw [this, AL.put_old hr h2]
      refine (hp.map _).trans (List.Perm.of_eq ?_)
      rw [List.map_map, List.map_map]
      refine List.map_congr_left fun p hp' => ?_
      obtain ⟨p1, p2⟩ := p
      simp only [Function.comp, kw, Value.int.injEq, true_and]
      split <;> simp_all

/-! ### ranging -/

/-- block i is an iterator over the map in block r, of whose pairs 'todo' are still to come -/
def IterAt (w : World) (i r : Nat) (todo : List (Int × Value)) : Prop :=
  ∃ es clk since seen c0, w.heap[i]? = some (.mapIter (some r) since seen c0) ∧ w.heap[r]? = some (.map es clk) ∧ Stamped es clk ∧ (∀ x ∈ es.toList, x.born < since) ∧ since ≤ c0 ∧ since ≤ clk ∧
    ((leftOf es seen).toList.map kv).Perm (todo.map kw)

theorem IterAt.lt {i : Nat} {todo : List (Int × Value)} (h : IterAt w i r todo) : i < w.heap.size ∧ r < w.heap.size ∧ i ≠ r := by
  obtain ⟨es, clk, since, seen, c0, h1, h2, _⟩ := h
  refine ⟨(Array.getElem?_eq_some_iff.1 h1).1, (Array.getElem?_eq_some_iff.1 h2).1, fun e => ?_⟩
  rw [e, h2] at h1; cases h1

theorem IterAt.kept {w' : World} {i : Nat} {todo : List (Int × Value)} (h : IterAt w i r todo) (hi : w'.heap[i]? = w.heap[i]?) (hr : w'.heap[r]? = w.heap[r]?) : IterAt w' i r todo := by
  obtain ⟨es, clk, since, seen, c0, h1, h2, h3⟩ := h
  exact ⟨es, clk, since, seen, c0, hi.trans h1, hr.trans h2, h3⟩

theorem IterAt.ext {w' : World} {i : Nat} {todo : List (Int × Value)} (h : IterAt w i r todo) (hx : Ext w w') : IterAt w' i r todo :=
  h.kept (hx.block i h.lt.1) (hx.block r h.lt.2.1)

/-- 'range m' -/
theorem MapAt.range (h : MapAt w r m) (ht : P.underlying t = some (.map 3 e)) :
    ∃ w', (Instr.range t (.map (some r))).run P w = .ok (.pointer (some ⟨w.heap.size, 0, none⟩)) w' ∧ IterAt w' w.heap.size r m ∧ Ext w w' ∧ w'.heap.size = w.heap.size + 1 := by
  have hlt := h.lt
  obtain ⟨es, clk, hb, hs, hp, hr⟩ := h
  refine ⟨_, run_range_map w t 3 e r es clk ht hb, ⟨es, clk, clk, #[], clk, (heap_alloc w _).1, ?_, hs, ((stamped_iff es clk).1 hs).1, Nat.le_refl _, Nat.le_refl _, ?_⟩, (Ext.refl w).alloc (Nat.le_refl _) _, Array.size_push _⟩
  · rw [(heap_alloc w _).2 r hlt, hb]
  · have : leftOf es #[] = es := by
      unfold leftOf
      exact Array.filter_eq_self.2 (fun x _ => by simp)
    rw [this]; exact hp

theorem leftOf_push {es : Array MapEntry} {seen : Array Nat} {x : MapEntry} (hnd : (es.toList.map (·.born)).Nodup) (hx : x ∈ (leftOf es seen).toList) :
    ((leftOf es seen).toList).Perm (x :: (leftOf es (seen.push x.born)).toList) := by
  have e1 : ∀ s, (leftOf es s).toList = es.toList.filter (fun e => !s.contains e.born) := fun s => by simp [leftOf]
  rw [e1] at hx
  rw [e1, e1]
  generalize es.toList = l at hnd hx ⊢
  have e2 : ∀ y : MapEntry, (!(seen.push x.born).contains y.born) = (!seen.contains y.born && !(y.born == x.born)) := fun y => by
    have h1 : (seen.push x.born).contains y.born = (seen.contains y.born || (y.born == x.born)) := by
      rw [Bool.eq_iff_iff]; simp [Array.mem_push]
    rw [h1]; cases seen.contains y.born <;> rfl
  simp only [e2]
  induction l with
  | nil => simp at hx
  | cons y l ih =>
    simp only [List.map_cons, List.nodup_cons] at hnd
    by_cases hyx : y = x
    · subst hyx
      have hns : seen.contains y.born = false := by
        have := (List.mem_filter.1 hx).2; simpa using this
      have hrest : l.filter (fun e => !seen.contains e.born && !(e.born == y.born)) = l.filter (fun e => !seen.contains e.born) := by
        refine List.filter_congr fun z hz => ?_
        have : z.born ≠ y.born := fun e => hnd.1 (e ▸ List.mem_map_of_mem hz)
        simp [this]
      have h1 : (!seen.contains y.born) = true := by rw [hns]; rfl
      have h2 : ¬ ((!seen.contains y.born && !(y.born == y.born)) = true) := by simp
      rw [List.filter_cons_of_pos (p := fun e : MapEntry => !seen.contains e.born) h1, List.filter_cons_of_neg (p := fun e : MapEntry => !seen.contains e.born && !(e.born == y.born)) h2, hrest]
    · have hx' : x ∈ l.filter (fun e => !seen.contains e.born) := by
        rcases List.mem_filter.1 hx with ⟨hm, hs⟩
        rcases List.mem_cons.1 hm with h | h
        · exact absurd h.symm hyx
        · exact List.mem_filter.2 ⟨h, hs⟩
      have hb : y.born ≠ x.born := fun e => hnd.1 (e ▸ List.mem_map_of_mem (List.mem_filter.1 hx').1)
      have ih' := ih hnd.2 hx'
      by_cases hs : seen.contains y.born = true
      · have h1 : ¬ ((!seen.contains y.born) = true) := by rw [hs]; simp
        have h2 : ¬ ((!seen.contains y.born && !(y.born == x.born)) = true) := by rw [hs]; simp
        rw [List.filter_cons_of_neg (p := fun e : MapEntry => !seen.contains e.born) h1, List.filter_cons_of_neg (p := fun e : MapEntry => !seen.contains e.born && !(e.born == x.born)) h2]
        exact ih'
      · have hs' : seen.contains y.born = false := by simpa using hs
        have h1 : (!seen.contains y.born) = true := by rw [hs']; rfl
        have h2 : (!seen.contains y.born && !(y.born == x.born)) = true := by rw [hs']; simp [hb]
        rw [List.filter_cons_of_pos (p := fun e : MapEntry => !seen.contains e.born) h1, List.filter_cons_of_pos (p := fun e : MapEntry => !seen.contains e.born && !(e.born == x.born)) h2]
        exact (List.Perm.cons _ ih').trans (List.Perm.swap _ _ _)

/-- 'next': nothing is left; or one that is left comes. -/
theorem IterAt.next {i : Nat} {todo : List (Int × Value)} (h : IterAt w i r todo) (ty : TypeId) :
    (todo = [] ∧ (Instr.next (.pointer (some ⟨i, 0, none⟩)) false ty).run P w = .ok (.tuple #[.bool false]) w) ∨
    ∃ p todo' w', todo.Perm (p :: todo') ∧ (Instr.next (.pointer (some ⟨i, 0, none⟩)) false ty).run P w = .ok (.tuple #[.bool true, .int .i64 p.1, p.2]) w' ∧ IterAt w' i r todo' ∧ But i w w' ∧
      (Instr.entry (.pointer (some ⟨i, 0, none⟩))).run P w' = .ok (.tuple #[.int .i64 p.1, p.2]) w' := by
  have hne := h.lt.2.2
  obtain ⟨es, clk, since, seen, c0, h1, h2, h3, h4, h5, h5', h6⟩ := h
  have hst := (stamped_iff es clk).1 h3
  rcases run_next_at (P := P) w ty i r since c0 seen es clk h1 h2 h4 h5 with ⟨hz, hrun⟩ | ⟨x, hx, w1, hw1, hrun⟩
  · left
    refine ⟨?_, hrun⟩
    have h0 : (leftOf es seen).toList = [] := by
      have : (leftOf es seen).toList.length = 0 := by simpa using hz
      exact List.eq_nil_of_length_eq_zero this
    rw [h0] at h6
    have := h6.symm.eq_nil
    simpa using this
  · right
    have hperm := leftOf_push hst.2.1 hx
    have hxe : x ∈ es.toList := by
      have : x ∈ (leftOf es seen) := by simpa using hx
      simp [leftOf] at this
      simpa using this.1
    have hmem : kv x ∈ todo.map kw := (h6.mem_iff).1 (List.mem_map_of_mem hx)
    obtain ⟨p, hp, hpe⟩ := List.mem_map.1 hmem
    obtain ⟨p1, p2⟩ := p
    simp only [kv, kw, Prod.mk.injEq] at hpe
    have hex : ∃ todo', todo.Perm ((p1, p2) :: todo') := by
      obtain ⟨a, b, hab⟩ := List.append_of_mem hp
      exact ⟨a ++ b, by rw [hab]; exact List.perm_middle⟩
    obtain ⟨todo', htp⟩ := hex
    have hkeep : ∀ b : Nat, w1.heap[b]? = w.heap[b]? := by
      intro b
      rcases hw1 with h | h <;> rw [h]
      rfl
    have hi1 : w1.heap[i]? = some (.mapIter (some r) since seen c0) := by rw [hkeep, h1]
    have hset := heap_set (o' := Obj.mapIter (some r) since (seen.push x.born) clk) hi1
    have hri : (setBlock w1 i (.mapIter (some r) since (seen.push x.born) clk)).heap[r]? = some (.map es clk) := by
      show (w1.heap.setIfInBounds _ _)[r]? = _
      rw [hset.2 r (fun e => hne e.symm), hkeep, h2]
    refine ⟨(p1, p2), todo', _, htp, ?_, ⟨es, clk, since, seen.push x.born, clk, hset.1, hri, h3, h4, h5', h5', ?_⟩, ?_, ?_⟩
    · rw [hpe.1, hpe.2]; exact hrun
    · have e1 : ((leftOf es seen).toList.map kv).Perm (kv x :: (leftOf es (seen.push x.born)).toList.map kv) := by simpa using hperm.map kv
      have e2 : (todo.map kw).Perm (kw (p1, p2) :: todo'.map kw) := by simpa using htp.map kw
      have e3 : kv x = kw (p1, p2) := by simp [kv, kw, hpe.1, hpe.2]
      rw [e3] at e1
      exact List.Perm.cons_inv ((e1.symm.trans h6).trans e2)
    · have hb := setBlock_but w1 i (.mapIter (some r) since (seen.push x.born) clk)
      rcases hw1 with h | h
      · rw [h] at hb ⊢; exact hb
      · rw [h] at hb ⊢; exact ⟨hb.os, hb.tape, hb.output, hb.size, hb.block⟩
    · have := run_entry_at (P := P) (setBlock w1 i (.mapIter (some r) since (seen.push x.born) clk)) i r since seen es clk x hset.1 hri hxe hst.2.1
      rw [hpe.1, hpe.2]; exact this

end
end Go.Proofs.Ytkpllkjionegeaa

/- How bytes, the maps of a core, and a core lie in memory; what may turn while a core acts. -/
namespace Go.Proofs.Ytkpllkjionegeaa
open Go Go.RowKit Go.ChangeMaps

/-! ### what may turn -/

/-- but for the blocks of S all that was there is as it was; bytes everywhere -/
structure Turn (S : Nat → Prop) (w w' : World) : Prop where
  os : w'.os = w.os
  tape : w'.tape = w.tape
  output : w'.output = w.output
  size : w.heap.size ≤ w'.heap.size
  block : ∀ b, b < w.heap.size → ¬ S b → w'.heap[b]? = w.heap[b]?
  bytes : ∀ a x, w.cell? a = some (.int .u8 x) → w'.cell? a = some (.int .u8 x)

theorem Turn.of_ext {S : Nat → Prop} {w w' : World} (h : Ext w w') : Turn S w w' :=
  ⟨h.os, h.tape, h.output, h.size, fun b hb _ => h.block b hb, fun a x hx => by
    rw [h.cell (World.block_lt_of_cell? w a hx)]; exact hx⟩

theorem Turn.refl (S : Nat → Prop) (w : World) : Turn S w w := Turn.of_ext (Ext.refl w)

theorem Turn.trans {S S' : Nat → Prop} {a b c : World} (h : Turn S a b) (k : Turn S' b c) (hs : ∀ x, x < a.heap.size → S' x → S x) : Turn S a c :=
  ⟨k.os.trans h.os, k.tape.trans h.tape, k.output.trans h.output, Nat.le_trans h.size k.size,
   fun x hx hn => (k.block x (Nat.lt_of_lt_of_le hx h.size) (fun h' => hn (hs x hx h'))).trans (h.block x hx hn), fun p x hx => k.bytes p x (h.bytes p x hx)⟩

theorem Turn.mono {S S' : Nat → Prop} {a b : World} (h : Turn S a b) (hs : ∀ x, S x → S' x) : Turn S' a b :=
  ⟨h.os, h.tape, h.output, h.size, fun x hx hn => h.block x hx (fun h' => hn (hs x h')), h.bytes⟩

theorem Turn.ext {w w' : World} {S : Nat → Prop} (h : Turn S w w') (hs : ∀ b, b < w.heap.size → ¬ S b) : Ext w w' :=
  ⟨h.os, h.tape, h.output, h.size, fun b hb => h.block b hb (hs b hb)⟩

/-- a map's block alone has turned -/
theorem Turn.of_but {r : Nat} {w w' : World} (h : But r w w') {es : Array MapEntry} {clk : Nat} (hm : w.heap[r]? = some (.map es clk)) : Turn (· = r) w w' :=
  ⟨h.os, h.tape, h.output, Nat.le_of_eq h.size.symm, fun b _ hn => h.block b hn, fun a x hx => by
    have : a.block ≠ r := fun e => by rw [World.cell?, e, hm] at hx; cases hx
    rw [World.cell?_of_block (h.block a.block this)]; exact hx⟩

/-- a cell that holds no byte has turned -/
theorem Turn.setCell {w : World} {b i : Nat} {v u : Value} (hc : w.cell? ⟨b, i, none⟩ = some u) (hu : ∀ x, u ≠ .int .u8 x) : Turn (· = b) w (w.setCell ⟨b, i, none⟩ v) :=
  ⟨rfl, rfl, rfl, Nat.le_of_eq (by simp [World.setCell]), fun k _ hn => Below.heap_setCell _ _ _ _ hn, fun a x hx => by
    by_cases h : a.block = b
    · have hs : a.spot = none := by
        cases hsp : a.spot with
        | none => rfl
        | some s => simp only [World.cell?] at hx; split at hx <;> simp [hsp] at hx
      have hne : a.off ≠ i := fun e => by
        have : a = ⟨b, i, none⟩ := by cases a; simp_all
        rw [this, hc] at hx
        exact hu x (Option.some.inj hx)
      simp only [World.cell?, World.setCell, Array.getElem?_modify] at hx ⊢
      rw [h] at hx ⊢
      simp only [if_true]
      cases hb : w.heap[b]? with
      | none => rw [hb] at hx; cases hx
      | some o =>
        rw [hb] at hx
        cases o <;> first | (simp at hx; done) | skip
        rename_i c e fr
        simp only [hs, Option.map_some, Option.isSome_none, Bool.false_eq_true, if_false] at hx ⊢
        rw [Array.getElem?_setIfInBounds_ne (Ne.symm hne)]; exact hx
    · rw [World.cell?_of_block (Below.heap_setCell w ⟨b, i, none⟩ v a.block h)]; exact hx⟩

/-! ### bytes -/

/-- the value v reads as the bytes l -/
def BytesAt (w : World) (v : Value) (l : Bytes) : Prop :=
  ∃ a cap, v = .slice a l.length cap ∧ l.length ≤ cap ∧ (l ≠ [] → ∃ b o, a = some ⟨b, o, none⟩ ∧ ∀ i (h : i < l.length), w.cell? ⟨b, o + i, none⟩ = some (.int .u8 (l[i].toNat : Int)))

theorem BytesAt.turn {S : Nat → Prop} {w w' : World} {v : Value} {l : Bytes} (h : BytesAt w v l) (ht : Turn S w w') : BytesAt w' v l := by
  obtain ⟨a, cap, h1, h2, h3⟩ := h
  exact ⟨a, cap, h1, h2, fun hl => let ⟨b, o, h4, h5⟩ := h3 hl; ⟨b, o, h4, fun i hi => ht.bytes _ _ (h5 i hi)⟩⟩

theorem BytesAt.ext {w w' : World} {v : Value} {l : Bytes} (h : BytesAt w v l) (he : Ext w w') : BytesAt w' v l := h.turn (Turn.of_ext (S := fun _ => False) he)

theorem BytesAt.nil (w : World) : BytesAt w (.slice none 0 0) [] := ⟨none, 0, rfl, Nat.le_refl _, fun h => absurd rfl h⟩

theorem bytes_string (l : Bytes) : strOfNums (l.map fun b => (b.toNat : Int)) = ⟨l.toArray⟩ := by
  unfold strOfNums
  congr 2
  rw [List.map_map]
  refine (List.map_congr_left fun x _ => ?_).trans (List.map_id l)
  simp

/-- 'string(b)' -/
theorem BytesAt.string {w : World} {v : Value} {l : Bytes} (h : BytesAt w v l) : (convert 26 9 v).run Try.prog w = .ok (.string ⟨l.toArray⟩) w := by
  obtain ⟨a, cap, rfl, h2, h3⟩ := h
  by_cases hl : l = []
  · subst hl
    cases a with
    | none => exact run_convert_bytes_nil w 26 5 Try.underlying26 Try.underlying5 0 cap 9 Try.underlying9
    | some p =>
      have := run_convert_bytes_string (P := Try.prog) w 26 9 5 (some p) 0 cap Try.underlying26 Try.underlying5 Try.underlying9
      rw [List.length_nil, this, run_bytesToString w p 0 cap [] (by simp [loadCells, loadCellsFrom])]
      rfl
  · obtain ⟨b, o, rfl, h5⟩ := h3 hl
    rw [run_convert_bytes_arg w 26 5 Try.underlying26 Try.underlying5 b o l.length cap (l.map fun b => (b.toNat : Int)) (by simp) (fun i hi => by
      rw [h5 i hi]; simp [List.getD, List.getElem?_eq_getElem hi]) 9 Try.underlying9, bytes_string]

theorem string_beq (l l' : Bytes) : ((⟨l.toArray⟩ : ByteArray) == ⟨l'.toArray⟩) = (l == l') := by
  rw [Bool.eq_iff_iff, MapKept.bytes_beq, beq_iff_eq]
  constructor
  · intro h; simpa using congrArg (fun s : ByteArray => s.data.toList) h
  · rintro rfl; rfl

/-! ### maps whose values read as something -/

/-- two maps from numbers, alike by R -/
def ARel {α β : Type} (R : α → β → Prop) (m : AL α) (m' : AL β) : Prop :=
  ∀ k, match AL.get? m k, AL.get? m' k with
    | some x, some y => R x y
    | none, none => True
    | _, _ => False

section
variable {α β : Type} {R R' : α → β → Prop} {m : AL α} {m' : AL β}

theorem ARel.empty : ARel R [] [] := fun k => trivial

theorem ARel.fwd (h : ARel R m m') {k : Int} {x : α} (hx : AL.get? m k = some x) : ∃ y, AL.get? m' k = some y ∧ R x y := by
  have := h k
  rw [hx] at this
  cases hy : AL.get? m' k with
  | none => rw [hy] at this; exact this.elim
  | some y => rw [hy] at this; exact ⟨y, rfl, this⟩

theorem ARel.bwd (h : ARel R m m') {k : Int} {y : β} (hy : AL.get? m' k = some y) : ∃ x, AL.get? m k = some x ∧ R x y := by
  have := h k
  rw [hy] at this
  cases hx : AL.get? m k with
  | none => rw [hx] at this; exact this.elim
  | some x => rw [hx] at this; exact ⟨x, rfl, this⟩

theorem ARel.non (h : ARel R m m') {k : Int} : AL.get? m k = none ↔ AL.get? m' k = none := by
  constructor
  · intro hx
    cases hy : AL.get? m' k with
    | none => rfl
    | some y => obtain ⟨x, h1, _⟩ := h.bwd hy; rw [hx] at h1; cases h1
  · intro hy
    cases hx : AL.get? m k with
    | none => rfl
    | some x => obtain ⟨y, h1, _⟩ := h.fwd hx; rw [hy] at h1; cases h1

theorem ARel.has (h : ARel R m m') (k : Int) : (AL.get? m k).isSome = (AL.get? m' k).isSome := by
  cases hx : AL.get? m k with
  | none => rw [h.non.1 hx]; rfl
  | some x => obtain ⟨y, h1, _⟩ := h.fwd hx; rw [h1]; rfl

theorem ARel.mono (h : ARel R m m') (hr : ∀ k x y, AL.get? m k = some x → AL.get? m' k = some y → R x y → R' x y) : ARel R' m m' := fun k => by
  have := h k
  cases hx : AL.get? m k with
  | none => cases hy : AL.get? m' k with
    | none => trivial
    | some y => rw [hx, hy] at this; exact this.elim
  | some x => cases hy : AL.get? m' k with
    | none => rw [hx, hy] at this; exact this.elim
    | some y => rw [hx, hy] at this; exact hr k x y hx hy this

theorem ARel.store (h : ARel R m m') (hm : AL.Rising m) (hm' : AL.Rising m') (k : Int) {x : α} {y : β} (hxy : R x y) : ARel R (AL.put m k x) (AL.put m' k y) := fun j => by
  rw [AL.get?_put j hm, AL.get?_put j hm']
  by_cases hj : k = j
  · simp [hj]; exact hxy
  · simp [hj]; exact h j

theorem ARel.keys (h : ARel R m m') (hm : AL.Rising m) (hm' : AL.Rising m') : AL.keys m = AL.keys m' := by
  have e : ∀ (l : AL Unit) (l' : AL Unit), AL.Rising l → AL.Rising l' → (∀ k, AL.get? l k = AL.get? l' k) → l = l' := fun l l' h1 h2 h3 => AL.ext_get? h1 h2 h3
  have := e (AL.mapVal (fun _ => ()) m) (AL.mapVal (fun _ => ()) m') (AL.rising_mapVal hm) (AL.rising_mapVal hm') (fun k => by
    rw [AL.get?_mapVal, AL.get?_mapVal]
    have := h.has k
    cases h1 : AL.get? m k <;> cases h2 : AL.get? m' k <;> simp_all)
  rw [← AL.keys_mapVal (fun _ => ()) m, this, AL.keys_mapVal]
end

/-- a map of who told what -/
def InnerAt (w : World) (r : Nat) (t : Told) : Prop := ∃ m, MapAt w r m ∧ AL.Rising t ∧ ARel (BytesAt w) m t

theorem InnerAt.lt {w : World} {r : Nat} {t : Told} (h : InnerAt w r t) : r < w.heap.size := let ⟨_, h, _⟩ := h; h.lt
theorem InnerAt.rising {w : World} {r : Nat} {t : Told} (h : InnerAt w r t) : AL.Rising t := let ⟨_, _, h, _⟩ := h; h

theorem InnerAt.turn {S : Nat → Prop} {w w' : World} {r : Nat} {t : Told} (h : InnerAt w r t) (ht : Turn S w w') (hr : ¬ S r) : InnerAt w' r t := by
  obtain ⟨m, h1, h2, h3⟩ := h
  exact ⟨m, h1.kept (ht.block r h1.lt hr), h2, h3.mono fun k x y _ _ h => h.turn ht⟩

/-- a map of such maps, whose blocks im tells -/
def TMapAt (w : World) (r : Nat) (m : AL Told) (im : AL Nat) : Prop :=
  MapAt w r (AL.mapVal (fun i => .map (some i)) im) ∧ AL.Rising im ∧ AL.Rising m ∧ ARel (InnerAt w) im m

theorem TMapAt.lt {w : World} {r : Nat} {m : AL Told} {im : AL Nat} (h : TMapAt w r m im) : r < w.heap.size := h.1.lt

theorem TMapAt.turn {S : Nat → Prop} {w w' : World} {r : Nat} {m : AL Told} {im : AL Nat} (h : TMapAt w r m im) (ht : Turn S w w') (hr : ¬ S r) (hi : ∀ i ∈ AL.vals im, ¬ S i) : TMapAt w' r m im := by
  obtain ⟨h1, h2, h3, h4⟩ := h
  refine ⟨h1.kept (ht.block r h1.lt hr), h2, h3, h4.mono fun k x y hx _ h => h.turn ht (hi x ?_)⟩
  exact List.mem_map.2 ⟨_, AL.get?_mem hx, rfl⟩

/-- the proposals -/
def PropsAt (w : World) (r : Nat) (p : AL (Bytes × Int)) : Prop :=
  ∃ m, MapAt w r m ∧ AL.Rising p ∧ ARel (fun v q => ∃ x, v = .agg #[x, .int .i64 q.2] ∧ BytesAt w x q.1) m p

theorem PropsAt.lt {w : World} {r : Nat} {p : AL (Bytes × Int)} (h : PropsAt w r p) : r < w.heap.size := let ⟨_, h, _⟩ := h; h.lt

theorem PropsAt.turn {S : Nat → Prop} {w w' : World} {r : Nat} {p : AL (Bytes × Int)} (h : PropsAt w r p) (ht : Turn S w w') (hr : ¬ S r) : PropsAt w' r p := by
  obtain ⟨m, h1, h2, h3⟩ := h
  exact ⟨m, h1.kept (ht.block r h1.lt hr), h2, h3.mono fun k x y _ _ ⟨u, h4, h5⟩ => ⟨u, h4, h5.turn ht⟩⟩

def SeenAt (w : World) (r : Nat) (s : AL Int) : Prop := MapAt w r (AL.mapVal (.int .i64) s) ∧ AL.Rising s

/-! ### a core -/

/-- where the parts of a core lie -/
structure Lay where
  acc : Value
  wish : Value
  locked : Value
  value : Value
  props : Nat
  preps : Nat
  comms : Nat
  turns : Nat
  seen : Nat
  decs : Nat
  ip : AL Nat
  ic : AL Nat
  it : AL Nat

/-- the blocks of a core's maps -/
def Lay.maps (L : Lay) : List Nat := [L.props, L.preps, L.comms, L.turns, L.seen, L.decs] ++ (AL.vals L.ip ++ (AL.vals L.ic ++ AL.vals L.it))

/-- a core's cells -/
def coreCells (c : Core) (L : Lay) : Array Value :=
  #[.int .i64 c.n, .int .i64 c.me, .int .i64 c.slot, L.acc, .int .i64 c.view, L.wish, .bool c.wishes, .map (some L.props), .map (some L.preps), .map (some L.comms), .map (some L.turns), .map (some L.seen), .map (some L.decs),
    .int .i64 c.lock, L.locked, .bool c.decided, L.value]

structure CoreAt (w : World) (cb : Nat) (c : Core) (L : Lay) : Prop where
  blk : w.heap[cb]? = some (.cells (coreCells c L) 71 (0, 0))
  wish : BytesAt w L.wish c.wish
  locked : BytesAt w L.locked c.locked
  value : BytesAt w L.value c.value
  props : PropsAt w L.props c.props
  preps : TMapAt w L.preps c.preps L.ip
  comms : TMapAt w L.comms c.comms L.ic
  turns : TMapAt w L.turns c.turns L.it
  seen : SeenAt w L.seen c.seen
  decs : InnerAt w L.decs c.decs
  nodup : L.maps.Nodup
  accV : ∀ x, L.acc ≠ .int .u8 x

/-- the blocks that are a core's own -/
def Own (cb : Nat) (L : Lay) (b : Nat) : Prop := b = cb ∨ b ∈ L.maps

theorem CoreAt.lt {w : World} {cb : Nat} {c : Core} {L : Lay} (h : CoreAt w cb c L) : cb < w.heap.size := (Array.getElem?_eq_some_iff.1 h.blk).1

/-- what is not a core's turns: the core stays -/
theorem CoreAt.turn {S : Nat → Prop} {w w' : World} {cb : Nat} {c : Core} {L : Lay} (h : CoreAt w cb c L) (ht : Turn S w w') (hs : ∀ b, Own cb L b → ¬ S b) : CoreAt w' cb c L := by
  have hm : ∀ b, b ∈ L.maps → ¬ S b := fun b hb => hs b (Or.inr hb)
  refine ⟨(ht.block cb h.lt (hs cb (Or.inl rfl))).trans h.blk, h.wish.turn ht, h.locked.turn ht, h.value.turn ht, h.props.turn ht (hm _ (by simp [Lay.maps])),
    h.preps.turn ht (hm _ (by simp [Lay.maps])) (fun i hi => hm i (by simp [Lay.maps, hi])), h.comms.turn ht (hm _ (by simp [Lay.maps])) (fun i hi => hm i (by simp [Lay.maps, hi])),
    h.turns.turn ht (hm _ (by simp [Lay.maps])) (fun i hi => hm i (by simp [Lay.maps, hi])), ⟨h.seen.1.kept (ht.block _ h.seen.1.lt (hm _ (by simp [Lay.maps]))), h.seen.2⟩, h.decs.turn ht (hm _ (by simp [Lay.maps])), h.nodup, h.accV⟩

theorem CoreAt.ext {w w' : World} {cb : Nat} {c : Core} {L : Lay} (h : CoreAt w cb c L) (he : Ext w w') : CoreAt w' cb c L :=
  h.turn (Turn.of_ext (S := fun _ => False) he) (fun _ _ h => h)

/-- a core has acted: its own blocks have turned, and it may have new ones -/
structure Moves (cb : Nat) (L L' : Lay) (w w' : World) : Prop where
  turn : Turn (Own cb L) w w'
  new : ∀ b, b ∈ L'.maps → b ∈ L.maps ∨ w.heap.size ≤ b
  acc : L'.acc = L.acc

theorem Moves.refl (cb : Nat) (L : Lay) (w : World) : Moves cb L L w w := ⟨Turn.refl _ w, fun b hb => Or.inl hb, rfl⟩
theorem Moves.of_ext {cb : Nat} {L : Lay} {w w' : World} (h : Ext w w') : Moves cb L L w w' := ⟨Turn.of_ext h, fun b hb => Or.inl hb, rfl⟩

theorem Moves.trans {cb : Nat} {L L1 L2 : Lay} {a b c : World} (h : Moves cb L L1 a b) (k : Moves cb L1 L2 b c) : Moves cb L L2 a c :=
  ⟨h.turn.trans k.turn (fun x hx hs => by
    rcases hs with h1 | h1
    · exact Or.inl h1
    · rcases h.new x h1 with h2 | h2
      · exact Or.inr h2
      · omega),
   fun x hx => by
    rcases k.new x hx with h1 | h1
    · exact h.new x h1
    · exact Or.inr (Nat.le_trans h.turn.size h1),
   k.acc.trans h.acc⟩

/-- a core that another one does not touch -/
theorem CoreAt.other {w w' : World} {cb cd : Nat} {c : Core} {L K K' : Lay} (h : CoreAt w cb c L) (hm : Moves cd K K' w w') (hd : ∀ b, Own cb L b → ¬ Own cd K b) : CoreAt w' cb c L := h.turn hm.turn hd

section
variable {w : World} {cb : Nat} {c : Core} {L : Lay}

theorem CoreAt.cell (h : CoreAt w cb c L) (i : Nat) : w.cell? ⟨cb, i, none⟩ = (coreCells c L)[i]? := by simp [World.cell?, h.blk]
theorem CoreAt.free (h : CoreAt w cb c L) (i : Nat) : w.frozen? ⟨cb, i, none⟩ = false := by
  simp only [World.frozen?, h.blk]
  rw [Bool.and_eq_false_iff]
  right
  simp

theorem CoreAt.c0 (h : CoreAt w cb c L) : w.cell? ⟨cb, 0, none⟩ = some (.int .i64 c.n) := h.cell 0
theorem CoreAt.c1 (h : CoreAt w cb c L) : w.cell? ⟨cb, 1, none⟩ = some (.int .i64 c.me) := h.cell 1
theorem CoreAt.c2 (h : CoreAt w cb c L) : w.cell? ⟨cb, 2, none⟩ = some (.int .i64 c.slot) := h.cell 2
theorem CoreAt.c3 (h : CoreAt w cb c L) : w.cell? ⟨cb, 3, none⟩ = some L.acc := h.cell 3
theorem CoreAt.c4 (h : CoreAt w cb c L) : w.cell? ⟨cb, 4, none⟩ = some (.int .i64 c.view) := h.cell 4
theorem CoreAt.c5 (h : CoreAt w cb c L) : w.cell? ⟨cb, 5, none⟩ = some L.wish := h.cell 5
theorem CoreAt.c6 (h : CoreAt w cb c L) : w.cell? ⟨cb, 6, none⟩ = some (.bool c.wishes) := h.cell 6
theorem CoreAt.c7 (h : CoreAt w cb c L) : w.cell? ⟨cb, 7, none⟩ = some (.map (some L.props)) := h.cell 7
theorem CoreAt.c8 (h : CoreAt w cb c L) : w.cell? ⟨cb, 8, none⟩ = some (.map (some L.preps)) := h.cell 8
theorem CoreAt.c9 (h : CoreAt w cb c L) : w.cell? ⟨cb, 9, none⟩ = some (.map (some L.comms)) := h.cell 9
theorem CoreAt.c10 (h : CoreAt w cb c L) : w.cell? ⟨cb, 10, none⟩ = some (.map (some L.turns)) := h.cell 10
theorem CoreAt.c11 (h : CoreAt w cb c L) : w.cell? ⟨cb, 11, none⟩ = some (.map (some L.seen)) := h.cell 11
theorem CoreAt.c12 (h : CoreAt w cb c L) : w.cell? ⟨cb, 12, none⟩ = some (.map (some L.decs)) := h.cell 12
theorem CoreAt.c13 (h : CoreAt w cb c L) : w.cell? ⟨cb, 13, none⟩ = some (.int .i64 c.lock) := h.cell 13
theorem CoreAt.c14 (h : CoreAt w cb c L) : w.cell? ⟨cb, 14, none⟩ = some L.locked := h.cell 14
theorem CoreAt.c15 (h : CoreAt w cb c L) : w.cell? ⟨cb, 15, none⟩ = some (.bool c.decided) := h.cell 15
theorem CoreAt.c16 (h : CoreAt w cb c L) : w.cell? ⟨cb, 16, none⟩ = some L.value := h.cell 16
end
end Go.Proofs.Ytkpllkjionegeaa
