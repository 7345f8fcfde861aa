/- The judgements of the proof: what a piece of code does from a state on (its temporaries as a list, its memory as pieces), and the rules for Go's control. No condition. -/
import Derived.Test.YtjlimnckdblkhaaL1
import Derived.Deep.LoopGhost
import Derived.Deep.Quiet
import Derived.KernelRfl
namespace Go.Proofs.Ytjlimnckdblkhaa
open Go

theorem Nat.beq_false_of_ne {a b : Nat} (h : a ≠ b) : Nat.beq a b = false := by
  cases hb : Nat.beq a b with
  | false => rfl
  | true => exact absurd (Nat.eq_of_beq_eq_true hb) h
/-- Temporaries, the latest first. -/
abbrev Env := List (Nat × Value)
def Env.get : Env → Nat → Option Value
  | [], _ => none
  | (t, v) :: r, s => cond (Nat.beq t s) (some v) (Env.get r s)
def ev (env : Env) : Operand → Option Value
  | .tmp t => Env.get env t
  | .const v => some v
  | .global g => some (.pointer (some ⟨g, 0, none⟩))
  | .func f => some (.func (.func f) #[] #[])
def evs (env : Env) : List Operand → Option (List Value)
  | [] => some []
  | x :: r => match ev env x, evs env r with | some v, some vs => some (v :: vs) | _, _ => none

structure Agree (n : Nat) (env : Env) (a : Act) : Prop where
  size : a.tmps.size = n
  defers : a.defers = []
  at_ : ∀ t v, Env.get env t = some v → a.tmps[t]? = some v

theorem Agree.ev {n : Nat} {env : Env} {a : Act} (h : Agree n env a) {x : Operand} {v : Value} (hx : ev env x = some v) : a.eval x = v := by
  cases x with
  | tmp t => have := h.at_ t v hx; simp [Act.eval, this]
  | const u => exact Option.some.inj hx
  | global g => exact Option.some.inj hx
  | func f => exact Option.some.inj hx

theorem Agree.evs {n : Nat} {env : Env} {a : Act} (h : Agree n env a) : ∀ {xs : List Operand} {vs : List Value}, evs env xs = some vs → xs.map a.eval = vs
  | [], vs, hx => by simpa [Go.Proofs.Ytjlimnckdblkhaa.evs] using hx
  | x :: r, vs, hx => by
    unfold Go.Proofs.Ytjlimnckdblkhaa.evs at hx
    split at hx
    · rename_i v us h1 h2
      obtain rfl := Option.some.inj hx
      simp [h.ev h1, h.evs h2]
    · cases hx

def Env.put (env : Env) : Option Nat → Value → Env
  | some d, v => (d, v) :: env
  | none, _ => env
def fits (n : Nat) : Option Nat → Bool
  | some d => Nat.blt d n
  | none => true

theorem Agree.put {n : Nat} {env : Env} {a : Act} (h : Agree n env a) (dst : Option Nat) (v : Value) (hd : fits n dst = true) : Agree n (Env.put env dst v) (a.put dst v) := by
  cases dst with
  | none => exact h
  | some d =>
    have hlt : d < n := Nat.le_of_ble_eq_true hd
    refine ⟨by simp [Act.put, h.size], h.defers, fun t u hu => ?_⟩
    simp only [Env.put, Env.get] at hu
    by_cases ht : d = t
    · subst ht
      have : Nat.beq d d = true := Nat.beq_refl d
      rw [this] at hu
      obtain rfl := Option.some.inj hu
      simp [Act.put, h.size, hlt]
    · have : Nat.beq d t = false := Nat.beq_false_of_ne ht
      rw [this] at hu
      simp only [Act.put]
      rw [Array.getElem?_setIfInBounds_ne ht]
      exact h.at_ t u hu

theorem Agree.putS {n : Nat} {env : Env} {a : Act} (h : Agree n env a) {dst : Option Nat} {d : Nat} (v : Value) (he : dst = some d) (hd : Nat.blt d n = true) : Agree n ((d, v) :: env) (a.put dst v) := by
  subst he
  exact h.put (some d) v hd
theorem Agree.put0 {n : Nat} {env : Env} {a : Act} (h : Agree n env a) {dst : Option Nat} (v : Value) (he : dst = none) : Agree n env (a.put dst v) := by
  subst he
  exact h

/-- env has all that env' has. -/
def Env.has (env : Env) : Env → Prop
  | [] => True
  | (t, v) :: r => Env.get env t = some v ∧ Env.has env r
theorem Env.has_get {env : Env} : ∀ {env' : Env}, Env.has env env' → ∀ t v, Env.get env' t = some v → Env.get env t = some v
  | [], _, t, v, h => by cases h
  | (s, u) :: r, ⟨h1, h2⟩, t, v, h => by
    simp only [Env.get] at h
    by_cases hs : s = t
    · subst hs
      have : Nat.beq s s = true := Nat.beq_refl s
      rw [this] at h
      obtain rfl := Option.some.inj h
      exact h1
    · have : Nat.beq s t = false := Nat.beq_false_of_ne hs
      rw [this] at h
      exact Env.has_get h2 t v h
theorem Agree.weak {n : Nat} {env env' : Env} {a : Act} (h : Agree n env a) (w : Env.has env env') : Agree n env' a :=
  ⟨h.size, h.defers, fun t v hv => h.at_ t v (Env.has_get w t v hv)⟩

structure St (n : Nat) (F : Fr) (env : Env) (hs : List SP) (a : Act) (w : World) : Prop where
  ag : Agree n env a
  sat : Sat F hs w

theorem St.weak {n : Nat} {F : Fr} {env env' : Env} {hs hs' : List SP} {a : Act} {w : World} (h : St n F env hs a w) (he : Env.has env env') (hh : Ent hs hs') : St n F env' hs' a w :=
  ⟨h.ag.weak he, h.sat.ent hh⟩

/-- What stands behind a piece of code. -/
inductive Kont where
  | done (fn : Func) (R : Ending → World → Prop)
  | seq (y : Code) (k : Kont)
  | block (id : Nat) (k : Kont)
  | stop (I : Act → World → Prop) (k : Kont)

def Kont.Q (P : Program) : Kont → Exit → Act → World → Prop
  | .done fn R => bodyPost P fn R
  | .seq y k => Exit.then (y.wp P (k.Q P)) (k.Q P)
  | .block id k => Exit.inBlock id (k.Q P)
  | .stop I k => Exit.then I (k.Q P)

/-- From these states on the code comes to what stands behind it. -/
def Cod (P : Program) (n : Nat) (F : Fr) (k : Kont) (c : Code) (env : Env) (hs : List SP) : Prop := ∀ a w, St n F env hs a w → c.wp P (k.Q P) a w
/-- .. the exit is taken. -/
def Ext (P : Program) (n : Nat) (F : Fr) (k : Kont) (e : Exit) (env : Env) (hs : List SP) : Prop := ∀ a w, St n F env hs a w → k.Q P e a w
def Ops (P : Program) (n : Nat) (F : Fr) (k : Kont) (ops : Array Oper) (l : List Oper) (env : Env) (hs : List SP) : Prop := ∀ a w, St n F env hs a w → wpList P ops (k.Q P) l a w

section
variable {P : Program} {n : Nat} {F : Fr} {k : Kont} {env : Env} {hs : List SP}

theorem Cod.weak {c : Code} {env' : Env} {hs' : List SP} (he : Env.has env env') (hh : Ent hs hs') (h : Cod P n F k c env' hs') : Cod P n F k c env hs := fun a w s => h a w (s.weak he hh)
theorem Ext.weak {c : Exit} {env' : Env} {hs' : List SP} (he : Env.has env env') (hh : Ent hs hs') (h : Ext P n F k c env' hs') : Ext P n F k c env hs := fun a w s => h a w (s.weak he hh)
theorem Ops.weak {ops : Array Oper} {l : List Oper} {env' : Env} {hs' : List SP} (he : Env.has env env') (hh : Ent hs hs') (h : Ops P n F k ops l env' hs') : Ops P n F k ops l env hs := fun a w s => h a w (s.weak he hh)
theorem Cod.ent {c : Code} {hs' : List SP} (hh : Ent hs hs') (h : Cod P n F k c env hs') : Cod P n F k c env hs := fun a w s => h a w ⟨s.ag, s.sat.ent hh⟩
theorem Ext.ent {c : Exit} {hs' : List SP} (hh : Ent hs hs') (h : Ext P n F k c env hs') : Ext P n F k c env hs := fun a w s => h a w ⟨s.ag, s.sat.ent hh⟩
theorem Ops.ent {ops : Array Oper} {l : List Oper} {hs' : List SP} (hh : Ent hs hs') (h : Ops P n F k ops l env hs') : Ops P n F k ops l env hs := fun a w s => h a w ⟨s.ag, s.sat.ent hh⟩

theorem Cod.seq {x y : Code} (h : Cod P n F (.seq y k) x env hs) : Cod P n F k (.seq x y) env hs := fun a w s => wp_seq (h a w s)
theorem Cod.block {id : Nat} {c : Code} (h : Cod P n F (.block id k) c env hs) : Cod P n F k (.block id c) env hs := fun a w s => wp_block (h a w s)
theorem Cod.skip (h : Ext P n F k .normal env hs) : Cod P n F k .skip env hs := fun a w s => wp_skip (h a w s)
theorem Cod.ret (h : Ext P n F k .ret env hs) : Cod P n F k .ret env hs := fun a w s => wp_ret (h a w s)
theorem Cod.exit {id : Nat} (h : Ext P n F k (.exit id) env hs) : Cod P n F k (.exit id) env hs := fun a w s => wp_exit (h a w s)
theorem Cod.region {id : Nat} {l : List Oper} (h : Ops P n F k l.toArray l env hs) : Cod P n F k (.region id l.toArray false) env hs := fun a w s => wp_region_lit (h a w s)

theorem Cod.cond {c : Operand} {x y : Code} {t : Bool} (hc : ev env c = some (.bool t)) (ht : t = true → Cod P n F k x env hs) (hf : t = false → Cod P n F k y env hs) :
    Cod P n F k (.cond c x y) env hs := fun a w s => wp_cond_split (s.ag.ev hc) (fun h => ht h a w s) (fun h => hf h a w s)
theorem Cod.condT {c : Operand} {x y : Code} {t : Bool} (hc : ev env c = some (.bool t)) (h : t = true) (ht : Cod P n F k x env hs) : Cod P n F k (.cond c x y) env hs :=
  fun a w s => wp_cond_true (by rw [s.ag.ev hc, h]) (ht a w s)
theorem Cod.condF {c : Operand} {x y : Code} {t : Bool} (hc : ev env c = some (.bool t)) (h : t = false) (ht : Cod P n F k y env hs) : Cod P n F k (.cond c x y) env hs :=
  fun a w s => wp_cond_false (by rw [s.ag.ev hc, h]) (ht a w s)
/-- A test on a proposition that can be decided. -/
theorem Cod.condD {c : Operand} {x y : Code} {p : Prop} [Decidable p] (hc : ev env c = some (.bool (decide p))) (ht : p → Cod P n F k x env hs) (hf : ¬ p → Cod P n F k y env hs) :
    Cod P n F k (.cond c x y) env hs := Cod.cond hc (fun h => ht (of_decide_eq_true h)) (fun h => hf (of_decide_eq_false h))

theorem Ext.seq {y : Code} (h : Cod P n F k y env hs) : Ext P n F (.seq y k) .normal env hs := h
theorem Ext.seqX {y : Code} {id : Nat} (h : Ext P n F k (.exit id) env hs) : Ext P n F (.seq y k) (.exit id) env hs := h
theorem Ext.seqR {y : Code} (h : Ext P n F k .ret env hs) : Ext P n F (.seq y k) .ret env hs := h
theorem Ext.block {id : Nat} (h : Ext P n F k .normal env hs) : Ext P n F (.block id k) .normal env hs := h
theorem Ext.blockR {id : Nat} (h : Ext P n F k .ret env hs) : Ext P n F (.block id k) .ret env hs := h
theorem Ext.hit {id : Nat} (h : Ext P n F k .normal env hs) : Ext P n F (.block id k) (.exit id) env hs := fun a w s => by
  show Exit.inBlock id (k.Q P) (.exit id) a w
  simp only [Exit.inBlock, if_true]
  exact h a w s
theorem Ext.miss {id id' : Nat} (hne : (Nat.beq id' id) = false) (h : Ext P n F k (.exit id') env hs) : Ext P n F (.block id k) (.exit id') env hs := fun a w s => by
  show Exit.inBlock id (k.Q P) (.exit id') a w
  have : id' ≠ id := Nat.ne_of_beq_eq_false hne
  simp only [Exit.inBlock, if_neg this]
  exact h a w s
theorem Ext.stop {I : Act → World → Prop} (h : ∀ a w, St n F env hs a w → I a w) : Ext P n F (.stop I k) .normal env hs := h
theorem Ext.stopX {I : Act → World → Prop} {id : Nat} (h : Ext P n F k (.exit id) env hs) : Ext P n F (.stop I k) (.exit id) env hs := h
theorem Ext.stopR {I : Act → World → Prop} (h : Ext P n F k .ret env hs) : Ext P n F (.stop I k) .ret env hs := h

theorem Ops.nil {ops : Array Oper} (h : Ext P n F k .normal env hs) : Ops P n F k ops [] env hs := fun a w s => wpList_nil (h a w s)

/-! ### Cuts and loops -/

/-- An assertion: states that are spelled by a letter. -/
structure Asn where
  pre : Prop
  env : Env
  hs : List SP
def at_ (n : Nat) (F : Fr) {α : Type} (I : α → Asn) (a : Act) (w : World) : Prop := ∃ g, (I g).pre ∧ St n F (I g).env (I g).hs a w

theorem Cod.cut {x y : Code} {α : Type} (I : α → Asn) (h : Cod P n F (.stop (at_ n F I) k) x env hs)
    (h' : ∀ g, (I g).pre → Cod P n F k y (I g).env (I g).hs) : Cod P n F k (.seq x y) env hs := fun a w s =>
  wp_seq (wp_mono (h a w s) fun e a w q => by
    cases e with
    | normal => obtain ⟨g, hp, s⟩ := q; exact h' g hp a w s
    | _ => exact q)

/-- A cut where two ways meet again: ahead of what stands behind. -/
theorem Cod.cutK {x y : Code} {α : Type} (I : α → Asn) (h : Cod P n F (.stop (at_ n F I) k) x env hs)
    (h' : ∀ g, (I g).pre → Cod P n F k y (I g).env (I g).hs) : Cod P n F (.seq y k) x env hs := fun a w s =>
  wp_mono (h a w s) fun e a w q => by
    cases e with
    | normal => obtain ⟨g, hp, s⟩ := q; exact h' g hp a w s
    | _ => exact q

theorem Ext.at_ {α : Type} {I : α → Asn} (g : α) (hp : (I g).pre) (he : Env.has env (I g).env) (hh : Ent hs (I g).hs) : Ext P n F (.stop (at_ n F I) k) .normal env hs :=
  fun _ _ s => ⟨g, hp, s.weak he hh⟩

/-- The head of a loop's next round. -/
def back (n : Nat) (F : Fr) {α : Type} (I : α → Asn) (μ : α → Nat) (g : α) (a : Act) (w : World) : Prop := ∃ g', μ g' < μ g ∧ (I g').pre ∧ St n F (I g').env (I g').hs a w

theorem Cod.loop {c : Code} {α : Type} (I : α → Asn) (μ : α → Nat) (g₀ : α) (hp : (I g₀).pre) (he : Env.has env (I g₀).env) (hh : Ent hs (I g₀).hs)
    (round : ∀ g, (I g).pre → Cod P n F (.stop (back n F I μ g) k) c (I g).env (I g).hs) : Cod P n F k (.loop c) env hs := by
  intro a w s
  refine wp_loop_ghost (fun m a w => ∃ g, μ g = m ∧ (I g).pre ∧ St n F (I g).env (I g).hs a w) (μ g₀) ⟨g₀, rfl, hp, s.weak he hh⟩ ?_
  rintro m a w ⟨g, rfl, hpre, s⟩
  refine wp_mono (round g hpre a w s) fun e a' w' q => ?_
  cases e with
  | normal => obtain ⟨g', hlt, hp', s'⟩ := q; exact ⟨μ g', hlt, g', rfl, hp', s'⟩
  | _ => exact q

theorem Ext.back {α : Type} {I : α → Asn} {μ : α → Nat} {g : α} (g' : α) (hμ : μ g' < μ g) (hp : (I g').pre) (he : Env.has env (I g').env) (hh : Ent hs (I g').hs) :
    Ext P n F (.stop (back n F I μ g) k) .normal env hs := fun _ _ s => ⟨g', hμ, hp, s.weak he hh⟩
end
end Go.Proofs.Ytjlimnckdblkhaa
