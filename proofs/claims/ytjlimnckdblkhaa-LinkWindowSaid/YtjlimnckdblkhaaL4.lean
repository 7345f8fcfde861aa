/- The rules for operations that write memory or make it, for calls and for returns. No condition. -/
import Derived.Test.YtjlimnckdblkhaaL3
namespace Go.Proofs.Ytjlimnckdblkhaa
open Go

/-- The operation leaves v and turns hs into hs'. -/
def Ef (P : Program) (F : Fr) (env : Env) (hs : List SP) (o : Oper) (R : Value → List SP → Prop) : Prop :=
  ∀ n a w, Agree n env a → Sat F hs w → ∃ v w' hs', ((execOp a.eval o).run P w = .ok (.value v) w' ∨ ((execOp a.eval o).run P w = .ok .skip w' ∧ v = undef)) ∧ R v hs' ∧ Sat F hs' w'

/-- What a call of a function does: from these pieces on it returns, with that. -/
def Spec (P : Program) (F : Fr) (f : FuncId) (args : List Value) (pre : List SP) (post : Value → List SP → Prop) : Prop :=
  ∀ w, Sat F pre w → Calls P f args.toArray w fun e w' => ∃ v hs', e = .returned v ∧ post v hs' ∧ Sat F hs' w'

/-- The frame of a callee: it holds all that the caller's has, and the pieces that the caller lays aside. -/
structure Wider (F : Fr) (rest : List SP) (F' : Fr) : Prop where
  hf : Hp.le F.hf F'.hf
  rest : ∃ h, SL rest h ∧ Hp.le h F'.hf
  os : F'.os = F.os
  out : F'.out = F.out
  tape : F'.tape = F.tape

section
variable {P : Program} {n : Nat} {F : Fr} {k : Kont} {env : Env} {hs : List SP} {ops : Array Oper} {l : List Oper} {o : Oper}

theorem Ops.ef {R : Value → List SP → Prop} (h : Ef P F env hs o R) (hg : o.guard = none) {d : Nat} (hdst : o.dst = some d) (hd : Nat.blt d n = true) (hk : ∀ v hs', R v hs' → Ops P n F k ops l ((d, v) :: env) hs') : Ops P n F k ops (o :: l) env hs := by
  intro a w s
  refine wpList_plain hg fun K hK => ?_
  unfold Oper.wp
  obtain ⟨v, w', hs', hr, hR, hS⟩ := h n a w s.ag s.sat
  rcases hr with hr | ⟨hr, rfl⟩
  · rw [hr]; exact hK _ _ (hk _ _ hR _ _ ⟨s.ag.putS v hdst hd, hS⟩)
  · rw [hr]; exact hK _ _ (hk _ _ hR _ _ ⟨s.ag.putS undef hdst hd, hS⟩)
theorem Ops.efG {R : Value → List SP → Prop} {j t : Nat} {b c : Bool} (hg : o.guard = some (j, b)) (hj : (ops[j]?).bind (·.dst) = some t) (ht : Env.get env t = some (.bool c)) (hc : c = b)
    (h : Ef P F env hs o R) {d : Nat} (hdst : o.dst = some d) (hd : Nat.blt d n = true) (hk : ∀ v hs', R v hs' → Ops P n F k ops l ((d, v) :: env) hs') : Ops P n F k ops (o :: l) env hs := by
  intro a w s
  refine wpList_step fun K hK => ?_
  rw [if_pos (by rw [wanted_of s.ag hg hj ht]; simpa using hc)]
  unfold Oper.wp
  obtain ⟨v, w', hs', hr, hR, hS⟩ := h n a w s.ag s.sat
  rcases hr with hr | ⟨hr, rfl⟩
  · rw [hr]; exact hK _ _ (hk _ _ hR _ _ ⟨s.ag.putS v hdst hd, hS⟩)
  · rw [hr]; exact hK _ _ (hk _ _ hR _ _ ⟨s.ag.putS undef hdst hd, hS⟩)
theorem Ops.ef0 {R : Value → List SP → Prop} (h : Ef P F env hs o R) (hg : o.guard = none) (hdst : o.dst = none) (hk : ∀ v hs', R v hs' → Ops P n F k ops l env hs') : Ops P n F k ops (o :: l) env hs := by
  intro a w s
  refine wpList_plain hg fun K hK => ?_
  unfold Oper.wp
  obtain ⟨v, w', hs', hr, hR, hS⟩ := h n a w s.ag s.sat
  rcases hr with hr | ⟨hr, rfl⟩
  · rw [hr]; exact hK _ _ (hk _ _ hR _ _ ⟨s.ag.put0 v hdst, hS⟩)
  · rw [hr]; exact hK _ _ (hk _ _ hR _ _ ⟨s.ag.put0 undef hdst, hS⟩)
theorem Ops.efG0 {R : Value → List SP → Prop} {j t : Nat} {b c : Bool} (hg : o.guard = some (j, b)) (hj : (ops[j]?).bind (·.dst) = some t) (ht : Env.get env t = some (.bool c)) (hc : c = b)
    (h : Ef P F env hs o R) (hdst : o.dst = none) (hk : ∀ v hs', R v hs' → Ops P n F k ops l env hs') : Ops P n F k ops (o :: l) env hs := by
  intro a w s
  refine wpList_step fun K hK => ?_
  rw [if_pos (by rw [wanted_of s.ag hg hj ht]; simpa using hc)]
  unfold Oper.wp
  obtain ⟨v, w', hs', hr, hR, hS⟩ := h n a w s.ag s.sat
  rcases hr with hr | ⟨hr, rfl⟩
  · rw [hr]; exact hK _ _ (hk _ _ hR _ _ ⟨s.ag.put0 v hdst, hS⟩)
  · rw [hr]; exact hK _ _ (hk _ _ hR _ _ ⟨s.ag.put0 undef hdst, hS⟩)
/-- One end alone. -/
theorem Ops.ef1 {v : Value} {hs' : List SP} (h : Ef P F env hs o (fun u r => u = v ∧ r = hs')) (hg : o.guard = none) {d : Nat} (hdst : o.dst = some d) (hd : Nat.blt d n = true) (hk : Ops P n F k ops l ((d, v) :: env) hs') : Ops P n F k ops (o :: l) env hs :=
  Ops.ef h hg hdst hd fun _ _ ⟨e, e'⟩ => by subst e; subst e'; exact hk

theorem Ops.ef10 {v : Value} {hs' : List SP} (h : Ef P F env hs o (fun u r => u = v ∧ r = hs')) (hg : o.guard = none) (hdst : o.dst = none) (hk : Ops P n F k ops l env hs') : Ops P n F k ops (o :: l) env hs :=
  Ops.ef0 h hg hdst fun _ _ ⟨e, e'⟩ => by subst e; subst e'; exact hk

/-! ### Calls -/

theorem calls_of_spec {f : FuncId} {args : List Value} {pre rest : List SP} {post : Value → List SP → Prop} (hk : Takes pre hs rest) (spec : ∀ F', Wider F rest F' → Spec P F' f args pre post) {w : World} (s : Sat F hs w) :
    Calls P f args.toArray w fun e w' => ∃ v hs', e = .returned v ∧ post v hs' ∧ Sat F (hs' ++ rest) w' := by
  obtain ⟨h2, hr, hd, s1, back⟩ := (s.ent hk.ent).frame
  have hw : Wider F rest { F with hf := Hp.un h2 F.hf } := ⟨Hp.le_un_right hd, ⟨h2, hr, Hp.le_un_left _ _⟩, rfl, rfl, rfl⟩
  exact (spec _ hw w s1).mono fun e w' ⟨v, hs', he, hp, hs⟩ => ⟨v, hs', he, hp, back _ _ hs⟩

variable {dst : Option Tmp} {ty : TypeId} {pos : String} {after : Array Edge} {g : Option (Nat × Bool)} {x y c : Operand} {u v : Value}

/-- A call of a function with a text. -/
structure HasBody (P : Program) (f : FuncId) : Prop where
  run : ∀ (args : Array Value) (w : World), (callFunc f args).run P w = .ok (.enter f args) w

theorem call_run {a : Act} {n : Nat} (ha : Agree n env a) {fv : Operand} {f : FuncId} {first cap : Array Value} {args : Array Operand} {ats : Array TypeId} {vs : List Value} (hb : HasBody P f) (hf : ev env fv = some (.func (.func f) first cap)) (hargs : evs env args.toList = some vs) (w : World) :
    (execOp a.eval ⟨dst, .call { callee := .value fv, args := args, argTypes := ats }, ty, pos, after, g⟩).run P w = .ok (.enter f (first.toList ++ vs ++ cap.toList).toArray) w := by
  have e : args.map a.eval = vs.toArray := by rw [← ha.evs hargs]; exact Array.ext' (by simp)
  have e2 : (first ++ vs.toArray ++ cap : Array Value) = (first.toList ++ vs ++ cap.toList).toArray := Array.ext' (by simp)
  simp [execOp, resolve, ha.ev hf, Deferred.ofValue, invoke, e, hb.run]

/-- A call: its contract, what it takes, what is left aside. -/
theorem Ops.call {fv : Operand} {f : FuncId} {first cap : Array Value} {args : Array Operand} {ats : Array TypeId} {vs as : List Value} {pre rest : List SP} {post : Value → List SP → Prop}
    (hb : HasBody P f) (hf : ev env fv = some (.func (.func f) first cap)) (hargs : evs env args.toList = some vs) (has : first.toList ++ vs ++ cap.toList = as)
    (hk : Takes pre hs rest) (spec : ∀ F', Wider F rest F' → Spec P F' f as pre post) (hg : g = none) {d : Nat} (hdst : dst = some d) (hd : Nat.blt d n = true)
    (hK : ∀ v hs', post v hs' → Ops P n F k ops l ((d, v) :: env) (hs' ++ rest)) :
    Ops P n F k ops (⟨dst, .call { callee := .value fv, args := args, argTypes := ats }, ty, pos, after, g⟩ :: l) env hs := by
  intro a w s
  refine wpList_plain hg fun K hK' => ?_
  unfold Oper.wp
  rw [call_run s.ag hb hf hargs w, has]
  refine (calls_of_spec hk spec s.sat).mono fun e w' ⟨v, hs', he, hp, hs⟩ => ?_
  subst he
  exact hK' _ _ (hK v hs' hp _ _ ⟨s.ag.putS v hdst hd, hs⟩)
theorem Ops.callG {fv : Operand} {f : FuncId} {first cap : Array Value} {args : Array Operand} {ats : Array TypeId} {vs as : List Value} {pre rest : List SP} {post : Value → List SP → Prop} {j t : Nat} {b c : Bool}
    (hg : g = some (j, b)) (hj : (ops[j]?).bind (·.dst) = some t) (ht : Env.get env t = some (.bool c)) (hc : c = b)
    (hb : HasBody P f) (hf : ev env fv = some (.func (.func f) first cap)) (hargs : evs env args.toList = some vs) (has : first.toList ++ vs ++ cap.toList = as)
    (hk : Takes pre hs rest) (spec : ∀ F', Wider F rest F' → Spec P F' f as pre post) {d : Nat} (hdst : dst = some d) (hd : Nat.blt d n = true)
    (hK : ∀ v hs', post v hs' → Ops P n F k ops l ((d, v) :: env) (hs' ++ rest)) :
    Ops P n F k ops (⟨dst, .call { callee := .value fv, args := args, argTypes := ats }, ty, pos, after, g⟩ :: l) env hs := by
  intro a w s
  refine wpList_step fun K hK' => ?_
  rw [if_pos (by rw [wanted_of s.ag hg hj ht]; simpa using hc)]
  unfold Oper.wp
  rw [call_run s.ag hb hf hargs w, has]
  refine (calls_of_spec hk spec s.sat).mono fun e w' ⟨v, hs', he, hp, hs⟩ => ?_
  subst he
  exact hK' _ _ (hK v hs' hp _ _ ⟨s.ag.putS v hdst hd, hs⟩)

theorem Ops.call0 {fv : Operand} {f : FuncId} {first cap : Array Value} {args : Array Operand} {ats : Array TypeId} {vs as : List Value} {pre rest : List SP} {post : Value → List SP → Prop}
    (hb : HasBody P f) (hf : ev env fv = some (.func (.func f) first cap)) (hargs : evs env args.toList = some vs) (has : first.toList ++ vs ++ cap.toList = as)
    (hk : Takes pre hs rest) (spec : ∀ F', Wider F rest F' → Spec P F' f as pre post) (hg : g = none) (hdst : dst = none)
    (hK : ∀ v hs', post v hs' → Ops P n F k ops l env (hs' ++ rest)) :
    Ops P n F k ops (⟨dst, .call { callee := .value fv, args := args, argTypes := ats }, ty, pos, after, g⟩ :: l) env hs := by
  intro a w s
  refine wpList_plain hg fun K hK' => ?_
  unfold Oper.wp
  rw [call_run s.ag hb hf hargs w, has]
  refine (calls_of_spec hk spec s.sat).mono fun e w' ⟨v, hs', he, hp, hs⟩ => ?_
  subst he
  exact hK' _ _ (hK v hs' hp _ _ ⟨s.ag.put0 v hdst, hs⟩)
theorem Ops.callG0 {fv : Operand} {f : FuncId} {first cap : Array Value} {args : Array Operand} {ats : Array TypeId} {vs as : List Value} {pre rest : List SP} {post : Value → List SP → Prop} {j t : Nat} {b c : Bool}
    (hg : g = some (j, b)) (hj : (ops[j]?).bind (·.dst) = some t) (ht : Env.get env t = some (.bool c)) (hc : c = b)
    (hb : HasBody P f) (hf : ev env fv = some (.func (.func f) first cap)) (hargs : evs env args.toList = some vs) (has : first.toList ++ vs ++ cap.toList = as)
    (hk : Takes pre hs rest) (spec : ∀ F', Wider F rest F' → Spec P F' f as pre post) (hdst : dst = none)
    (hK : ∀ v hs', post v hs' → Ops P n F k ops l env (hs' ++ rest)) :
    Ops P n F k ops (⟨dst, .call { callee := .value fv, args := args, argTypes := ats }, ty, pos, after, g⟩ :: l) env hs := by
  intro a w s
  refine wpList_step fun K hK' => ?_
  rw [if_pos (by rw [wanted_of s.ag hg hj ht]; simpa using hc)]
  unfold Oper.wp
  rw [call_run s.ag hb hf hargs w, has]
  refine (calls_of_spec hk spec s.sat).mono fun e w' ⟨v, hs', he, hp, hs⟩ => ?_
  subst he
  exact hK' _ _ (hK v hs' hp _ _ ⟨s.ag.put0 v hdst, hs⟩)

/-! ### A function's own text -/

def argsEnv : Nat → List Value → Env
  | _, [] => []
  | i, v :: r => (i, v) :: argsEnv (i + 1) r

theorem argsEnv_get : ∀ (vs : List Value) (i t : Nat) (v : Value), Env.get (argsEnv i vs) t = some v → i ≤ t ∧ vs[t - i]? = some v
  | [], _, _, _, h => by cases h
  | u :: r, i, t, v, h => by
    simp only [argsEnv, Env.get] at h
    by_cases ht : i = t
    · subst ht
      rw [Nat.beq_refl i] at h
      obtain rfl := Option.some.inj h
      exact ⟨Nat.le_refl _, by simp⟩
    · rw [Nat.beq_false_of_ne ht] at h
      obtain ⟨h1, h2⟩ := argsEnv_get r (i + 1) t v h
      refine ⟨by omega, ?_⟩
      obtain ⟨d, hd⟩ : ∃ d, t - i = d + 1 := ⟨t - i - 1, by omega⟩
      rw [hd, List.getElem?_cons_succ]
      rwa [show t - (i + 1) = d by omega] at h2

/-- The body, from the arguments on. -/
theorem Spec.body {f : FuncId} {fn : Func} {c : Code} {args : List Value} {pre : List SP} {post : Value → List SP → Prop} (hf : P.funcs[f]? = some fn) (hb : fn.body = some c) (hn : fn.ntmps = n) (hle : Nat.ble args.length n = true)
    (h : Cod P n F (.done fn fun e w' => ∃ v hs', e = .returned v ∧ post v hs' ∧ Sat F hs' w') c (argsEnv 0 args) pre) : Spec P F f args pre post := by
  intro w s
  refine calls_of_wp hf hb ?_
  refine h _ w ⟨⟨?_, rfl, ?_⟩, s⟩
  · have := Nat.le_of_ble_eq_true hle
    simp [hn]; omega
  · intro t v hv
    obtain ⟨_, h2⟩ := argsEnv_get args 0 t v hv
    rw [Nat.sub_zero] at h2
    have hlt : t < args.length := (List.getElem?_eq_some_iff.1 h2).1
    rw [Array.getElem?_append_left (by simpa using hlt)]
    simpa using h2

/-- What a function hands back, at a return and at its text's end. -/
theorem Ext.ret {fn : Func} {post : Value → List SP → Prop} {t : Nat} (hr : fn.results = #[.tmp t]) (ht : Env.get env t = some v) (h : post v hs) :
    Ext P n F (.done fn fun e w' => ∃ v hs', e = .returned v ∧ post v hs' ∧ Sat F hs' w') .ret env hs := fun a w s =>
  ⟨s.ag.defers, v, by rw [results_tmp hr]; have := s.ag.at_ t v ht; simp [this], v, hs, rfl, h, s.sat⟩
theorem Ext.retN {fn : Func} {post : Value → List SP → Prop} {t : Nat} (hr : fn.results = #[.tmp t]) (ht : Env.get env t = some v) (h : post v hs) :
    Ext P n F (.done fn fun e w' => ∃ v hs', e = .returned v ∧ post v hs' ∧ Sat F hs' w') .normal env hs := Ext.ret hr ht h
theorem Ext.ret0 {fn : Func} {post : Value → List SP → Prop} (hr : fn.results = #[]) (h : post (.tuple #[]) hs) :
    Ext P n F (.done fn fun e w' => ∃ v hs', e = .returned v ∧ post v hs' ∧ Sat F hs' w') .ret env hs := fun _ _ s =>
  ⟨s.ag.defers, .tuple #[], results_none hr _ _ _, _, hs, rfl, h, s.sat⟩
theorem Ext.ret0N {fn : Func} {post : Value → List SP → Prop} (hr : fn.results = #[]) (h : post (.tuple #[]) hs) :
    Ext P n F (.done fn fun e w' => ∃ v hs', e = .returned v ∧ post v hs' ∧ Sat F hs' w') .normal env hs := Ext.ret0 hr h
theorem Ext.retE {fn : Func} {post : Value → List SP → Prop} {t : Nat} {hs' : List SP} (hr : fn.results = #[.tmp t]) (ht : Env.get env t = some v) (e : Ent hs hs') (h : post v hs') :
    Ext P n F (.done fn fun e w' => ∃ v hs', e = .returned v ∧ post v hs' ∧ Sat F hs' w') .ret env hs := fun a w s => Ext.ret hr ht h a w ⟨s.ag, s.sat.ent e⟩
theorem Ext.retEN {fn : Func} {post : Value → List SP → Prop} {t : Nat} {hs' : List SP} (hr : fn.results = #[.tmp t]) (ht : Env.get env t = some v) (e : Ent hs hs') (h : post v hs') :
    Ext P n F (.done fn fun e w' => ∃ v hs', e = .returned v ∧ post v hs' ∧ Sat F hs' w') .normal env hs := Ext.retE hr ht e h
theorem Ext.ret0E {fn : Func} {post : Value → List SP → Prop} {hs' : List SP} (hr : fn.results = #[]) (e : Ent hs hs') (h : post (.tuple #[]) hs') :
    Ext P n F (.done fn fun e w' => ∃ v hs', e = .returned v ∧ post v hs' ∧ Sat F hs' w') .ret env hs := fun a w s => Ext.ret0 hr h a w ⟨s.ag, s.sat.ent e⟩
theorem Ext.ret0EN {fn : Func} {post : Value → List SP → Prop} {hs' : List SP} (hr : fn.results = #[]) (e : Ent hs hs') (h : post (.tuple #[]) hs') :
    Ext P n F (.done fn fun e w' => ∃ v hs', e = .returned v ∧ post v hs' ∧ Sat F hs' w') .normal env hs := Ext.ret0E hr e h
theorem Ext.ret2 {fn : Func} {post : Value → List SP → Prop} {t t' : Nat} {v v' : Value} (hr : fn.results = #[.tmp t, .tmp t']) (ht : Env.get env t = some v) (ht' : Env.get env t' = some v') (h : post (.tuple #[v, v']) hs) :
    Ext P n F (.done fn fun e w' => ∃ v hs', e = .returned v ∧ post v hs' ∧ Sat F hs' w') .ret env hs := fun a w s =>
  ⟨s.ag.defers, .tuple #[v, v'], by rw [results_tmp2 hr]; have h1 := s.ag.at_ t v ht; have h2 := s.ag.at_ t' v' ht'; simp [h1, h2], _, hs, rfl, h, s.sat⟩

theorem Ext.ret2E {fn : Func} {post : Value → List SP → Prop} {t t' : Nat} {v v' : Value} {hs' : List SP} (hr : fn.results = #[.tmp t, .tmp t']) (ht : Env.get env t = some v) (ht' : Env.get env t' = some v') (e : Ent hs hs') (h : post (.tuple #[v, v']) hs') :
    Ext P n F (.done fn fun e w' => ∃ v hs', e = .returned v ∧ post v hs' ∧ Sat F hs' w') .ret env hs := fun a w s => Ext.ret2 hr ht ht' h a w ⟨s.ag, s.sat.ent e⟩

/-- What is hidden behind an assertion of one's own. -/
theorem Spec.open_ {α : Type} {f : FuncId} {args : List Value} {A : SP} {φ : α → Prop} {I : α → List SP} {rest : List SP} {post : Value → List SP → Prop} (h : ∀ z, A z → ∃ x, φ x ∧ SL (I x) z) (hh : ∀ x, φ x → Spec P F f args (I x ++ rest) post) : Spec P F f args (A :: rest) post := by
  intro w s
  obtain ⟨z, d, u, z1, z2, hd, rfl, hz1, hz2⟩ := s.heap
  obtain ⟨x, hφ, hx⟩ := h z1 hz1
  exact hh x hφ w ⟨s.os, s.out, s.tape, _, d, u, SL_append.2 ⟨z1, z2, hd, rfl, hx, hz2⟩⟩
theorem Ops.open_ {α : Type} {A : SP} {φ : α → Prop} {I : α → List SP} {rest : List SP} (hk : TakeP A hs rest) (h : ∀ z, A z → ∃ x, φ x ∧ SL (I x) z) (hh : ∀ x, φ x → Ops P n F k ops l env (I x ++ rest)) : Ops P n F k ops l env hs := by
  intro a w s
  have s' := s.sat.ent hk.ent
  obtain ⟨z, d, u, z1, z2, hd, rfl, hz1, hz2⟩ := s'.heap
  obtain ⟨x, hφ, hx⟩ := h z1 hz1
  exact hh x hφ a w ⟨s.ag, s'.os, s'.out, s'.tape, _, d, u, SL_append.2 ⟨z1, z2, hd, rfl, hx, hz2⟩⟩
theorem Ops.fact {φ : Prop} (h : ∀ w, Sat F hs w → φ) (hh : φ → Ops P n F k ops l env hs) : Ops P n F k ops l env hs := fun a w s => hh (h w s.sat) a w s
theorem Ext.fact {φ : Prop} {e : Exit} (h : ∀ w, Sat F hs w → φ) (hh : φ → Ext P n F k e env hs) : Ext P n F k e env hs := fun a w s => hh (h w s.sat) a w s
theorem Cod.fact {φ : Prop} {e : Code} (h : ∀ w, Sat F hs w → φ) (hh : φ → Cod P n F k e env hs) : Cod P n F k e env hs := fun a w s => hh (h w s.sat) a w s
theorem Spec.fact {φ : Prop} {f : FuncId} {args : List Value} {post : Value → List SP → Prop} (h : ∀ w, Sat F hs w → φ) (hh : φ → Spec P F f args hs post) : Spec P F f args hs post := fun w s => hh (h w s) w s
theorem Spec.weak {f : FuncId} {args : List Value} {pre : List SP} {post post' : Value → List SP → Prop} (h : Spec P F f args pre post) (hh : ∀ v hs, post v hs → ∃ hs', Ent hs hs' ∧ post' v hs') : Spec P F f args pre post' :=
  fun w s => (h w s).mono fun _ _ ⟨v, hs', he, hp, hs⟩ => let ⟨hs2, e, hp'⟩ := hh v hs' hp; ⟨v, hs2, he, hp', hs.ent e⟩
theorem Spec.pre {f : FuncId} {args : List Value} {pre pre' : List SP} {post : Value → List SP → Prop} (h : Spec P F f args pre post) (e : Ent pre' pre) : Spec P F f args pre' post := fun w s => h w (s.ent e)
/-- Several assertions behind one name. -/
theorem Ent.fold {A : SP} {ps hs r : List SP} (hk : Takes ps hs r) (h : ∀ z, SL ps z → A z) : Ent hs (A :: r) := fun x hx => by
  obtain ⟨a, b, d, e, p, q⟩ := SL_append.1 (hk.ent x hx)
  exact ⟨a, b, d, e, h a p, q⟩

/-! ### Stores -/

theorem storeCells_run {b o : Nat} {T : TypeId} {cs : List Value} {r : List SP} {vs : List Value} {w : World} (s : Sat F (pt b T cs :: r) w) (hl : o + vs.length ≤ cs.length) (h1 : ∀ v ∈ vs, v.oneCell' = true) :
    ∃ w', (storeCells ⟨b, o, none⟩ vs).run P w = .ok () w' ∧ Sat F (pt b T (cs.take o ++ vs ++ cs.drop (o + vs.length)) :: r) w' := by
  have s' : Sat F (blk b (.cells cs.toArray T (0, 0)) :: r) w := s.ent fun _ ⟨x, y, d, e, p, q⟩ => ⟨x, y, d, e, pt.blk.1 p, q⟩
  have hg := s'.blk
  have hr := run_storeCells_at P b o T vs 0 cs.toArray w hg (by simpa using hl) h1
  simp only [Nat.add_zero] at hr
  refine ⟨_, hr, ?_⟩
  have := s'.setBlk (o' := .cells (cs.take o ++ vs ++ cs.drop (o + vs.length)).toArray T (0, 0)) (w' := w.setRow b (cs.toArray.toList.take o ++ vs ++ cs.toArray.toList.drop (o + vs.length)).toArray) (fun k => by
    by_cases hk : k = b
    · subst hk
      rw [if_pos rfl]
      exact setRow_heap w k cs.toArray _ T _ hg
    · rw [if_neg hk]
      exact setRow_other w b k _ hk) rfl rfl rfl
  exact this.ent fun _ ⟨x, y, d, e, p, q⟩ => ⟨x, y, d, e, pt.blk.2 p, q⟩

/-- A store of one cell into a block that is owned. -/
theorem Ef.store {t : TypeId} {b o : Nat} {T : TypeId} {cs cs' : List Value} {r : List SP} (hx : ev env x = some (.pointer (some ⟨b, o, none⟩))) (hy : ev env y = some v) (hk : TakeP (pt b T cs) hs r)
    (hl : ∀ w, (sizeOf t).run P w = .ok 1 w) (ho : Nat.blt o cs.length = true) (h1 : v.oneCell' = true) (hc : cs.set o v = cs') :
    Ef P F env hs ⟨dst, .store t x y, ty, pos, after, g⟩ (fun u hs' => u = undef ∧ hs' = pt b T cs' :: r) := by
  intro n a w ha s
  have ho' : o < cs.length := Nat.le_of_ble_eq_true ho
  have hv : v.cells = #[v] := by cases v <;> first | rfl | cases h1
  obtain ⟨w', hr, hs'⟩ := storeCells_run (P := P) (o := o) (vs := [v]) (s.ent hk.ent) (by simp only [List.length_cons, List.length_nil]; omega) (by simpa using h1)
  refine ⟨undef, w', _, .inr ⟨?_, rfl⟩, ⟨rfl, rfl⟩, ?_⟩
  · simp [execOp, ha.ev hx, ha.ev hy, Instr.storeAt, Instr.sureAddr, storeVar, hv, hl, hr]
  · have : cs.take o ++ [v] ++ cs.drop (o + [v].length) = cs' := by
      rw [← hc, List.set_eq_take_append_cons_drop, if_pos ho']; simp
    rw [this] at hs'
    exact hs'
/-- A store of an aggregate. -/
theorem Ef.storeA {t : TypeId} {b o len : Nat} {T : TypeId} {cs cs' vs : List Value} {r : List SP} (hx : ev env x = some (.pointer (some ⟨b, o, none⟩))) (hy : ev env y = some (.agg vs.toArray)) (hk : TakeP (pt b T cs) hs r)
    (hl : ∀ w, (sizeOf t).run P w = .ok len w) (hn : vs.length = len) (ho : o + len ≤ cs.length) (h1 : ∀ v ∈ vs, v.oneCell' = true) (hc : cs.take o ++ vs ++ cs.drop (o + len) = cs') :
    Ef P F env hs ⟨dst, .store t x y, ty, pos, after, g⟩ (fun u hs' => u = undef ∧ hs' = pt b T cs' :: r) := by
  intro n a w ha s
  obtain ⟨w', hr, hs'⟩ := storeCells_run (P := P) (o := o) (vs := vs) (s.ent hk.ent) (by omega) h1
  refine ⟨undef, w', _, .inr ⟨?_, rfl⟩, ⟨rfl, rfl⟩, ?_⟩
  · simp [execOp, ha.ev hx, ha.ev hy, Instr.storeAt, Instr.sureAddr, storeVar, Value.cells, hl, hn, hr]
  · rw [hn, hc] at hs'
    exact hs'

/-! ### New blocks -/
theorem Sat.newPt {r : List SP} {w : World} (s : Sat F r w) (T : TypeId) (cs : List Value) : Sat F (pt w.heap.size T cs :: r) (w.alloc (.cells cs.toArray T (0, 0))) :=
  (s.new _).ent fun _ ⟨x, y, d, e, p, q⟩ => ⟨x, y, d, e, pt.blk.2 p, q⟩

theorem Ef.alloc {T : TypeId} {z : Value} {cs : List Value} (hz : ∀ w, (zeroValue T).run P w = .ok z w) (hc : z.cells = cs.toArray) :
    Ef P F env hs ⟨dst, .alloc T, ty, pos, after, g⟩ (fun u hs' => ∃ b, u = .pointer (some ⟨b, 0, none⟩) ∧ hs' = pt b T cs :: hs) := by
  intro n a w ha s
  refine ⟨.pointer (some ⟨w.heap.size, 0, none⟩), w.alloc (.cells cs.toArray T (0, 0)), _, .inl ?_, ⟨_, rfl, rfl⟩, s.newPt T cs⟩
  simp [execOp, Instr.alloc, hz, newVar, newRow, hc]
theorem Ef.box {T : TypeId} {cs : List Value} (hx : ev env x = some v) (hc : v.cells = cs.toArray) :
    Ef P F env hs ⟨dst, .box T x, ty, pos, after, g⟩ (fun u hs' => ∃ b, u = .pointer (some ⟨b, 0, none⟩) ∧ hs' = pt b T cs :: hs) := by
  intro n a w ha s
  refine ⟨.pointer (some ⟨w.heap.size, 0, none⟩), w.alloc (.cells cs.toArray T (0, 0)), _, .inl ?_, ⟨_, rfl, rfl⟩, s.newPt T cs⟩
  simp [execOp, Instr.box, ha.ev hx, newVar, newRow, hc]

end
end Go.Proofs.Ytjlimnckdblkhaa
