/- Regions whose order is open and whose operations act: gone through in every order. No condition. -/
import Derived.Test.YtjlimnckdblkhaaLC
namespace Go.Proofs.Ytjlimnckdblkhaa
open Go

theorem Kont.panic {P : Program} {d : Option Nat} {v : Value} {c : List PanicEntry} {a : Act} {w : World} : ∀ k : Kont, k.Q P (.panic c) (a.put d v) w → k.Q P (.panic c) a w
  | .done fn R, h => by cases d <;> exact h
  | .seq y k, h => Kont.panic k h
  | .block id k, h => Kont.panic k h
  | .stop I k, h => Kont.panic k h

section
variable {P : Program} {n : Nat} {F : Fr} {k : Kont} {env : Env} {hs : List SP} {ops : Array Oper} {o : Oper} {fuel : Nat} {listed listed' : Array Bool}

/-- Whatever comes up from here on. -/
def As (P : Program) (n : Nat) (F : Fr) (k : Kont) (ops : Array Oper) (fuel : Nat) (listed : Array Bool) (env : Env) (hs : List SP) : Prop :=
  ∀ a w, St n F env hs a w → wpAny P .any ops (k.Q P) fuel listed a w
/-- Operation i comes up. -/
def Ao (P : Program) (n : Nat) (F : Fr) (k : Kont) (ops : Array Oper) (fuel : Nat) (listed : Array Bool) (i : Nat) (env : Env) (hs : List SP) : Prop :=
  ∀ a w, St n F env hs a w → wpOp P ops (k.Q P) i (wpAny P .any ops (k.Q P) fuel (listed.setIfInBounds i true)) a w

theorem Cod.regionA {id : Nat} {l : List Oper} (hm : P.follows .mixedOrders = true) (hl : Array.replicate l.length false = listed) (h : As P n F k l.toArray l.length listed env hs) : Cod P n F k (.region id l.toArray true) env hs := fun a w s => by
  refine wp_region_any hm ?_
  rw [List.size_toArray, hl]
  exact h a _ ⟨s.ag, s.sat.drew⟩

theorem As.ent {hs' : List SP} (hh : Ent hs hs') (h : As P n F k ops fuel listed env hs') : As P n F k ops fuel listed env hs := fun a w s => h a w ⟨s.ag, s.sat.ent hh⟩
theorem As.fact {φ : Prop} (h : ∀ w, Sat F hs w → φ) (hh : φ → As P n F k ops fuel listed env hs) : As P n F k ops fuel listed env hs := fun a w s => hh (h w s.sat) a w s
theorem As.done (hr : Region.ready .any ops listed = []) (h : Ext P n F k .normal env hs) : As P n F k ops fuel listed env hs := fun a w s => wpAny_done hr (h a w s) fuel

/-- What hangs on no memory is taken first. -/
theorem As.take (i : Nat) {d : Nat} {v : Value} (hi : ops[i]? = some o) (hs' : Region.noSelect ops = true) (hf : Region.free .any ops listed i = true) (hr : (Region.ready .any ops listed).contains i = true)
    (hg : o.guard = none) (hdst : o.dst = some d) (hd : Nat.blt d n = true) (hv : ∀ F hs, Ev P F env hs o v) (hl : listed.setIfInBounds i true = listed')
    (h : As P n F k ops fuel listed' ((d, v) :: env) hs) : As P n F k ops (fuel + 1) listed env hs := fun a w s => by
  refine wpAny_take hi hs' hf hr (fun c a w => Kont.panic k) (.inl ⟨by simp [Region.wanted, hg], fun w' => hv (World.fr w') [] n a w' s.ag (Sat.start w')⟩) ?_
  rw [hl]
  exact h _ w ⟨s.ag.putS v hdst hd, s.sat⟩

theorem As.one {i : Nat} (hr : Region.ready .any ops listed = [i]) (h : Ao P n F k ops fuel listed i env hs) : As P n F k ops (fuel + 1) listed env hs := fun a w s =>
  wpAny_all hr (by simp) fun j hj => by
    rcases List.mem_cons.1 hj with rfl | hj
    · exact h a w s
    · cases hj
theorem As.two {i j : Nat} (hr : Region.ready .any ops listed = [i, j]) (h : Ao P n F k ops fuel listed i env hs) (h2 : Ao P n F k ops fuel listed j env hs) : As P n F k ops (fuel + 1) listed env hs := fun a w s =>
  wpAny_all hr (by simp) fun q hq => by
    rcases List.mem_cons.1 hq with rfl | hq
    · exact h a w s
    · rcases List.mem_cons.1 hq with rfl | hq
      · exact h2 a w s
      · cases hq
theorem As.three {i j l : Nat} (hr : Region.ready .any ops listed = [i, j, l]) (h : Ao P n F k ops fuel listed i env hs) (h2 : Ao P n F k ops fuel listed j env hs) (h3 : Ao P n F k ops fuel listed l env hs) : As P n F k ops (fuel + 1) listed env hs := fun a w s =>
  wpAny_all hr (by simp) fun q hq => by
    rcases List.mem_cons.1 hq with rfl | hq
    · exact h a w s
    · rcases List.mem_cons.1 hq with rfl | hq
      · exact h2 a w s
      · rcases List.mem_cons.1 hq with rfl | hq
        · exact h3 a w s
        · cases hq

theorem wpOp_of {i : Nat} (hi : ops[i]? = some o) (hg : o.guard = none) {Q : Exit → Act → World → Prop} {K : Act → World → Prop} {a : Act} {w : World} (h : o.wp P a w K Q) : wpOp P ops Q i K a w := by
  unfold wpOp
  simp only [hi, Region.wanted, hg, if_true]
  exact .inl h

theorem Ao.st {i d : Nat} {v : Value} (hi : ops[i]? = some o) (h : Ev P F env hs o v) (hg : o.guard = none) (hdst : o.dst = some d) (hd : Nat.blt d n = true) (hl : listed.setIfInBounds i true = listed')
    (hk : As P n F k ops fuel listed' ((d, v) :: env) hs) : Ao P n F k ops fuel listed i env hs := fun a w s => by
  refine wpOp_of hi hg ?_
  unfold Oper.wp
  rw [h n a w s.ag s.sat, hl]
  exact hk _ _ ⟨s.ag.putS v hdst hd, s.sat⟩
theorem Ao.ef {i d : Nat} {R : Value → List SP → Prop} (hi : ops[i]? = some o) (h : Ef P F env hs o R) (hg : o.guard = none) (hdst : o.dst = some d) (hd : Nat.blt d n = true) (hl : listed.setIfInBounds i true = listed')
    (hk : ∀ v hs', R v hs' → As P n F k ops fuel listed' ((d, v) :: env) hs') : Ao P n F k ops fuel listed i env hs := fun a w s => by
  refine wpOp_of hi hg ?_
  unfold Oper.wp
  obtain ⟨v, w', hs', hr, hR, hS⟩ := h n a w s.ag s.sat
  rcases hr with hr | ⟨hr, rfl⟩
  · rw [hr, hl]; exact hk _ _ hR _ _ ⟨s.ag.putS v hdst hd, hS⟩
  · rw [hr, hl]; exact hk _ _ hR _ _ ⟨s.ag.putS undef hdst hd, hS⟩
theorem Ao.ef0 {i : Nat} {R : Value → List SP → Prop} (hi : ops[i]? = some o) (h : Ef P F env hs o R) (hg : o.guard = none) (hdst : o.dst = none) (hl : listed.setIfInBounds i true = listed')
    (hk : ∀ v hs', R v hs' → As P n F k ops fuel listed' env hs') : Ao P n F k ops fuel listed i env hs := fun a w s => by
  refine wpOp_of hi hg ?_
  unfold Oper.wp
  obtain ⟨v, w', hs', hr, hR, hS⟩ := h n a w s.ag s.sat
  rcases hr with hr | ⟨hr, rfl⟩
  · rw [hr, hl]; exact hk _ _ hR _ _ ⟨s.ag.put0 v hdst, hS⟩
  · rw [hr, hl]; exact hk _ _ hR _ _ ⟨s.ag.put0 undef hdst, hS⟩
theorem Ao.ef1 {i d : Nat} {v : Value} {hs' : List SP} (hi : ops[i]? = some o) (h : Ef P F env hs o (fun u r => u = v ∧ r = hs')) (hg : o.guard = none) (hdst : o.dst = some d) (hd : Nat.blt d n = true) (hl : listed.setIfInBounds i true = listed')
    (hk : As P n F k ops fuel listed' ((d, v) :: env) hs') : Ao P n F k ops fuel listed i env hs := Ao.ef hi h hg hdst hd hl fun _ _ ⟨e, e'⟩ => by subst e; subst e'; exact hk
theorem Ao.ef10 {i : Nat} {v : Value} {hs' : List SP} (hi : ops[i]? = some o) (h : Ef P F env hs o (fun u r => u = v ∧ r = hs')) (hg : o.guard = none) (hdst : o.dst = none) (hl : listed.setIfInBounds i true = listed')
    (hk : As P n F k ops fuel listed' env hs') : Ao P n F k ops fuel listed i env hs := Ao.ef0 hi h hg hdst hl fun _ _ ⟨e, e'⟩ => by subst e; subst e'; exact hk
theorem Ao.call {i d : Nat} {dst : Option Tmp} {ty : TypeId} {pos : String} {after : Array Edge} {g : Option (Nat × Bool)} {fv : Operand} {f : FuncId} {first cap : Array Value} {args : Array Operand} {ats : Array TypeId} {vs as : List Value} {pre rest : List SP} {post : Value → List SP → Prop}
    (hi : ops[i]? = some ⟨dst, .call { callee := .value fv, args := args, argTypes := ats }, ty, pos, after, g⟩)
    (hb : HasBody P f) (hf : ev env fv = some (.func (.func f) first cap)) (hargs : evs env args.toList = some vs) (has : first.toList ++ vs ++ cap.toList = as)
    (hk : Takes pre hs rest) (spec : ∀ F', Wider F rest F' → Spec P F' f as pre post) (hg : g = none) (hdst : dst = some d) (hd : Nat.blt d n = true) (hl : listed.setIfInBounds i true = listed')
    (hK : ∀ v hs', post v hs' → As P n F k ops fuel listed' ((d, v) :: env) (hs' ++ rest)) : Ao P n F k ops fuel listed i env hs := fun a w s => by
  refine wpOp_of hi hg ?_
  unfold Oper.wp
  rw [call_run s.ag hb hf hargs w, has, hl]
  refine (calls_of_spec hk spec s.sat).mono fun e w' ⟨v, hs', he, hp, hs⟩ => ?_
  subst he
  exact hK v hs' hp _ _ ⟨s.ag.putS v hdst hd, hs⟩
end
end Go.Proofs.Ytjlimnckdblkhaa
