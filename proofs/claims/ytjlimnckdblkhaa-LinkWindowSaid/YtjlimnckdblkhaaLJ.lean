/- Regions whose order is open: reads, and calls that change nothing, for which all else waits, are taken in the text's order. No condition. -/
import Derived.Deep.Quiet
import Derived.Test.YtjlimnckdblkhaaLI
namespace Go.Proofs.Ytjlimnckdblkhaa
open Go

section
variable {P : Program} {ops : Array Oper} {md : Region.Mode} {C : World → Prop}

/-- The quiet ones R come up, in whatever order; L behind them. -/
def wpAnyRQ (P : Program) (md : Region.Mode) (ops : Array Oper) (C : World → Prop) (R : List Nat) (L : Array Bool → Act → Prop) : Nat → Array Bool → Act → Prop
  | 0, listed, a => (∀ j ∈ Region.ready md ops listed, j ∉ R) ∧ L listed a
  | f + 1, listed, a => Region.ready md ops listed ≠ [] ∧ ∀ i ∈ Region.ready md ops listed, qOp P ops C i (wpAnyRQ P md ops C R L f (listed.setIfInBounds i true)) a

theorem wpAny_of_RQ {g : Nat} {R : List Nat} {L : Array Bool → Act → Prop} {Q' : Exit → Act → World → Prop} (hL : ∀ listed a w, C w → L listed a → wpAny P md ops Q' g listed a w) :
    ∀ (f : Nat) (listed : Array Bool) (a : Act) (w : World), C w → wpAnyRQ P md ops C R L f listed a → wpAny P md ops Q' (f + g) listed a w
  | 0, listed, a, w, hw, h => by rw [Nat.zero_add]; exact hL _ _ _ hw h.2
  | f + 1, listed, a, w, hw, h => by
    rw [show f + 1 + g = (f + g) + 1 by omega]
    exact ⟨fun h0 => absurd h0 h.1, fun i hi => wpOp_of_qOp hw (fun a' w' hw' h' => wpAny_of_RQ hL f _ a' w' hw' h') (h.2 i hi)⟩

theorem wpAnyRQ_first {i : Nat} {oi : Oper} {v : Value} {R : List Nat} {L : Array Bool → Act → Prop} (hi : ops[i]? = some oi) (hsel : ∀ (j : Nat) (o : Oper) cs b, ops[j]? = some o → o.op ≠ .select cs b) :
    ∀ (f : Nat) (listed : Array Bool) (a : Act), Closed md ops listed → (∀ j, j < ops.size → j ∉ R → listed.getD j true = false → j ∈ reachTo md ops i ops.size) →
      (∀ j oj, ops[j]? = some oj → j ≠ i → listed.getD j true = false → (∀ e ∈ oj.after, Region.binds md e = true → e.on ≠ i) → oi.apart ops oj = true) →
      i ∈ Region.ready md ops listed → YieldsIn P ops C oi v a →
      wpAnyRQ P md ops C R L f (listed.setIfInBounds i true) (a.put oi.dst v) → wpAnyRQ P md ops C R L (f + 1) listed a := by
  have inR : ∀ (listed : Array Bool), Closed md ops listed → (∀ j, j < ops.size → j ∉ R → listed.getD j true = false → j ∈ reachTo md ops i ops.size) → i ∈ Region.ready md ops listed → ∀ j ∈ Region.ready md ops listed, j ∈ R := fun listed hc hd hr j hj => by
    obtain ⟨hun, oj, hoj, _⟩ := mem_ready.1 hj
    by_cases hR : j ∈ R
    · exact hR
    · exact absurd hj (reach_un hc (getD_both (mem_ready.1 hr).1) _ j (hd j (Array.getElem?_eq_some_iff.1 hoj).1 hR hun)).2
  intro f
  induction f with
  | zero =>
    intro listed a hc hd _ hr hy H
    refine ⟨fun h => (by rw [h] at hr; cases hr), fun j hj => ?_⟩
    by_cases hji : j = i
    · subst hji; exact hy.qOp hi H
    · exact absurd (inR listed hc hd hr j hj) (H.1 j (ready_mono hj hji))
  | succ f ih =>
    intro listed a hc hd hfree hr hy H
    have hun := (mem_ready.1 hr).1
    refine ⟨fun h => (by rw [h] at hr; cases hr), fun j hj => ?_⟩
    by_cases hji : j = i
    · subst hji; exact hy.qOp hi H
    · have h1 := H.2 j (ready_mono hj hji)
      obtain ⟨hjun, oj, hoj, hall⟩ := mem_ready.1 hj
      have hnot : ∀ e ∈ oj.after, Region.binds md e = true → e.on ≠ i := fun e he hb heq => by
        have h1 := hall e he hb
        rw [heq, getD_both hun] at h1
        cases h1
      have h2 := qOp_put hoj (hfree j oj hoj hji hjun hnot) (fun cs b => hsel i oi cs b hi) (fun cs b => hsel j oj cs b hoj) hy h1
      have back : ∀ k, (listed.setIfInBounds j true).getD k true = false → listed.getD k true = false := fun k hun => by
        by_cases hjk : j = k
        · subst hjk; exact hjun
        · rw [getD_set_ne true hjk] at hun; exact hun
      refine qOp_mono (fun a' h3 => ih (listed.setIfInBounds j true) a' (hc.set hj) (fun k hk hR hu => hd k hk hR (back k hu)) (fun k ok hk hki hu hno => hfree k ok hk hki (back k hu) hno) (ready_mono hr (Ne.symm hji)) h3.1 ?_) h2
      rw [Array.setIfInBounds_comm _ _ hji]
      exact h3.2

variable {n : Nat} {F : Fr} {k : Kont} {env : Env} {hs : List SP} {o : Oper} {f g : Nat} {R : List Nat} {listed listed' : Array Bool}
/-- The quiet ones R are under way, f of them are left. -/
def Aq (P : Program) (n : Nat) (F : Fr) (k : Kont) (ops : Array Oper) (g : Nat) (R : List Nat) (f : Nat) (listed : Array Bool) (env : Env) (hs : List SP) : Prop :=
  ∀ a, Agree n env a → wpAnyRQ P .any ops (Sat F hs) R (fun listed a => ∀ w, Sat F hs w → wpAny P .any ops (k.Q P) g listed a w) f listed a
theorem As.quiet (R : List Nat) (f g : Nat) {fuel : Nat} (hf : f + g = fuel) (h : Aq P n F k ops g R f listed env hs) : As P n F k ops fuel listed env hs := fun a w s => by
  subst hf
  exact wpAny_of_RQ (C := Sat F hs) (fun _ _ w hw h => h w hw) f listed a w s.sat (h a s.ag)
theorem Aq.done (hB : ((Region.ready .any ops listed).all fun j => !R.contains j) = true) (h : As P n F k ops g listed env hs) : Aq P n F k ops g R 0 listed env hs := fun a ha =>
  ⟨fun j hj hR => by
    have h1 := List.all_eq_true.1 hB j hj
    simp [hR] at h1, fun w s => h a w ⟨ha, s⟩⟩
theorem Aq.splitB {t : Nat} {c : Bool} (_ht : Env.get env t = some (.bool c)) (h1 : c = true → Aq P n F k ops g R f listed env hs) (h2 : c = false → Aq P n F k ops g R f listed env hs) : Aq P n F k ops g R f listed env hs := by cases c; exact h2 rfl; exact h1 rfl
theorem Aq.splitD {t : Nat} {p : Prop} [Decidable p] (_ht : Env.get env t = some (.bool (decide p))) (h1 : p → Aq P n F k ops g R f listed env hs) (h2 : ¬ p → Aq P n F k ops g R f listed env hs) : Aq P n F k ops g R f listed env hs := (Decidable.em p).elim h1 h2
/-- What is asked of the place of the next one. -/
structure Nx (ops : Array Oper) (R : List Nat) (listed : Array Bool) (i : Nat) (o : Oper) : Prop where
  at_ : ops[i]? = some o
  sel : Region.noSelect ops = true
  cl : closedB ops listed = true
  be : besideB ops R listed i = true
  fr : Region.free .any ops listed i = true
  re : (Region.ready .any ops listed).contains i = true
theorem Aq.step {i d : Nat} {v : Value} (x : Nx ops R listed i o) (hy : ∀ a, Agree n env a → YieldsIn P ops (Sat F hs) o v a) (hdst : o.dst = some d) (hd : Nat.blt d n = true) (hl : listed.setIfInBounds i true = listed')
    (h : Aq P n F k ops g R f listed' ((d, v) :: env) hs) : Aq P n F k ops g R (f + 1) listed env hs := fun a ha => by
  refine wpAnyRQ_first x.at_ (fun j oj cs b hj => Region.noSelect_spec x.sel j oj cs b hj) f listed a (closedB_spec x.cl) (besideB_spec x.be) (Region.free_spec x.at_ x.fr) (by simpa using x.re) (hy a ha) ?_
  rw [hl]
  exact h _ (ha.putS v hdst hd)
theorem Aq.st {i d : Nat} {v : Value} (x : Nx ops R listed i o) (hv : Ev P F env hs o v) (hg : o.guard = none) (hdst : o.dst = some d) (hd : Nat.blt d n = true) (hl : listed.setIfInBounds i true = listed')
    (h : Aq P n F k ops g R f listed' ((d, v) :: env) hs) : Aq P n F k ops g R (f + 1) listed env hs :=
  Aq.step x (fun a ha => .inl ⟨by simp [Region.wanted, hg], fun w s => by unfold Oper.quietAt; rw [hv n a w ha s]; exact ⟨rfl, rfl⟩⟩) hdst hd hl h
theorem Aq.stG {i d j t : Nat} {v : Value} {b c : Bool} (x : Nx ops R listed i o) (hg : o.guard = some (j, b)) (hj : (ops[j]?).bind (·.dst) = some t) (ht : Env.get env t = some (.bool c)) (hc : c = b) (hv : Ev P F env hs o v) (hdst : o.dst = some d) (hd : Nat.blt d n = true) (hl : listed.setIfInBounds i true = listed')
    (h : Aq P n F k ops g R f listed' ((d, v) :: env) hs) : Aq P n F k ops g R (f + 1) listed env hs :=
  Aq.step x (fun a ha => .inl ⟨by rw [wanted_of ha hg hj ht]; simpa using hc, fun w s => by unfold Oper.quietAt; rw [hv n a w ha s]; exact ⟨rfl, rfl⟩⟩) hdst hd hl h
theorem Aq.skipG {i d j t : Nat} {b c : Bool} (x : Nx ops R listed i o) (hg : o.guard = some (j, b)) (hj : (ops[j]?).bind (·.dst) = some t) (ht : Env.get env t = some (.bool c)) (hc : c = !b) (hdst : o.dst = some d) (hd : Nat.blt d n = true) (hl : listed.setIfInBounds i true = listed')
    (h : Aq P n F k ops g R f listed' ((d, undef) :: env) hs) : Aq P n F k ops g R (f + 1) listed env hs :=
  Aq.step x (fun a ha => .inr ⟨by rw [wanted_of ha hg hj ht]; cases b <;> simp_all, rfl⟩) hdst hd hl h
theorem Aq.skipU {i d j t : Nat} {b : Bool} (x : Nx ops R listed i o) (hg : o.guard = some (j, b)) (hj : (ops[j]?).bind (·.dst) = some t) (ht : Env.get env t = some undef) (hdst : o.dst = some d) (hd : Nat.blt d n = true) (hl : listed.setIfInBounds i true = listed')
    (h : Aq P n F k ops g R f listed' ((d, undef) :: env) hs) : Aq P n F k ops g R (f + 1) listed env hs :=
  Aq.step x (fun a ha => .inr ⟨wanted_undef ha hg hj ht, rfl⟩) hdst hd hl h
theorem Aq.call {i d : Nat} {dst : Option Tmp} {ty : TypeId} {pos : String} {after : Array Edge} {gd : Option (Nat × Bool)} {fv : Operand} {fn : FuncId} {first cap : Array Value} {args : Array Operand} {ats : Array TypeId} {vs as : List Value} {pre rest : List SP} {v : Value}
    (x : Nx ops R listed i ⟨dst, .call { callee := .value fv, args := args, argTypes := ats }, ty, pos, after, gd⟩)
    (hb : HasBody P fn) (hf : ev env fv = some (.func (.func fn) first cap)) (hargs : evs env args.toList = some vs) (has : first.toList ++ vs ++ cap.toList = as)
    (hk : Takes pre hs rest) (spec : ∀ F', Wider F rest F' → Spec P F' fn as pre (fun u hs' => u = v ∧ Ent (hs' ++ rest) hs)) (hg : gd = none) (hdst : dst = some d) (hd : Nat.blt d n = true) (hl : listed.setIfInBounds i true = listed')
    (h : Aq P n F k ops g R f listed' ((d, v) :: env) hs) : Aq P n F k ops g R (f + 1) listed env hs :=
  Aq.step x (fun a ha => .inl ⟨by simp [Region.wanted, hg], fun w s => by
    unfold Oper.quietAt
    rw [call_run ha hb hf hargs w, has]
    refine ⟨rfl, (calls_of_spec hk spec s).mono fun e w' ⟨u, hs', he, ⟨hu, hE⟩, hs2⟩ => ?_⟩
    subst hu
    exact ⟨he, hs2.ent hE⟩⟩) hdst hd hl h
theorem Aq.callG {i d j t : Nat} {b c : Bool} {dst : Option Tmp} {ty : TypeId} {pos : String} {after : Array Edge} {gd : Option (Nat × Bool)} {fv : Operand} {fn : FuncId} {first cap : Array Value} {args : Array Operand} {ats : Array TypeId} {vs as : List Value} {pre rest : List SP} {v : Value}
    (x : Nx ops R listed i ⟨dst, .call { callee := .value fv, args := args, argTypes := ats }, ty, pos, after, gd⟩)
    (hg : gd = some (j, b)) (hj : (ops[j]?).bind (·.dst) = some t) (ht : Env.get env t = some (.bool c)) (hc : c = b)
    (hb : HasBody P fn) (hf : ev env fv = some (.func (.func fn) first cap)) (hargs : evs env args.toList = some vs) (has : first.toList ++ vs ++ cap.toList = as)
    (hk : Takes pre hs rest) (spec : ∀ F', Wider F rest F' → Spec P F' fn as pre (fun u hs' => u = v ∧ Ent (hs' ++ rest) hs)) (hdst : dst = some d) (hd : Nat.blt d n = true) (hl : listed.setIfInBounds i true = listed')
    (h : Aq P n F k ops g R f listed' ((d, v) :: env) hs) : Aq P n F k ops g R (f + 1) listed env hs :=
  Aq.step x (fun a ha => .inl ⟨by rw [wanted_of ha hg hj ht]; simpa using hc, fun w s => by
    unfold Oper.quietAt
    rw [call_run ha hb hf hargs w, has]
    refine ⟨rfl, (calls_of_spec hk spec s).mono fun e w' ⟨u, hs', he, ⟨hu, hE⟩, hs2⟩ => ?_⟩
    subst hu
    exact ⟨he, hs2.ent hE⟩⟩) hdst hd hl h
theorem As.splitB {fuel : Nat} {t : Nat} {c : Bool} (_ht : Env.get env t = some (.bool c)) (h1 : c = true → As P n F k ops fuel listed env hs) (h2 : c = false → As P n F k ops fuel listed env hs) : As P n F k ops fuel listed env hs := by cases c; exact h2 rfl; exact h1 rfl
theorem As.splitD {fuel : Nat} {t : Nat} {p : Prop} [Decidable p] (_ht : Env.get env t = some (.bool (decide p))) (h1 : p → As P n F k ops fuel listed env hs) (h2 : ¬ p → As P n F k ops fuel listed env hs) : As P n F k ops fuel listed env hs := (Decidable.em p).elim h1 h2
/-- What hangs on no memory is taken first: with a guard that says yes, or no. -/
theorem As.takeG {fuel : Nat} (i : Nat) {d j t : Nat} {v : Value} {b c : Bool} (hi : ops[i]? = some o) (hs' : Region.noSelect ops = true) (hf : Region.free .any ops listed i = true) (hr : (Region.ready .any ops listed).contains i = true)
    (hg : o.guard = some (j, b)) (hj : (ops[j]?).bind (·.dst) = some t) (ht : Env.get env t = some (.bool c)) (hc : c = b) (hdst : o.dst = some d) (hd : Nat.blt d n = true) (hv : ∀ F hs, Ev P F env hs o v) (hl : listed.setIfInBounds i true = listed')
    (h : As P n F k ops fuel listed' ((d, v) :: env) hs) : As P n F k ops (fuel + 1) listed env hs := fun a w s => by
  refine wpAny_take hi hs' hf hr (fun c a w => Kont.panic k) (.inl ⟨by rw [wanted_of s.ag hg hj ht]; simpa using hc, fun w' => hv (World.fr w') [] n a w' s.ag (Sat.start w')⟩) ?_
  rw [hl]
  exact h _ w ⟨s.ag.putS v hdst hd, s.sat⟩
theorem As.takeN {fuel : Nat} (i : Nat) {d j t : Nat} {b c : Bool} (hi : ops[i]? = some o) (hs' : Region.noSelect ops = true) (hf : Region.free .any ops listed i = true) (hr : (Region.ready .any ops listed).contains i = true)
    (hg : o.guard = some (j, b)) (hj : (ops[j]?).bind (·.dst) = some t) (ht : Env.get env t = some (.bool c)) (hc : c = !b) (hdst : o.dst = some d) (hd : Nat.blt d n = true) (hl : listed.setIfInBounds i true = listed')
    (h : As P n F k ops fuel listed' ((d, undef) :: env) hs) : As P n F k ops (fuel + 1) listed env hs := fun a w s => by
  refine wpAny_take hi hs' hf hr (fun c a w => Kont.panic k) (.inr ⟨by rw [wanted_of s.ag hg hj ht]; cases b <;> simp_all, rfl⟩) ?_
  rw [hl]
  exact h _ w ⟨s.ag.putS undef hdst hd, s.sat⟩
theorem As.takeU {fuel : Nat} (i : Nat) {d j t : Nat} {b : Bool} (hi : ops[i]? = some o) (hs' : Region.noSelect ops = true) (hf : Region.free .any ops listed i = true) (hr : (Region.ready .any ops listed).contains i = true)
    (hg : o.guard = some (j, b)) (hj : (ops[j]?).bind (·.dst) = some t) (ht : Env.get env t = some undef) (hdst : o.dst = some d) (hd : Nat.blt d n = true) (hl : listed.setIfInBounds i true = listed')
    (h : As P n F k ops fuel listed' ((d, undef) :: env) hs) : As P n F k ops (fuel + 1) listed env hs := fun a w s => by
  refine wpAny_take hi hs' hf hr (fun c a w => Kont.panic k) (.inr ⟨wanted_undef s.ag hg hj ht, rfl⟩) ?_
  rw [hl]
  exact h _ w ⟨s.ag.putS undef hdst hd, s.sat⟩
theorem wpOp_ofG {i : Nat} {a : Act} {j t : Nat} {b c : Bool} (ha : Agree n env a) (hi : ops[i]? = some o) (hg : o.guard = some (j, b)) (hj : (ops[j]?).bind (·.dst) = some t) (ht : Env.get env t = some (.bool c)) (hc : c = b) {Q : Exit → Act → World → Prop} {K : Act → World → Prop} {w : World} (h : o.wp P a w K Q) : wpOp P ops Q i K a w := by
  unfold wpOp
  simp only [hi]
  rw [if_pos (by rw [wanted_of ha hg hj ht]; simpa using hc)]
  exact .inl h
theorem Ao.stG {fuel i d j t : Nat} {v : Value} {b c : Bool} (hi : ops[i]? = some o) (hg : o.guard = some (j, b)) (hj : (ops[j]?).bind (·.dst) = some t) (ht : Env.get env t = some (.bool c)) (hc : c = b) (h : Ev P F env hs o v) (hdst : o.dst = some d) (hd : Nat.blt d n = true) (hl : listed.setIfInBounds i true = listed')
    (hk : As P n F k ops fuel listed' ((d, v) :: env) hs) : Ao P n F k ops fuel listed i env hs := fun a w s => by
  refine wpOp_ofG s.ag hi hg hj ht hc ?_
  unfold Oper.wp
  rw [h n a w s.ag s.sat, hl]
  exact hk _ _ ⟨s.ag.putS v hdst hd, s.sat⟩
theorem Ao.efG {fuel i d j t : Nat} {b c : Bool} {R : Value → List SP → Prop} (hi : ops[i]? = some o) (hg : o.guard = some (j, b)) (hj : (ops[j]?).bind (·.dst) = some t) (ht : Env.get env t = some (.bool c)) (hc : c = b) (h : Ef P F env hs o R) (hdst : o.dst = some d) (hd : Nat.blt d n = true) (hl : listed.setIfInBounds i true = listed')
    (hk : ∀ v hs', R v hs' → As P n F k ops fuel listed' ((d, v) :: env) hs') : Ao P n F k ops fuel listed i env hs := fun a w s => by
  refine wpOp_ofG s.ag hi hg hj ht hc ?_
  unfold Oper.wp
  obtain ⟨v, w', hs', hr, hR, hS⟩ := h n a w s.ag s.sat
  rcases hr with hr | ⟨hr, rfl⟩
  · rw [hr, hl]; exact hk _ _ hR _ _ ⟨s.ag.putS v hdst hd, hS⟩
  · rw [hr, hl]; exact hk _ _ hR _ _ ⟨s.ag.putS undef hdst hd, hS⟩
theorem Ao.callG {fuel i d j t : Nat} {b c : Bool} {dst : Option Tmp} {ty : TypeId} {pos : String} {after : Array Edge} {gd : Option (Nat × Bool)} {fv : Operand} {fn : FuncId} {first cap : Array Value} {args : Array Operand} {ats : Array TypeId} {vs as : List Value} {pre rest : List SP} {post : Value → List SP → Prop}
    (hi : ops[i]? = some ⟨dst, .call { callee := .value fv, args := args, argTypes := ats }, ty, pos, after, gd⟩) (hg : gd = some (j, b)) (hj : (ops[j]?).bind (·.dst) = some t) (ht : Env.get env t = some (.bool c)) (hc : c = b)
    (hb : HasBody P fn) (hf : ev env fv = some (.func (.func fn) first cap)) (hargs : evs env args.toList = some vs) (has : first.toList ++ vs ++ cap.toList = as)
    (hk : Takes pre hs rest) (spec : ∀ F', Wider F rest F' → Spec P F' fn as pre post) (hdst : dst = some d) (hd : Nat.blt d n = true) (hl : listed.setIfInBounds i true = listed')
    (hK : ∀ v hs', post v hs' → As P n F k ops fuel listed' ((d, v) :: env) (hs' ++ rest)) : Ao P n F k ops fuel listed i env hs := fun a w s => by
  refine wpOp_ofG s.ag hi hg hj ht hc ?_
  unfold Oper.wp
  rw [call_run s.ag hb hf hargs w, has, hl]
  refine (calls_of_spec hk spec s.sat).mono fun e w' ⟨v, hs', he, hp, hs⟩ => ?_
  subst he
  exact hK v hs' hp _ _ ⟨s.ag.putS v hdst hd, hs⟩
end
end Go.Proofs.Ytjlimnckdblkhaa
