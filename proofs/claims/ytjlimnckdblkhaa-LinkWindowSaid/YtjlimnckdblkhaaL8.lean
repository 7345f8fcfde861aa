/- Regions whose order is open: those that only read, and those that read and then act in turn. No condition. -/
import Derived.Test.YtjlimnckdblkhaaL7
import Derived.Deep.Quiet
import Derived.StillTail
namespace Go.Proofs.Ytjlimnckdblkhaa
open Go

section
variable {P : Program} {n : Nat} {F : Fr} {k : Kont} {env : Env} {hs : List SP} {ops : Array Oper} {l : List Oper} {o : Oper}

theorem Ops.splitB {t : Nat} {c : Bool} (_ht : Env.get env t = some (.bool c)) (h1 : c = true → Ops P n F k ops l env hs) (h2 : c = false → Ops P n F k ops l env hs) : Ops P n F k ops l env hs := by cases c; exact h2 rfl; exact h1 rfl
theorem Ops.splitD {t : Nat} {p : Prop} [Decidable p] (_ht : Env.get env t = some (.bool (decide p))) (h1 : p → Ops P n F k ops l env hs) (h2 : ¬ p → Ops P n F k ops l env hs) : Ops P n F k ops l env hs := (Decidable.em p).elim h1 h2

/-- A region that only reads, in its text's order. -/
def Qs (P : Program) (n : Nat) (F : Fr) (k : Kont) (ops : Array Oper) (l : List Oper) (env : Env) (hs : List SP) : Prop :=
  ∀ a, Agree n env a → wpQuiet P ops (Sat F hs) (fun a' => ∀ w', Sat F hs w' → k.Q P .normal a' w') l a

theorem Cod.regionQ {id : Nat} {l : List Oper} (hm : P.follows .mixedOrders = true) (hB : Region.lexB .any l.toArray = true) (h : Qs P n F k l.toArray l env hs) : Cod P n F k (.region id l.toArray true) env hs :=
  fun a _ s => wp_region_quiet (C := Sat F hs) hm hB s.sat.drew (by simpa using h a s.ag)
theorem Qs.nil (h : Ext P n F k .normal env hs) : Qs P n F k ops [] env hs := fun a ha => wpQuiet_nil fun w' s => h a w' ⟨ha, s⟩
theorem Qs.splitB {t : Nat} {c : Bool} (_ht : Env.get env t = some (.bool c)) (h1 : c = true → Qs P n F k ops l env hs) (h2 : c = false → Qs P n F k ops l env hs) : Qs P n F k ops l env hs := by cases c; exact h2 rfl; exact h1 rfl
theorem Qs.splitD {t : Nat} {p : Prop} [Decidable p] (_ht : Env.get env t = some (.bool (decide p))) (h1 : p → Qs P n F k ops l env hs) (h2 : ¬ p → Qs P n F k ops l env hs) : Qs P n F k ops l env hs := (Decidable.em p).elim h1 h2
theorem Qs.st {v : Value} (h : Ev P F env hs o v) (hg : o.guard = none) {d : Nat} (hdst : o.dst = some d) (hd : Nat.blt d n = true) (hk : Qs P n F k ops l ((d, v) :: env) hs) : Qs P n F k ops (o :: l) env hs := by
  intro a ha
  refine wpQuiet_step fun K hK => ?_
  rw [if_pos (by simp [Region.wanted, hg])]
  exact ⟨v, fun w s => by unfold Oper.quietAt; rw [h n a w ha s]; exact ⟨rfl, rfl⟩, hK _ (hk _ (ha.putS v hdst hd))⟩
theorem Qs.stG {v : Value} {j t : Nat} {b c : Bool} (hg : o.guard = some (j, b)) (hj : (ops[j]?).bind (·.dst) = some t) (ht : Env.get env t = some (.bool c)) (hc : c = b)
    (h : Ev P F env hs o v) {d : Nat} (hdst : o.dst = some d) (hd : Nat.blt d n = true) (hk : Qs P n F k ops l ((d, v) :: env) hs) : Qs P n F k ops (o :: l) env hs := by
  intro a ha
  refine wpQuiet_step fun K hK => ?_
  rw [if_pos (by rw [wanted_of ha hg hj ht]; simpa using hc)]
  exact ⟨v, fun w s => by unfold Oper.quietAt; rw [h n a w ha s]; exact ⟨rfl, rfl⟩, hK _ (hk _ (ha.putS v hdst hd))⟩
theorem Qs.skipG {j t : Nat} {b c : Bool} (hg : o.guard = some (j, b)) (hj : (ops[j]?).bind (·.dst) = some t) (ht : Env.get env t = some (.bool c)) (hc : c = !b)
    {d : Nat} (hdst : o.dst = some d) (hd : Nat.blt d n = true) (hk : Qs P n F k ops l ((d, undef) :: env) hs) : Qs P n F k ops (o :: l) env hs := by
  intro a ha
  refine wpQuiet_step fun K hK => ?_
  rw [if_neg (by rw [wanted_of ha hg hj ht]; cases b <;> simp_all)]
  exact hK _ (hk _ (ha.putS undef hdst hd))
theorem Qs.skipU {j t : Nat} {b : Bool} (hg : o.guard = some (j, b)) (hj : (ops[j]?).bind (·.dst) = some t) (ht : Env.get env t = some undef)
    {d : Nat} (hdst : o.dst = some d) (hd : Nat.blt d n = true) (hk : Qs P n F k ops l ((d, undef) :: env) hs) : Qs P n F k ops (o :: l) env hs := by
  intro a ha
  refine wpQuiet_step fun K hK => ?_
  rw [if_neg (by rw [wanted_undef ha hg hj ht]; simp)]
  exact hK _ (hk _ (ha.putS undef hdst hd))
/-- A call that hands back one value and leaves its pieces as they were. -/
theorem Qs.call {dst : Option Tmp} {ty : TypeId} {pos : String} {after : Array Edge} {g : Option (Nat × Bool)} {fv : Operand} {f : FuncId} {first cap : Array Value} {args : Array Operand} {ats : Array TypeId} {vs as : List Value} {pre rest : List SP} {v : Value}
    (hb : HasBody P f) (hf : ev env fv = some (.func (.func f) first cap)) (hargs : evs env args.toList = some vs) (has : first.toList ++ vs ++ cap.toList = as)
    (hk : Takes pre hs rest) (spec : ∀ F', Wider F rest F' → Spec P F' f as pre (fun u hs' => u = v ∧ Ent (hs' ++ rest) hs)) (hg : g = none) {d : Nat} (hdst : dst = some d) (hd : Nat.blt d n = true)
    (hK : Qs P n F k ops l ((d, v) :: env) hs) :
    Qs P n F k ops (⟨dst, .call { callee := .value fv, args := args, argTypes := ats }, ty, pos, after, g⟩ :: l) env hs := by
  intro a ha
  refine wpQuiet_step fun K hK' => ?_
  rw [if_pos (by simp [Region.wanted, hg])]
  refine ⟨v, fun w s => ?_, hK' _ (hK _ (ha.putS v hdst hd))⟩
  unfold Oper.quietAt
  rw [call_run ha hb hf hargs w, has]
  refine ⟨rfl, (calls_of_spec hk spec s).mono fun e w' ⟨u, hs', he, ⟨hu, hE⟩, hs2⟩ => ?_⟩
  subst hu
  exact ⟨he, hs2.ent hE⟩

/-- The first operations of a region that read, then the others in turn. -/
def Ss (P : Program) (n : Nat) (F : Fr) (ops : Array Oper) (Q : Env → Prop) (l : List Oper) (env : Env) (hs : List SP) : Prop :=
  ∀ a w, St n F env hs a w → wpStill P ops w (fun a' => ∃ env', Agree n env' a' ∧ Q env') l a
theorem Ss.nil {Q : Env → Prop} (h : Q env) : Ss P n F ops Q [] env hs := fun _ _ s => wpStill_nil ⟨env, s.ag, h⟩
theorem Ss.splitB {Q : Env → Prop} {t : Nat} {c : Bool} (_ht : Env.get env t = some (.bool c)) (h1 : c = true → Ss P n F ops Q l env hs) (h2 : c = false → Ss P n F ops Q l env hs) : Ss P n F ops Q l env hs := by cases c; exact h2 rfl; exact h1 rfl
theorem Ss.splitD {Q : Env → Prop} {t : Nat} {p : Prop} [Decidable p] (_ht : Env.get env t = some (.bool (decide p))) (h1 : p → Ss P n F ops Q l env hs) (h2 : ¬ p → Ss P n F ops Q l env hs) : Ss P n F ops Q l env hs := (Decidable.em p).elim h1 h2
theorem Ss.st {Q : Env → Prop} {v : Value} (h : Ev P F env hs o v) (hg : o.guard = none) {d : Nat} (hdst : o.dst = some d) (hd : Nat.blt d n = true) (hk : Ss P n F ops Q l ((d, v) :: env) hs) : Ss P n F ops Q (o :: l) env hs := by
  intro a w s
  refine wpStill_step fun K hK => ?_
  rw [if_pos (by simp [Region.wanted, hg])]
  unfold Oper.still
  rw [h n a w s.ag s.sat]
  exact ⟨rfl, hK _ (hk _ _ ⟨s.ag.putS v hdst hd, s.sat⟩)⟩
theorem Ss.stG {Q : Env → Prop} {v : Value} {j t : Nat} {b c : Bool} (hg : o.guard = some (j, b)) (hj : (ops[j]?).bind (·.dst) = some t) (ht : Env.get env t = some (.bool c)) (hc : c = b)
    (h : Ev P F env hs o v) {d : Nat} (hdst : o.dst = some d) (hd : Nat.blt d n = true) (hk : Ss P n F ops Q l ((d, v) :: env) hs) : Ss P n F ops Q (o :: l) env hs := by
  intro a w s
  refine wpStill_step fun K hK => ?_
  rw [if_pos (by rw [wanted_of s.ag hg hj ht]; simpa using hc)]
  unfold Oper.still
  rw [h n a w s.ag s.sat]
  exact ⟨rfl, hK _ (hk _ _ ⟨s.ag.putS v hdst hd, s.sat⟩)⟩
theorem Ss.skipG {Q : Env → Prop} {j t : Nat} {b c : Bool} (hg : o.guard = some (j, b)) (hj : (ops[j]?).bind (·.dst) = some t) (ht : Env.get env t = some (.bool c)) (hc : c = !b)
    {d : Nat} (hdst : o.dst = some d) (hd : Nat.blt d n = true) (hk : Ss P n F ops Q l ((d, undef) :: env) hs) : Ss P n F ops Q (o :: l) env hs := by
  intro a w s
  refine wpStill_step fun K hK => ?_
  rw [if_neg (by rw [wanted_of s.ag hg hj ht]; cases b <;> simp_all)]
  exact hK _ (hk _ _ ⟨s.ag.putS undef hdst hd, s.sat⟩)

theorem Ss.skipU {Q : Env → Prop} {j t : Nat} {b : Bool} (hg : o.guard = some (j, b)) (hj : (ops[j]?).bind (·.dst) = some t) (ht : Env.get env t = some undef)
    {d : Nat} (hdst : o.dst = some d) (hd : Nat.blt d n = true) (hk : Ss P n F ops Q l ((d, undef) :: env) hs) : Ss P n F ops Q (o :: l) env hs := by
  intro a w s
  refine wpStill_step fun K hK => ?_
  rw [if_neg (by rw [wanted_undef s.ag hg hj ht]; simp)]
  exact hK _ (hk _ _ ⟨s.ag.putS undef hdst hd, s.sat⟩)
theorem wpStill_mono {ops : Array Oper} {w : World} {Q Q' : Act → Prop} (h : ∀ a, Q a → Q' a) : ∀ (l : List Oper) (a : Act), wpStill P ops w Q l a → wpStill P ops w Q' l a
  | [], a, hh => h a hh
  | o :: rest, a, hh => by
    unfold wpStill at hh ⊢
    split
    · rename_i hw
      rw [if_pos hw] at hh
      unfold Oper.still at hh ⊢
      generalize (execOp a.eval o).run P w = res at hh ⊢
      cases res with
      | ok nx w' =>
        cases nx <;> simp only [Oper.stillUpon] at hh ⊢ <;>
          first
            | exact ⟨hh.1, wpStill_mono h rest _ hh.2⟩
            | (obtain ⟨h1, v, h2, h3⟩ := hh; exact ⟨h1, v, h2, wpStill_mono h rest _ h3⟩)
      | halt x w' => exact hh
    · rename_i hw
      rw [if_neg hw] at hh
      exact wpStill_mono h rest _ hh

theorem Cod.regionT {id : Nat} {l : List Oper} (m : Nat) (hm : P.follows .mixedOrders = true) (hB : Region.lexTailB .any l.toArray m = true)
    (h : Ss P n F l.toArray (fun env' => Ops P n F k l.toArray (l.drop m) env' hs) (l.take m) env hs) : Cod P n F k (.region id l.toArray true) env hs := fun a w s => by
  refine wp_region_still_tail m hm hB ?_
  have s' : St n F env hs a { w with drawn := w.drawn + 1 } := ⟨s.ag, s.sat.drew⟩
  exact wpStill_mono (fun a' ⟨env', ha, hq⟩ => hq _ _ ⟨ha, s'.sat⟩) _ _ (h _ _ s')
end
end Go.Proofs.Ytjlimnckdblkhaa
