/- Regions whose order is open: reads that all else waits for are taken in the text's order. No condition. -/
import Derived.StillTail
import Derived.Test.YtjlimnckdblkhaaLG
namespace Go.Proofs.Ytjlimnckdblkhaa
open Go

section
variable {P : Program} {ops : Array Oper} {md : Region.Mode} {w : World}

/-- The operations below m that wait for i, be it through others. -/
def reachTo (md : Region.Mode) (ops : Array Oper) (i : Nat) : Nat → List Nat
  | 0 => []
  | m + 1 => let r := reachTo md ops i m; if Region.waitsFor md ops m i || r.any (fun q => Region.waitsFor md ops m q) then m :: r else r
def Closed (md : Region.Mode) (ops : Array Oper) (listed : Array Bool) : Prop := ∀ j oj, ops[j]? = some oj → listed.getD j false = true → ∀ e ∈ oj.after, Region.binds md e = true → listed.getD e.on false = true

theorem reach_un {listed : Array Bool} (hc : Closed md ops listed) {i : Nat} (hi : listed.getD i false = false) : ∀ m j, j ∈ reachTo md ops i m → listed.getD j false = false ∧ j ∉ Region.ready md ops listed
  | 0, j, h => by cases h
  | m + 1, j, h => by
    have key : ∀ q, listed.getD q false = false → Region.waitsFor md ops m q = true → listed.getD m false = false ∧ m ∉ Region.ready md ops listed := fun q hq hw => by
      obtain ⟨oj, hoj, e, he, hb, hon⟩ := Region.waitsFor_spec hw
      refine ⟨?_, fun hr => ?_⟩
      · cases hl : listed.getD m false with
        | false => rfl
        | true =>
          have := hc m oj hoj hl e he hb
          rw [hon, hq] at this
          cases this
      · obtain ⟨_, o', ho', hall⟩ := mem_ready.1 hr
        have : o' = oj := Option.some.inj (ho'.symm.trans hoj)
        subst this
        have := hall e he hb
        rw [hon, hq] at this
        cases this
    simp only [reachTo] at h
    split at h
    · rename_i hh
      rcases List.mem_cons.1 h with rfl | h
      · simp only [Bool.or_eq_true, List.any_eq_true] at hh
        rcases hh with hw | ⟨q, hq, hw⟩
        · exact key i hi hw
        · exact key q (reach_un hc hi _ q hq).1 hw
      · exact reach_un hc hi m j h
    · exact reach_un hc hi m j h

theorem Closed.set {listed : Array Bool} (inv : Closed md ops listed) {i : Nat} (hi : i ∈ Region.ready md ops listed) : Closed md ops (listed.setIfInBounds i true) := by
  obtain ⟨_, oi, hoi, hall⟩ := mem_ready.1 hi
  intro j oj hj hl e he hb
  by_cases hij : i = j
  · subst hij
    have : oj = oi := Option.some.inj (hj.symm.trans hoi)
    subst this
    exact getD_set_true (hall e he hb)
  · rw [getD_set_ne false hij] at hl
    exact getD_set_true (inv j oj hj hl e he hb)

/-- The reads R come up, in whatever order; L behind them. -/
def wpAnyR (P : Program) (md : Region.Mode) (ops : Array Oper) (w : World) (R : List Nat) (L : Array Bool → Act → Prop) : Nat → Array Bool → Act → Prop
  | 0, listed, a => (∀ j ∈ Region.ready md ops listed, j ∉ R) ∧ L listed a
  | f + 1, listed, a => Region.ready md ops listed ≠ [] ∧ ∀ i ∈ Region.ready md ops listed, stOp P ops w i (wpAnyR P md ops w R L f (listed.setIfInBounds i true)) a

theorem wpAny_of_R {g : Nat} {R : List Nat} {L : Array Bool → Act → Prop} {Q' : Exit → Act → World → Prop} (hL : ∀ listed a, L listed a → wpAny P md ops Q' g listed a w) :
    ∀ (f : Nat) (listed : Array Bool) (a : Act), wpAnyR P md ops w R L f listed a → wpAny P md ops Q' (f + g) listed a w
  | 0, listed, a, h => by rw [Nat.zero_add]; exact hL _ _ h.2
  | f + 1, listed, a, h => by
    rw [show f + 1 + g = (f + g) + 1 by omega]
    exact ⟨fun h0 => absurd h0 h.1, fun i hi => wpOp_of_stOp (fun a' h' => wpAny_of_R hL f _ a' h') (h.2 i hi)⟩

theorem wpAnyR_first {i : Nat} {oi : Oper} {v : Value} {R : List Nat} {L : Array Bool → Act → Prop} (hi : ops[i]? = some oi) (hsel : ∀ (j : Nat) (o : Oper) cs b, ops[j]? = some o → o.op ≠ .select cs b) :
    ∀ (f : Nat) (listed : Array Bool) (a : Act), Closed md ops listed → (∀ j, j < ops.size → j ∉ R → listed.getD j true = false → j ∈ reachTo md ops i ops.size) →
      (∀ j oj, ops[j]? = some oj → j ≠ i → listed.getD j true = false → (∀ e ∈ oj.after, Region.binds md e = true → e.on ≠ i) → oi.apart ops oj = true) →
      i ∈ Region.ready md ops listed → YieldsAt P ops w oi v a →
      wpAnyR P md ops w R L f (listed.setIfInBounds i true) (a.put oi.dst v) → wpAnyR P md ops w R L (f + 1) listed a := by
  have inR : ∀ (listed : Array Bool), Closed md ops listed → (∀ j, j < ops.size → j ∉ R → listed.getD j true = false → j ∈ reachTo md ops i ops.size) → i ∈ Region.ready md ops listed → ∀ j ∈ Region.ready md ops listed, j ∈ R := fun listed hc hd hr j hj => by
    obtain ⟨hun, oj, hoj, _⟩ := mem_ready.1 hj
    by_cases hR : j ∈ R
    · exact hR
    · exact absurd hj (reach_un hc (getD_both (mem_ready.1 hr).1) _ j (hd j (Array.getElem?_eq_some_iff.1 hoj).1 hR hun)).2
  intro f
  induction f with
  | zero =>
    intro listed a hc hd _ hr hy H
    refine ⟨fun h => (by rw [h] at hr; cases hr), fun j hj => ?_⟩
    by_cases hji : j = i
    · subst hji; exact hy.stOp hi H
    · exact absurd (inR listed hc hd hr j hj) (H.1 j (ready_mono hj hji))
  | succ f ih =>
    intro listed a hc hd hfree hr hy H
    have hun := (mem_ready.1 hr).1
    refine ⟨fun h => (by rw [h] at hr; cases hr), fun j hj => ?_⟩
    by_cases hji : j = i
    · subst hji; exact hy.stOp hi H
    · have h1 := H.2 j (ready_mono hj hji)
      obtain ⟨hjun, oj, hoj, hall⟩ := mem_ready.1 hj
      have hnot : ∀ e ∈ oj.after, Region.binds md e = true → e.on ≠ i := fun e he hb heq => by
        have h1 := hall e he hb
        rw [heq, getD_both hun] at h1
        cases h1
      have h2 := stOp_put hoj (hfree j oj hoj hji hjun hnot) (fun cs b => hsel i oi cs b hi) (fun cs b => hsel j oj cs b hoj) hy h1
      have back : ∀ k, (listed.setIfInBounds j true).getD k true = false → listed.getD k true = false := fun k hun => by
        by_cases hjk : j = k
        · subst hjk; exact hjun
        · rw [getD_set_ne true hjk] at hun; exact hun
      refine stOp_mono (fun a' h3 => ih (listed.setIfInBounds j true) a' (hc.set hj) (fun k hk hR hu => hd k hk hR (back k hu)) (fun k ok hk hki hu hno => hfree k ok hk hki (back k hu) hno) (ready_mono hr (Ne.symm hji)) h3.1 ?_) h2
      rw [Array.setIfInBounds_comm _ _ hji]
      exact h3.2

def closedB (ops : Array Oper) (listed : Array Bool) : Bool := (List.range ops.size).all fun j => !listed.getD j false || match ops[j]? with
  | some oj => oj.after.all fun e => !Region.binds .any e || listed.getD e.on false
  | none => true
theorem closedB_spec {listed : Array Bool} (h : closedB ops listed = true) : Closed .any ops listed := by
  intro j oj hj hl e he hb
  have h1 := List.all_eq_true.1 h j (List.mem_range.2 (Array.getElem?_eq_some_iff.1 hj).1)
  simp only [hl, Bool.not_true, Bool.false_or, hj] at h1
  have h2 := Array.all_eq_true'.1 h1 e he
  simpa [hb] using h2
def besideB (ops : Array Oper) (R : List Nat) (listed : Array Bool) (i : Nat) : Bool := (List.range ops.size).all fun j => R.contains j || listed.getD j true || (reachTo .any ops i ops.size).contains j
theorem besideB_spec {R : List Nat} {listed : Array Bool} {i : Nat} (h : besideB ops R listed i = true) : ∀ j, j < ops.size → j ∉ R → listed.getD j true = false → j ∈ reachTo .any ops i ops.size := by
  intro j hj hR hl
  have h1 := List.all_eq_true.1 h j (List.mem_range.2 hj)
  simpa [hR, hl] using h1

variable {n : Nat} {F : Fr} {k : Kont} {env : Env} {hs : List SP} {o : Oper} {f g : Nat} {R : List Nat} {listed listed' : Array Bool}
/-- The reads R are under way, f of them are left. -/
def Ar (P : Program) (n : Nat) (F : Fr) (k : Kont) (ops : Array Oper) (g : Nat) (R : List Nat) (f : Nat) (listed : Array Bool) (env : Env) (hs : List SP) : Prop :=
  ∀ a w, St n F env hs a w → wpAnyR P .any ops w R (fun listed a => wpAny P .any ops (k.Q P) g listed a w) f listed a
theorem As.reads (R : List Nat) (f g : Nat) {fuel : Nat} (hf : f + g = fuel) (h : Ar P n F k ops g R f listed env hs) : As P n F k ops fuel listed env hs := fun a w s => by
  subst hf
  exact wpAny_of_R (fun _ _ h => h) f listed a (h a w s)
theorem Ar.done (hB : ((Region.ready .any ops listed).all fun j => !R.contains j) = true) (h : As P n F k ops g listed env hs) : Ar P n F k ops g R 0 listed env hs := fun a w s =>
  ⟨fun j hj hR => by
    have h1 := List.all_eq_true.1 hB j hj
    simp [hR] at h1, h a w s⟩
theorem Ar.st (i : Nat) {d : Nat} {v : Value} (hi : ops[i]? = some o) (hs' : Region.noSelect ops = true) (hc : closedB ops listed = true) (hb : besideB ops R listed i = true) (hf : Region.free .any ops listed i = true)
    (hr : (Region.ready .any ops listed).contains i = true) (hg : o.guard = none) (hdst : o.dst = some d) (hd : Nat.blt d n = true) (hv : Ev P F env hs o v) (hl : listed.setIfInBounds i true = listed')
    (h : Ar P n F k ops g R f listed' ((d, v) :: env) hs) : Ar P n F k ops g R (f + 1) listed env hs := fun a w s => by
  refine wpAnyR_first hi (fun j oj cs b hj => Region.noSelect_spec hs' j oj cs b hj) f listed a (closedB_spec hc) (besideB_spec hb) (Region.free_spec hi hf) (by simpa using hr) (v := v) (.inl ⟨by simp [Region.wanted, hg], .inl (hv n a w s.ag s.sat)⟩) ?_
  rw [hl]
  exact h _ w ⟨s.ag.putS v hdst hd, s.sat⟩
end
end Go.Proofs.Ytjlimnckdblkhaa
