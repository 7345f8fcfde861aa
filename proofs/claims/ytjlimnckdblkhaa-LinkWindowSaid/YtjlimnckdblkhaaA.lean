/- The packets and what hangs on a peer: the small functions of the link. No condition. -/
import Derived.Test.YtjlimnckdblkhaaT
import Derived.Test.YtjlimnckdblkhaaLE
namespace Go.Proofs.Ytjlimnckdblkhaa
open Go

def ints (l : List Int) : List Value := l.map (Value.int .i64)
theorem ints_len (l : List Int) : (ints l).length = l.length := by simp [ints]
theorem ints_get {l : List Int} {i : Nat} {x : Int} (h : l[i]? = some x) : (ints l)[i]? = some (.int .i64 x) := by simp [ints, h]
/-- Is that no number of a packet? -/
def odd (n : Int) : Bool := decide (n < 0) || decide (n > 1073741824)
theorem odd_lo {n : Int} (h : n < 0) : odd n = true := by simp [odd, h]
theorem odd_hi {n : Int} (h : ¬ n < 0) : odd n = decide (n > 1073741824) := by simp [odd, h]

theorem odd_step {xs : List Int} {g : Nat} {x : Int} (hno : ∀ j x, j < g → xs[j]? = some x → odd x = false) (hx : xs[g]? = some x) (ho : odd x = false) : ∀ j y, j < g + 1 → xs[j]? = some y → odd y = false := fun j y hj hy => by
  rcases Nat.lt_succ_iff_lt_or_eq.1 hj with h | h
  · exact hno j y h hy
  · subst h; rw [hx] at hy; cases hy; exact ho
theorem odd_end {xs : List Int} {g : Nat} (hno : ∀ j x, j < g → xs[j]? = some x → odd x = false) (hg : xs.length ≤ g) : xs.any odd = false := List.any_eq_false.2 fun y hy => by
  obtain ⟨j, hj⟩ := List.mem_iff_getElem?.1 hy
  have := (List.getElem?_eq_some_iff.1 hj).1
  simp [hno j y (by omega) hj]

theorem odd_any {F : Fr} {x : Int} : Spec Try.prog F 30 [.int .i64 x] [] (fun v hs' => v = .bool (odd x) ∧ hs' = []) := by
  refine Spec.body Try.func30 rfl Try.ntmps30 rfl ?_
  refine Cod.seq ?_
  refine Cod.region ?_
  refine Ops.st (.assign rfl) rfl rfl rfl ?_
  refine Ops.nil ?_
  refine Ext.seq ?_
  refine Cod.seq ?_
  refine Cod.region ?_
  refine Ops.st (.move rfl) rfl rfl rfl ?_
  refine Ops.st (.lss rfl rfl) rfl rfl rfl ?_
  refine Ops.st (.move rfl) rfl rfl rfl ?_
  refine Ops.splitD (t := 5) rfl (fun h => ?_) (fun h => ?_)
  ·
    refine Ops.skipG rfl rfl rfl (decide_eq_true h) rfl rfl ?_
    refine Ops.skipG rfl rfl rfl (decide_eq_true h) rfl rfl ?_
    refine Ops.st (.pickT rfl (decide_eq_true h) rfl) rfl rfl rfl ?_
    refine Ops.st (.assign rfl) rfl rfl rfl ?_
    refine Ops.nil ?_
    refine Ext.seq ?_
    exact Cod.ret (Ext.ret rfl rfl ⟨by simp [odd, h], rfl⟩)
  ·
    refine Ops.stG rfl rfl rfl (decide_eq_false h) (.move rfl) rfl rfl ?_
    refine Ops.stG rfl rfl rfl (decide_eq_false h) (.gtr rfl rfl) rfl rfl ?_
    refine Ops.st (.pickF rfl (decide_eq_false h) rfl) rfl rfl rfl ?_
    refine Ops.st (.assign rfl) rfl rfl rfl ?_
    refine Ops.nil ?_
    refine Ext.seq ?_
    exact Cod.ret (Ext.ret rfl rfl ⟨by simp [odd, h], rfl⟩)

theorem index_any {F : Fr} {v : Value} {xs : List Int} (hr : SlR F.hf v 1 xs.length (ints xs)) :
    Spec Try.prog F 40 [v, .func (.func 30) #[] #[]] [] (fun u hs' => ∃ i : Int, u = .int .i64 i ∧ (decide (i ≥ 0) = xs.any odd) ∧ hs' = []) := by
  have hsm := hr.small
  refine Spec.body Try.func40 rfl Try.ntmps40 rfl ?_
  refine Cod.seq ?_
  refine Cod.region ?_
  refine Ops.st (.assign rfl) rfl rfl rfl ?_
  refine Ops.nil ?_
  refine Ext.seq ?_
  refine Cod.seq ?_
  refine Cod.seq ?_
  refine Cod.region ?_
  refine Ops.st (.move rfl) rfl rfl rfl ?_
  refine Ops.st (.len rfl (by first | assumption | exact Rd.vec (by repeat first | exact TakeP.here _ | apply TakeP.there) | exact Rd.ro (by assumption)) Try.runUnderlying76) rfl rfl rfl ?_
  refine Ops.st (.move rfl) rfl rfl rfl ?_
  refine Ops.nil ?_
  refine Ext.seq ?_
  refine Cod.block ?_
  refine Cod.loop (fun g : Nat => ⟨g ≤ xs.length ∧ (∀ j x, j < g → xs[j]? = some x → odd x = false), [(0, v), (1, .func (.func 30) #[] #[]), (7, .int .i64 xs.length), (8, .int .i64 g)], []⟩) (fun g => xs.length - g) 0 ⟨Nat.zero_le _, fun j x hj => absurd hj (Nat.not_lt_zero j)⟩ ⟨rfl, rfl, rfl, rfl, trivial⟩ (Ent.nil _) ?_
  rintro g ⟨hi, hno⟩
  dsimp only
  refine Cod.seq ?_
  refine Cod.region ?_
  refine Ops.st (.lss rfl rfl) rfl rfl rfl ?_
  refine Ops.nil ?_
  refine Ext.seq ?_
  refine Cod.seq ?_
  refine Cod.condD rfl (fun hlt => ?_) (fun hlt => ?_)
  ·
    refine Cod.skip ?_
    refine Ext.seq ?_
    refine Cod.seq ?_
    refine Cod.block ?_
    refine Cod.seq ?_
    refine Cod.region ?_
    obtain ⟨x, hx⟩ : ∃ x, xs[g]? = some x := ⟨xs[g]'(by omega), List.getElem?_eq_getElem (by omega)⟩
    refine Ops.st (.move rfl) rfl rfl rfl ?_
    refine Ops.st (.assign rfl) rfl rfl rfl ?_
    refine Ops.nil ?_
    refine Ext.seq ?_
    refine Cod.seq ?_
    refine Cod.region ?_
    refine Ops.st (.move rfl) rfl rfl rfl ?_
    refine Ops.st (.move rfl) rfl rfl rfl ?_
    refine Ops.st (.move rfl) rfl rfl rfl ?_
    refine Ops.st (.indexAddr rfl rfl (by first | assumption | exact Rd.vec (by repeat first | exact TakeP.here _ | apply TakeP.there) | exact Rd.ro (by assumption)) Try.runUnderlying76 Try.sizeOf3 rfl (by omega) rfl) rfl rfl rfl ?_
    refine Ops.st (.load_elem rfl (by first | assumption | exact Rd.vec (by repeat first | exact TakeP.here _ | apply TakeP.there) | exact Rd.ro (by assumption)) Try.isAgg3 (by rw [Nat.mul_one]; exact ints_get hx)) rfl rfl rfl ?_
    refine Ops.call ⟨Try.call30⟩ rfl rfl rfl (by repeat' first | exact Takes.nil _ | exact TakeP.here _ | apply TakeP.there | apply Takes.cons) (fun F' hF => odd_any) rfl rfl rfl ?_
    rintro _ _ ⟨rfl, rfl⟩
    refine Ops.nil ?_
    refine Ext.seq ?_
    refine Cod.cond rfl (fun ho => ?_) (fun ho => ?_)
    ·
      refine Cod.seq ?_
      refine Cod.region ?_
      refine Ops.st (.move rfl) rfl rfl rfl ?_
      refine Ops.st (.assign rfl) rfl rfl rfl ?_
      refine Ops.nil ?_
      refine Ext.seq ?_
      exact Cod.ret (Ext.blockR (Ext.seqR (Ext.stopR (Ext.blockR (Ext.seqR (Ext.ret rfl rfl ⟨_, rfl, by rw [(List.any_eq_true.2 ⟨x, List.mem_of_getElem? hx, ho⟩ : xs.any odd = true)]; simp, rfl⟩))))))
    ·
      refine Cod.skip ?_
      refine Ext.block ?_
      refine Ext.seq ?_
      refine Cod.region ?_
      refine Ops.st (.add rfl rfl (by first | exact IntWalk.i64_in _ (by omega) | rfl)) rfl rfl rfl ?_
      refine Ops.st (.move rfl) rfl rfl rfl ?_
      refine Ops.nil ?_
      exact Ext.back (g + 1) (by omega) ⟨by omega, odd_step hno hx ho⟩ ⟨rfl, rfl, rfl, rfl, trivial⟩ (Ent.take (by repeat' first | exact Takes.nil _ | exact TakeP.here _ | apply TakeP.there | apply Takes.cons))
  ·
    refine Cod.exit (Ext.seqX (Ext.stopX (Ext.hit ?_)))
    refine Ext.seq ?_
    refine Cod.seq ?_
    refine Cod.region ?_
    refine Ops.st (.assign rfl) rfl rfl rfl ?_
    refine Ops.nil ?_
    refine Ext.seq ?_
    exact Cod.ret (Ext.ret rfl rfl ⟨_, rfl, by rw [odd_end hno (by omega)]; rfl, rfl⟩)

theorem contains_any {F : Fr} {v : Value} {xs : List Int} (hr : SlR F.hf v 1 xs.length (ints xs)) :
    Spec Try.prog F 31 [v, .func (.func 30) #[] #[]] [] (fun u hs' => u = .bool (xs.any odd) ∧ hs' = []) := by
  refine Spec.body Try.func31 rfl Try.ntmps31 rfl ?_
  refine Cod.seq ?_
  refine Cod.region ?_
  refine Ops.st (.assign rfl) rfl rfl rfl ?_
  refine Ops.nil ?_
  refine Ext.seq ?_
  refine Cod.seq ?_
  refine Cod.region ?_
  refine Ops.st (.move rfl) rfl rfl rfl ?_
  refine Ops.st (.move rfl) rfl rfl rfl ?_
  refine Ops.call ⟨Try.call40⟩ rfl rfl rfl (by repeat' first | exact Takes.nil _ | exact TakeP.here _ | apply TakeP.there | apply Takes.cons) (fun F' hF => index_any (hr.mono hF.hf)) rfl rfl rfl ?_
  rintro _ _ ⟨i, rfl, hi, rfl⟩
  refine Ops.st (.geq rfl rfl) rfl rfl rfl ?_
  refine Ops.st (.assign rfl) rfl rfl rfl ?_
  refine Ops.nil ?_
  refine Ext.seq ?_
  exact Cod.ret (Ext.ret rfl rfl ⟨by rw [← hi], rfl⟩)

/-- May a packet be? -/
def rightB (k fr to seq ack : Int) (n : Nat) : Bool :=
  if k < 1 ∨ k > 3 ∨ fr < 1 ∨ odd fr = true ∨ odd to = true ∨ odd seq = true ∨ odd ack = true ∨ n > 1500 then false
  else if k ≠ 3 then decide (seq + ack + n = 0) else decide (seq > 0) || decide (n = 0)
abbrev packC (k fr to seq ack : Int) (bv : Value) : List Value := [.int .i64 k, .int .i64 fr, .int .i64 to, .int .i64 seq, .int .i64 ack, bv]
theorem any4 {a b c d : Int} : [a, b, c, d].any odd = (odd a || (odd b || (odd c || odd d))) := by simp

theorem rightB_odd {k fr to seq ack : Int} {n : Nat} (h : [fr, to, seq, ack].any odd = true) : rightB k fr to seq ack n = false := by
  rw [any4] at h
  simp only [Bool.or_eq_true] at h
  unfold rightB
  rw [if_pos]
  rcases h with h | h | h | h <;> simp [h]

theorem right_any {F : Fr} {k fr to seq ack : Int} {bv : Value} {n : Nat} {bs : List Value} (hr : SlR F.hf bv 1 n bs) :
    Spec Try.prog F 12 [.agg (packC k fr to seq ack bv).toArray] [] (fun v hs' => v = .bool (rightB k fr to seq ack n) ∧ hs' = []) := by
  refine Spec.body Try.func12 rfl Try.ntmps12 rfl ?_
  refine Cod.seq ?_
  refine Cod.region ?_
  refine Ops.ef (.box rfl rfl) rfl rfl rfl ?_
  rintro _ _ ⟨b, rfl, rfl⟩
  refine Ops.st (.assign rfl) rfl rfl rfl ?_
  refine Ops.nil ?_
  refine Ext.seq ?_
  refine Cod.seq ?_
  refine Cod.region ?_
  refine Ops.st (.assign rfl) rfl rfl rfl ?_
  refine Ops.nil ?_
  refine Ext.seq ?_
  refine Cod.seq ?_
  refine Cod.seq ?_
  refine Cod.region ?_
  refine Ops.st (.fieldAddr rfl fa24_0) rfl rfl rfl ?_
  refine Ops.st (.loadP rfl (by repeat first | exact TakeP.here _ | apply TakeP.there) Try.isAgg3 rfl) rfl rfl rfl ?_
  refine Ops.st (.lss rfl rfl) rfl rfl rfl ?_
  refine Ops.st (.move rfl) rfl rfl rfl ?_
  refine Ops.splitD (t := 7) rfl (fun h0 => ?_) (fun h0 => ?_)
  ·
    refine Ops.skipG rfl rfl rfl (decide_eq_true h0) rfl rfl ?_
    refine Ops.skipG rfl rfl rfl (decide_eq_true h0) rfl rfl ?_
    refine Ops.skipG rfl rfl rfl (decide_eq_true h0) rfl rfl ?_
    refine Ops.st (.pickT rfl (decide_eq_true h0) rfl) rfl rfl rfl ?_
    refine Ops.st (.move rfl) rfl rfl rfl ?_
    refine Ops.skipG rfl rfl rfl (by simp) rfl rfl ?_
    refine Ops.skipG rfl rfl rfl (by simp) rfl rfl ?_
    refine Ops.skipG rfl rfl rfl (by simp) rfl rfl ?_
    refine Ops.st (.pickT rfl (by simp) rfl) rfl rfl rfl ?_
    refine Ops.st (.move rfl) rfl rfl rfl ?_
    refine Ops.skipG rfl rfl rfl (by simp) rfl rfl ?_
    refine Ops.skipG rfl rfl rfl (by simp) rfl rfl ?_
    refine Ops.skipG rfl rfl rfl (by simp) rfl rfl ?_
    refine Ops.skipG rfl rfl rfl (by simp) rfl rfl ?_
    refine Ops.skipG rfl rfl rfl (by simp) rfl rfl ?_
    refine Ops.skipG rfl rfl rfl (by simp) rfl rfl ?_
    refine Ops.skipG rfl rfl rfl (by simp) rfl rfl ?_
    refine Ops.skipG rfl rfl rfl (by simp) rfl rfl ?_
    refine Ops.skipG rfl rfl rfl (by simp) rfl rfl ?_
    refine Ops.skipG rfl rfl rfl (by simp) rfl rfl ?_
    refine Ops.skipG rfl rfl rfl (by simp) rfl rfl ?_
    refine Ops.st (.pickT rfl (by simp) rfl) rfl rfl rfl ?_
    refine Ops.st (.move rfl) rfl rfl rfl ?_
    refine Ops.skipG rfl rfl rfl (by simp) rfl rfl ?_
    refine Ops.skipG rfl rfl rfl (by simp) rfl rfl ?_
    refine Ops.skipG rfl rfl rfl (by simp) rfl rfl ?_
    refine Ops.skipG rfl rfl rfl (by simp) rfl rfl ?_
    refine Ops.st (.pickT rfl (by simp) rfl) rfl rfl rfl ?_
    refine Ops.nil ?_
    refine Ext.seq ?_
    refine Cod.condT rfl (by simp) ?_
    refine Cod.seq ?_
    refine Cod.region ?_
    refine Ops.st (.assign rfl) rfl rfl rfl ?_
    refine Ops.nil ?_
    refine Ext.seq ?_
    exact Cod.ret (Ext.seqR (Ext.retE rfl rfl (Ent.nil _) (⟨by simp [rightB, h0], rfl⟩)))
  ·
    refine Ops.stG rfl rfl rfl (decide_eq_false h0) (.fieldAddr rfl fa24_0) rfl rfl ?_
    refine Ops.stG rfl rfl rfl (decide_eq_false h0) (.loadP rfl (by repeat first | exact TakeP.here _ | apply TakeP.there) Try.isAgg3 rfl) rfl rfl ?_
    refine Ops.stG rfl rfl rfl (decide_eq_false h0) (.gtr rfl rfl) rfl rfl ?_
    refine Ops.st (.pickF rfl (decide_eq_false h0) rfl) rfl rfl rfl ?_
    refine Ops.st (.move rfl) rfl rfl rfl ?_
    refine Ops.splitD (t := 12) rfl (fun h1 => ?_) (fun h1 => ?_)
    ·
      refine Ops.skipG rfl rfl rfl (decide_eq_true h1) rfl rfl ?_
      refine Ops.skipG rfl rfl rfl (decide_eq_true h1) rfl rfl ?_
      refine Ops.skipG rfl rfl rfl (decide_eq_true h1) rfl rfl ?_
      refine Ops.st (.pickT rfl (decide_eq_true h1) rfl) rfl rfl rfl ?_
      refine Ops.st (.move rfl) rfl rfl rfl ?_
      refine Ops.skipG rfl rfl rfl (by simp) rfl rfl ?_
      refine Ops.skipG rfl rfl rfl (by simp) rfl rfl ?_
      refine Ops.skipG rfl rfl rfl (by simp) rfl rfl ?_
      refine Ops.skipG rfl rfl rfl (by simp) rfl rfl ?_
      refine Ops.skipG rfl rfl rfl (by simp) rfl rfl ?_
      refine Ops.skipG rfl rfl rfl (by simp) rfl rfl ?_
      refine Ops.skipG rfl rfl rfl (by simp) rfl rfl ?_
      refine Ops.skipG rfl rfl rfl (by simp) rfl rfl ?_
      refine Ops.skipG rfl rfl rfl (by simp) rfl rfl ?_
      refine Ops.skipG rfl rfl rfl (by simp) rfl rfl ?_
      refine Ops.skipG rfl rfl rfl (by simp) rfl rfl ?_
      refine Ops.st (.pickT rfl (by simp) rfl) rfl rfl rfl ?_
      refine Ops.st (.move rfl) rfl rfl rfl ?_
      refine Ops.skipG rfl rfl rfl (by simp) rfl rfl ?_
      refine Ops.skipG rfl rfl rfl (by simp) rfl rfl ?_
      refine Ops.skipG rfl rfl rfl (by simp) rfl rfl ?_
      refine Ops.skipG rfl rfl rfl (by simp) rfl rfl ?_
      refine Ops.st (.pickT rfl (by simp) rfl) rfl rfl rfl ?_
      refine Ops.nil ?_
      refine Ext.seq ?_
      refine Cod.condT rfl (by simp) ?_
      refine Cod.seq ?_
      refine Cod.region ?_
      refine Ops.st (.assign rfl) rfl rfl rfl ?_
      refine Ops.nil ?_
      refine Ext.seq ?_
      exact Cod.ret (Ext.seqR (Ext.retE rfl rfl (Ent.nil _) (⟨by simp [rightB, h0, h1], rfl⟩)))
    ·
      refine Ops.stG rfl rfl rfl (decide_eq_false h1) (.fieldAddr rfl fa24_1) rfl rfl ?_
      refine Ops.stG rfl rfl rfl (decide_eq_false h1) (.loadP rfl (by repeat first | exact TakeP.here _ | apply TakeP.there) Try.isAgg3 rfl) rfl rfl ?_
      refine Ops.stG rfl rfl rfl (decide_eq_false h1) (.lss rfl rfl) rfl rfl ?_
      refine Ops.st (.pickF rfl (decide_eq_false h1) rfl) rfl rfl rfl ?_
      refine Ops.st (.move rfl) rfl rfl rfl ?_
      refine Ops.splitD (t := 17) rfl (fun h2 => ?_) (fun h2 => ?_)
      ·
        refine Ops.skipG rfl rfl rfl (decide_eq_true h2) rfl rfl ?_
        refine Ops.skipG rfl rfl rfl (decide_eq_true h2) rfl rfl ?_
        refine Ops.skipG rfl rfl rfl (decide_eq_true h2) rfl rfl ?_
        refine Ops.skipG rfl rfl rfl (decide_eq_true h2) rfl rfl ?_
        refine Ops.skipG rfl rfl rfl (decide_eq_true h2) rfl rfl ?_
        refine Ops.skipG rfl rfl rfl (decide_eq_true h2) rfl rfl ?_
        refine Ops.skipG rfl rfl rfl (decide_eq_true h2) rfl rfl ?_
        refine Ops.skipG rfl rfl rfl (decide_eq_true h2) rfl rfl ?_
        refine Ops.skipG rfl rfl rfl (decide_eq_true h2) rfl rfl ?_
        refine Ops.skipG rfl rfl rfl (decide_eq_true h2) rfl rfl ?_
        refine Ops.skipG rfl rfl rfl (decide_eq_true h2) rfl rfl ?_
        refine Ops.st (.pickT rfl (decide_eq_true h2) rfl) rfl rfl rfl ?_
        refine Ops.st (.move rfl) rfl rfl rfl ?_
        refine Ops.skipG rfl rfl rfl (by simp) rfl rfl ?_
        refine Ops.skipG rfl rfl rfl (by simp) rfl rfl ?_
        refine Ops.skipG rfl rfl rfl (by simp) rfl rfl ?_
        refine Ops.skipG rfl rfl rfl (by simp) rfl rfl ?_
        refine Ops.st (.pickT rfl (by simp) rfl) rfl rfl rfl ?_
        refine Ops.nil ?_
        refine Ext.seq ?_
        refine Cod.condT rfl (by simp) ?_
        refine Cod.seq ?_
        refine Cod.region ?_
        refine Ops.st (.assign rfl) rfl rfl rfl ?_
        refine Ops.nil ?_
        refine Ext.seq ?_
        exact Cod.ret (Ext.seqR (Ext.retE rfl rfl (Ent.nil _) (⟨by simp [rightB, h0, h1, h2], rfl⟩)))
      ·
        refine Ops.stG rfl rfl rfl (decide_eq_false h2) (.fieldAddr rfl fa24_1) rfl rfl ?_
        refine Ops.stG rfl rfl rfl (decide_eq_false h2) (.loadP rfl (by repeat first | exact TakeP.here _ | apply TakeP.there) Try.isAgg3 rfl) rfl rfl ?_
        refine Ops.stG rfl rfl rfl (decide_eq_false h2) (.fieldAddr rfl fa24_2) rfl rfl ?_
        refine Ops.stG rfl rfl rfl (decide_eq_false h2) (.loadP rfl (by repeat first | exact TakeP.here _ | apply TakeP.there) Try.isAgg3 rfl) rfl rfl ?_
        refine Ops.stG rfl rfl rfl (decide_eq_false h2) (.fieldAddr rfl fa24_3) rfl rfl ?_
        refine Ops.stG rfl rfl rfl (decide_eq_false h2) (.loadP rfl (by repeat first | exact TakeP.here _ | apply TakeP.there) Try.isAgg3 rfl) rfl rfl ?_
        refine Ops.stG rfl rfl rfl (decide_eq_false h2) (.fieldAddr rfl fa24_4) rfl rfl ?_
        refine Ops.stG rfl rfl rfl (decide_eq_false h2) (.loadP rfl (by repeat first | exact TakeP.here _ | apply TakeP.there) Try.isAgg3 rfl) rfl rfl ?_
        refine Ops.efG rfl rfl rfl (decide_eq_false h2) (.lit1 ei76 rfl rfl rfl (by repeat' first | exact One.nil | apply One.cons rfl | (apply One.cons (Sl.one (by assumption))))) rfl rfl ?_
        rintro lv _ ⟨hlv, rfl⟩
        refine Ops.stG rfl rfl rfl (decide_eq_false h2) (.move rfl) rfl rfl ?_
        refine Ops.callG rfl rfl rfl (decide_eq_false h2) ⟨Try.call31⟩ rfl rfl rfl (by repeat' first | exact Takes.nil _ | exact TakeP.here _ | apply TakeP.there | apply Takes.cons) (fun F' hF => contains_any (xs := [fr, to, seq, ack]) ((Rd.vec (xs := ints [fr, to, seq, ack]) (by repeat first | exact TakeP.here _ | apply TakeP.there)).wider hF)) rfl rfl ?_
        rintro _ _ ⟨rfl, rfl⟩
        refine Ops.st (.pickF rfl (decide_eq_false h2) rfl) rfl rfl rfl ?_
        refine Ops.st (.move rfl) rfl rfl rfl ?_
        refine Ops.splitB (t := 30) rfl (fun h3 => ?_) (fun h3 => ?_)
        ·
          refine Ops.skipG rfl rfl rfl h3 rfl rfl ?_
          refine Ops.skipG rfl rfl rfl h3 rfl rfl ?_
          refine Ops.skipG rfl rfl rfl h3 rfl rfl ?_
          refine Ops.skipG rfl rfl rfl h3 rfl rfl ?_
          refine Ops.st (.pickT rfl h3 rfl) rfl rfl rfl ?_
          refine Ops.nil ?_
          refine Ext.seq ?_
          refine Cod.condT rfl (by simp) ?_
          refine Cod.seq ?_
          refine Cod.region ?_
          refine Ops.st (.assign rfl) rfl rfl rfl ?_
          refine Ops.nil ?_
          refine Ext.seq ?_
          exact Cod.ret (Ext.seqR (Ext.retE rfl rfl (Ent.nil _) (⟨by rw [rightB_odd h3], rfl⟩)))
        ·
          refine Ops.stG rfl rfl rfl h3 (.fieldAddr rfl fa24_5) rfl rfl ?_
          refine Ops.stG rfl rfl rfl h3 (.loadP rfl (by repeat first | exact TakeP.here _ | apply TakeP.there) Try.isAgg22 rfl) rfl rfl ?_
          refine Ops.stG rfl rfl rfl h3 (.len rfl (by first | assumption | exact Rd.vec (by repeat first | exact TakeP.here _ | apply TakeP.there) | exact Rd.ro (by assumption)) Try.runUnderlying22) rfl rfl ?_
          refine Ops.stG rfl rfl rfl h3 (.gtr rfl rfl) rfl rfl ?_
          refine Ops.st (.pickF rfl h3 rfl) rfl rfl rfl ?_
          refine Ops.nil ?_
          refine Ext.seq ?_
          refine Cod.condD rfl (fun h4 => ?_) (fun h4 => ?_)
          ·
            refine Cod.seq ?_
            refine Cod.region ?_
            refine Ops.st (.assign rfl) rfl rfl rfl ?_
            refine Ops.nil ?_
            refine Ext.seq ?_
            exact Cod.ret (Ext.seqR (Ext.retE rfl rfl (Ent.nil _) (⟨by unfold rightB; rw [if_pos (by omega)], rfl⟩)))
          ·
            refine Cod.skip ?_
            refine Ext.seq ?_
            refine Cod.seq ?_
            refine Cod.seq ?_
            refine Cod.region ?_
            obtain ⟨o1, o2, o3, o4⟩ : odd fr = false ∧ odd to = false ∧ odd seq = false ∧ odd ack = false := by simpa [any4] using h3
            have hn : ¬ (k < 1 ∨ k > 3 ∨ fr < 1 ∨ odd fr = true ∨ odd to = true ∨ odd seq = true ∨ odd ack = true ∨ n > 1500) := by simp [o1, o2, o3, o4]; omega
            have hb : 0 ≤ seq ∧ seq ≤ 1073741824 ∧ 0 ≤ ack ∧ ack ≤ 1073741824 := by simp [odd] at o3 o4; omega
            refine Ops.st (.fieldAddr rfl fa24_0) rfl rfl rfl ?_
            refine Ops.st (.loadP rfl (by repeat first | exact TakeP.here _ | apply TakeP.there) Try.isAgg3 rfl) rfl rfl rfl ?_
            refine Ops.st (.neq rfl rfl) rfl rfl rfl ?_
            refine Ops.nil ?_
            refine Ext.seq ?_
            refine Cod.condD rfl (fun h5 => ?_) (fun h5 => ?_)
            ·
              refine Cod.seq ?_
              refine Cod.region ?_
              refine Ops.st (.fieldAddr rfl fa24_3) rfl rfl rfl ?_
              refine Ops.st (.loadP rfl (by repeat first | exact TakeP.here _ | apply TakeP.there) Try.isAgg3 rfl) rfl rfl rfl ?_
              refine Ops.st (.fieldAddr rfl fa24_4) rfl rfl rfl ?_
              refine Ops.st (.loadP rfl (by repeat first | exact TakeP.here _ | apply TakeP.there) Try.isAgg3 rfl) rfl rfl rfl ?_
              refine Ops.st (.add rfl rfl (by first | exact IntWalk.i64_in _ (by omega) | rfl)) rfl rfl rfl ?_
              refine Ops.st (.fieldAddr rfl fa24_5) rfl rfl rfl ?_
              refine Ops.st (.loadP rfl (by repeat first | exact TakeP.here _ | apply TakeP.there) Try.isAgg22 rfl) rfl rfl rfl ?_
              refine Ops.st (.len rfl (by first | assumption | exact Rd.vec (by repeat first | exact TakeP.here _ | apply TakeP.there) | exact Rd.ro (by assumption)) Try.runUnderlying22) rfl rfl rfl ?_
              refine Ops.st (.add rfl rfl (by first | exact IntWalk.i64_in _ (by omega) | rfl)) rfl rfl rfl ?_
              refine Ops.st (.eql rfl rfl) rfl rfl rfl ?_
              refine Ops.st (.assign rfl) rfl rfl rfl ?_
              refine Ops.nil ?_
              refine Ext.seq ?_
              exact Cod.ret (Ext.seqR (Ext.retE rfl rfl (Ent.nil _) (⟨by unfold rightB; rw [if_neg hn, if_pos h5], rfl⟩)))
            ·
              refine Cod.skip ?_
              refine Ext.seq ?_
              refine Cod.seq ?_
              refine Cod.region ?_
              refine Ops.st (.fieldAddr rfl fa24_3) rfl rfl rfl ?_
              refine Ops.st (.loadP rfl (by repeat first | exact TakeP.here _ | apply TakeP.there) Try.isAgg3 rfl) rfl rfl rfl ?_
              refine Ops.st (.gtr rfl rfl) rfl rfl rfl ?_
              refine Ops.st (.move rfl) rfl rfl rfl ?_
              refine Ops.splitD (t := 52) rfl (fun h6 => ?_) (fun h6 => ?_)
              ·
                refine Ops.skipG rfl rfl rfl (decide_eq_true h6) rfl rfl ?_
                refine Ops.skipG rfl rfl rfl (decide_eq_true h6) rfl rfl ?_
                refine Ops.skipG rfl rfl rfl (decide_eq_true h6) rfl rfl ?_
                refine Ops.skipG rfl rfl rfl (decide_eq_true h6) rfl rfl ?_
                refine Ops.st (.pickT rfl (decide_eq_true h6) rfl) rfl rfl rfl ?_
                refine Ops.st (.assign rfl) rfl rfl rfl ?_
                refine Ops.nil ?_
                refine Ext.seq ?_
                exact Cod.ret (Ext.retE rfl rfl (Ent.nil _) (⟨by unfold rightB; rw [if_neg hn, if_neg h5]; simp [h6], rfl⟩))
              ·
                refine Ops.stG rfl rfl rfl (decide_eq_false h6) (.fieldAddr rfl fa24_5) rfl rfl ?_
                refine Ops.stG rfl rfl rfl (decide_eq_false h6) (.loadP rfl (by repeat first | exact TakeP.here _ | apply TakeP.there) Try.isAgg22 rfl) rfl rfl ?_
                refine Ops.stG rfl rfl rfl (decide_eq_false h6) (.len rfl (by first | assumption | exact Rd.vec (by repeat first | exact TakeP.here _ | apply TakeP.there) | exact Rd.ro (by assumption)) Try.runUnderlying22) rfl rfl ?_
                refine Ops.stG rfl rfl rfl (decide_eq_false h6) (.eql rfl rfl) rfl rfl ?_
                refine Ops.st (.pickF rfl (decide_eq_false h6) rfl) rfl rfl rfl ?_
                refine Ops.st (.assign rfl) rfl rfl rfl ?_
                refine Ops.nil ?_
                refine Ext.seq ?_
                exact Cod.ret (Ext.retE rfl rfl (Ent.nil _) (⟨by unfold rightB; rw [if_neg hn, if_neg h5]; simp [h6], rfl⟩))
end Go.Proofs.Ytjlimnckdblkhaa
