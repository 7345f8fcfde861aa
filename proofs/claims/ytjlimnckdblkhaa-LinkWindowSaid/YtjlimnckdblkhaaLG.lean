/- Ice: memory that is not written any more: it is read by all, grows, and is handed on whole. No condition. -/
import Derived.Test.YtjlimnckdblkhaaLE
namespace Go.Proofs.Ytjlimnckdblkhaa
open Go

/-- Memory that is never written again. -/
def ice (h : Hp) : SP := fun x => x = h

section
variable {P : Program} {n : Nat} {F F' : Fr} {k : Kont} {env : Env} {hs r r' : List SP} {ops : Array Oper} {l : List Oper} {v : Value} {T : TypeId} {sz m : Nat} {xs : List Value} {h0 h1 : Hp}

theorem Ent.ice0 : Ent hs (ice Hp.nil :: hs) := fun x hx => ⟨Hp.nil, x, Hp.dj_nil x, (Hp.nil_un x).symm, rfl, hx⟩
theorem Rd.ice (hk : TakeP (ice h0) hs r) (h : SlR h0 v sz m xs) : Rd F hs v sz m xs := fun _ _ s => by
  obtain ⟨z, hz, hl⟩ := SL_head hk s
  cases hz
  exact h.mono hl
/-- A piece that holds what z says of its memory goes to the ice. -/
theorem ice_open {A : SP} {φ : Hp → Prop} (hA : ∀ z, A z → φ z) : ∀ z, SL [A, ice h0] z → ∃ x, (Hp.le h0 x ∧ ∃ y, φ y ∧ Hp.le y x) ∧ SL [ice x] z := fun z hz => by
  obtain ⟨a, b, hd, rfl, ha, c, d, hd2, rfl, hc, _⟩ := hz
  cases hc
  have hle : Hp.le h0 (Hp.un h0 d) := Hp.le_un_left _ _
  refine ⟨Hp.un a (Hp.un h0 d), ⟨fun i o hi => Hp.le_un_right hd i o (hle i o hi), a, hA a ha, Hp.le_un_left _ _⟩, Hp.un a (Hp.un h0 d), Hp.nil, (Hp.dj_nil _).symm, ?_, rfl, trivial⟩
  rw [Hp.un_comm (Hp.dj_nil _).symm, Hp.nil_un]
theorem Ops.freeze (hk : Takes [vec v T sz m xs, ice h0] hs r) (hh : ∀ h1, Hp.le h0 h1 → SlR h1 v sz m xs → Ops P n F k ops l env (ice h1 :: r)) : Ops P n F k ops l env hs :=
  Ops.ent (Ent.fold hk fun _ z => z) (Ops.open_ (.here _) (ice_open (φ := fun y => SlR y v sz m xs) fun _ z => vec.slR z) fun x ⟨h1, y, hy, hl⟩ => hh x h1 (hy.mono hl))

/-- Read from the ice, or from what stands beside. -/
def Ro (F : Fr) (h : Hp) (v : Value) (sz n : Nat) (xs : List Value) : Prop := SlR h v sz n xs ∨ SlR F.hf v sz n xs
theorem Ro.rd (h : Ro F h0 v sz m xs) (hk : TakeP (ice h0) hs r) : Rd F hs v sz m xs := h.elim (Rd.ice hk) Rd.ro
theorem Ro.mono (h : Ro F h0 v sz m xs) (hh : Hp.le h0 h1) (hF : Hp.le F.hf F'.hf) : Ro F' h1 v sz m xs := h.elim (fun x => .inl (x.mono hh)) (fun x => .inr (x.mono hF))
end
theorem Hp.le_rfl (h : Hp) : Hp.le h h := fun _ _ x => x
theorem Hp.le_tr {a b c : Hp} (h : Hp.le a b) (h' : Hp.le b c) : Hp.le a c := fun i o x => h' i o (h i o x)
end Go.Proofs.Ytjlimnckdblkhaa
