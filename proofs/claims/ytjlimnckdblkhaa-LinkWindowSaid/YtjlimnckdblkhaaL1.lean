/- Heaplets: a world's heap parted into owned pieces and the rest; what an assertion over pieces says; states that keep the rest. No condition. -/
import Derived.WalkKit
namespace Go.Proofs.Ytjlimnckdblkhaa
open Go

/-- A piece of a heap. -/
abbrev Hp := Nat → Option Obj
def Hp.dj (h1 h2 : Hp) : Prop := ∀ k, h1 k = none ∨ h2 k = none
def Hp.un (h1 h2 : Hp) : Hp := fun k => (h1 k).or (h2 k)
abbrev SP := Hp → Prop

theorem Hp.dj.symm {a b : Hp} (h : Hp.dj a b) : Hp.dj b a := fun k => (h k).symm
theorem Hp.un_comm {a b : Hp} (h : Hp.dj a b) : Hp.un a b = Hp.un b a := by
  funext k; unfold Hp.un; rcases h k with h | h <;> simp [h]
theorem Hp.un_assoc (a b c : Hp) : Hp.un (Hp.un a b) c = Hp.un a (Hp.un b c) := by
  funext k; unfold Hp.un; cases a k <;> simp
theorem Hp.dj_un_left {a b c : Hp} : Hp.dj (Hp.un a b) c ↔ Hp.dj a c ∧ Hp.dj b c := by
  constructor
  · intro h
    refine ⟨fun k => ?_, fun k => ?_⟩ <;> rcases h k with h | h <;> simp_all [Hp.un]
  · intro ⟨h1, h2⟩ k
    rcases h1 k with h | h <;> rcases h2 k with h' | h' <;> simp_all [Hp.un]
theorem Hp.dj_un_right {a b c : Hp} : Hp.dj a (Hp.un b c) ↔ Hp.dj a b ∧ Hp.dj a c := by
  constructor
  · intro h
    have := Hp.dj_un_left.1 h.symm
    exact ⟨this.1.symm, this.2.symm⟩
  · intro ⟨h1, h2⟩
    exact (Hp.dj_un_left.2 ⟨h1.symm, h2.symm⟩).symm
theorem Hp.un_of_left {a b : Hp} {k : Nat} {o : Obj} (h : a k = some o) : Hp.un a b k = some o := by simp [Hp.un, h]
theorem Hp.un_of_right {a b : Hp} {k : Nat} {o : Obj} (hd : Hp.dj a b) (h : b k = some o) : Hp.un a b k = some o := by
  rcases hd k with h' | h'
  · simp [Hp.un, h', h]
  · rw [h] at h'; cases h'
def Hp.nil : Hp := fun _ => none
theorem Hp.dj_nil (a : Hp) : Hp.dj Hp.nil a := fun _ => .inl rfl
theorem Hp.nil_un (a : Hp) : Hp.un Hp.nil a = a := by funext k; simp [Hp.un, Hp.nil]
theorem Hp.un_nil (a : Hp) : Hp.un a Hp.nil = a := by funext k; simp [Hp.un, Hp.nil]
def Hp.one (b : Nat) (o : Obj) : Hp := fun k => if k = b then some o else none
theorem Hp.one_self (b : Nat) (o : Obj) : Hp.one b o b = some o := by simp [Hp.one]
theorem Hp.one_ne {b k : Nat} (o : Obj) (h : k ≠ b) : Hp.one b o k = none := by simp [Hp.one, h]
/-- The part of a heap that another one has. -/
def Hp.le (a b : Hp) : Prop := ∀ k o, a k = some o → b k = some o
theorem Hp.le_refl (a : Hp) : Hp.le a a := fun _ _ h => h
theorem Hp.le_trans {a b c : Hp} (h : Hp.le a b) (h' : Hp.le b c) : Hp.le a c := fun k o x => h' k o (h k o x)
theorem Hp.le_un_left (a b : Hp) : Hp.le a (Hp.un a b) := fun _ _ h => Hp.un_of_left h
theorem Hp.le_un_right {a b : Hp} (hd : Hp.dj a b) : Hp.le b (Hp.un a b) := fun _ _ h => Hp.un_of_right hd h

/-- A list of assertions on disjoint pieces; what is left over is not spoken of. -/
def SL : List SP → Hp → Prop
  | [], _ => True
  | P :: r, h => ∃ h1 h2, Hp.dj h1 h2 ∧ h = Hp.un h1 h2 ∧ P h1 ∧ SL r h2

theorem SL_append {a b : List SP} {h : Hp} : SL (a ++ b) h ↔ ∃ h1 h2, Hp.dj h1 h2 ∧ h = Hp.un h1 h2 ∧ SL a h1 ∧ SL b h2 := by
  induction a generalizing h with
  | nil =>
    constructor
    · intro hb; exact ⟨Hp.nil, h, Hp.dj_nil h, (Hp.nil_un h).symm, trivial, hb⟩
    · rintro ⟨h1, h2, hd, rfl, _, hb⟩
      show SL b (Hp.un h1 h2)
      cases b with
      | nil => trivial
      | cons P r =>
        obtain ⟨x, y, hxy, rfl, hx, hy⟩ := hb
        have hd' := Hp.dj_un_right.1 hd
        refine ⟨x, Hp.un h1 y, Hp.dj_un_right.2 ⟨hd'.1.symm, hxy⟩, ?_, hx, ?_⟩
        · rw [← Hp.un_assoc, Hp.un_comm hd'.1, Hp.un_assoc]
        · have key : ∀ (r : List SP) (y h1 : Hp), Hp.dj h1 y → SL r y → SL r (Hp.un h1 y) := by
            intro r
            induction r with
            | nil => intros; trivial
            | cons P r ih =>
              rintro y h1 hd ⟨u, v, huv, rfl, hu, hv⟩
              have hd' := Hp.dj_un_right.1 hd
              exact ⟨u, Hp.un h1 v, Hp.dj_un_right.2 ⟨hd'.1.symm, huv⟩, by rw [← Hp.un_assoc, Hp.un_comm hd'.1, Hp.un_assoc], hu, ih v h1 hd'.2 hv⟩
          exact key r y h1 hd'.2 hy
  | cons P a ih =>
    constructor
    · rintro ⟨x, y, hxy, rfl, hx, hy⟩
      obtain ⟨u, v, huv, rfl, hu, hv⟩ := ih.1 hy
      have hd := Hp.dj_un_right.1 hxy
      exact ⟨Hp.un x u, v, Hp.dj_un_left.2 ⟨hd.2, huv⟩, (Hp.un_assoc _ _ _).symm, ⟨x, u, hd.1, rfl, hx, hu⟩, hv⟩
    · rintro ⟨h1, h2, hd, rfl, ⟨x, u, hxu, rfl, hx, hu⟩, hb⟩
      have hd' := Hp.dj_un_left.1 hd
      exact ⟨x, Hp.un u h2, Hp.dj_un_right.2 ⟨hxu, hd'.1⟩, Hp.un_assoc _ _ _, hx, ih.2 ⟨u, h2, hd'.2, rfl, hu, hb⟩⟩

theorem SL_cons {P : SP} {r : List SP} {h : Hp} : SL (P :: r) h ↔ ∃ h1 h2, Hp.dj h1 h2 ∧ h = Hp.un h1 h2 ∧ P h1 ∧ SL r h2 := Iff.rfl

theorem SL_swap {P Q : SP} {r : List SP} {h : Hp} (hh : SL (P :: Q :: r) h) : SL (Q :: P :: r) h := by
  obtain ⟨x, y, hxy, rfl, hx, u, v, huv, rfl, hu, hv⟩ := hh
  have hd := Hp.dj_un_right.1 hxy
  exact ⟨u, Hp.un x v, Hp.dj_un_right.2 ⟨hd.1.symm, huv⟩, by rw [← Hp.un_assoc, Hp.un_comm hd.1, Hp.un_assoc], hu, x, v, hd.2, rfl, hx, hv⟩

/-- hs gives hs'. -/
def Ent (hs hs' : List SP) : Prop := ∀ h, SL hs h → SL hs' h
theorem Ent.refl (hs : List SP) : Ent hs hs := fun _ h => h
theorem Ent.trans {a b c : List SP} (h : Ent a b) (h' : Ent b c) : Ent a c := fun x hx => h' x (h x hx)
theorem Ent.nil (hs : List SP) : Ent hs [] := fun _ _ => trivial
theorem Ent.cons {P : SP} {a b : List SP} (h : Ent a b) : Ent (P :: a) (P :: b) := fun _ ⟨x, y, d, e, p, q⟩ => ⟨x, y, d, e, p, h y q⟩
theorem Ent.swap (P Q : SP) (r : List SP) : Ent (P :: Q :: r) (Q :: P :: r) := fun _ h => SL_swap h
theorem Ent.app {a a' b b' : List SP} (h : Ent a a') (h' : Ent b b') : Ent (a ++ b) (a' ++ b') := fun x hx => by
  obtain ⟨u, v, d, e, p, q⟩ := SL_append.1 hx
  exact SL_append.2 ⟨u, v, d, e, h u p, h' v q⟩
theorem Ent.append_swap (a b : List SP) : Ent (a ++ b) (b ++ a) := fun x hx => by
  obtain ⟨u, v, d, rfl, p, q⟩ := SL_append.1 hx
  exact SL_append.2 ⟨v, u, d.symm, Hp.un_comm d, q, p⟩
theorem Ent.drop {P : SP} {a : List SP} : Ent (P :: a) a := fun x hx => by
  have := SL_append.1 ((Ent.append_swap [P] a) x hx)
  obtain ⟨u, v, d, rfl, p, _⟩ := this
  have h := (SL_append (a := a) (b := [])).2 ⟨u, v, d, rfl, p, trivial⟩
  simpa using h

/-- To fetch one assertion out of a list. -/
inductive TakeP (P : SP) : List SP → List SP → Prop
  | here (r : List SP) : TakeP P (P :: r) r
  | there {x : SP} {hs r : List SP} (h : TakeP P hs r) : TakeP P (x :: hs) (x :: r)
theorem TakeP.ent {P : SP} {hs r : List SP} (h : TakeP P hs r) : Ent hs (P :: r) := by
  induction h with
  | here r => exact Ent.refl _
  | there _ ih => exact (Ent.cons ih).trans (Ent.swap _ _ _)
/-- To fetch several. -/
inductive Takes : List SP → List SP → List SP → Prop
  | nil (hs : List SP) : Takes [] hs hs
  | cons {P : SP} {ps hs r r' : List SP} (h : TakeP P hs r) (t : Takes ps r r') : Takes (P :: ps) hs r'
theorem Takes.ent {ps hs r : List SP} (h : Takes ps hs r) : Ent hs (ps ++ r) := by
  induction h with
  | nil hs => exact Ent.refl _
  | cons h _ ih => exact h.ent.trans (Ent.cons ih)

/-- What a call keeps: the heap's other part, the streams. -/
structure Fr where
  hf : Hp
  os : Os
  out : Array (Nat × ByteArray)
  tape : Nat → Question → Nat

def hp (w : World) : Hp := fun k => w.heap[k]?

/-- A world of these pieces beside that frame. -/
structure Sat (F : Fr) (hs : List SP) (w : World) : Prop where
  os : w.os = F.os
  out : w.output = F.out
  tape : w.tape = F.tape
  heap : ∃ h, Hp.dj h F.hf ∧ hp w = Hp.un h F.hf ∧ SL hs h

theorem Sat.ent {F : Fr} {a b : List SP} {w : World} (h : Sat F a w) (e : Ent a b) : Sat F b w :=
  ⟨h.os, h.out, h.tape, let ⟨x, d, u, s⟩ := h.heap; ⟨x, d, u, e x s⟩⟩

theorem Sat.drew {F : Fr} {a : List SP} {w : World} (h : Sat F a w) : Sat F a { w with drawn := w.drawn + 1 } := ⟨h.os, h.out, h.tape, h.heap⟩
theorem Sat.drewN {F : Fr} {a : List SP} {w : World} (h : Sat F a w) (n : Nat) : Sat F a { w with drawn := n } := ⟨h.os, h.out, h.tape, h.heap⟩

/-- All of a world, and nothing owned. -/
def World.fr (w : World) : Fr := ⟨hp w, w.os, w.output, w.tape⟩
theorem Sat.start (w : World) : Sat (World.fr w) [] w := ⟨rfl, rfl, rfl, Hp.nil, Hp.dj_nil _, (Hp.nil_un _).symm, trivial⟩

/-- The frame of a call: what is left aside joins the rest. -/
theorem Sat.frame {F : Fr} {pre rest : List SP} {w : World} (h : Sat F (pre ++ rest) w) :
    ∃ h2, SL rest h2 ∧ Hp.dj h2 F.hf ∧ Sat { F with hf := Hp.un h2 F.hf } pre w ∧
      ∀ post w', Sat { F with hf := Hp.un h2 F.hf } post w' → Sat F (post ++ rest) w' := by
  obtain ⟨x, d, u, s⟩ := h.heap
  obtain ⟨h1, h2, hd, rfl, p, q⟩ := SL_append.1 s
  have d' := Hp.dj_un_left.1 d
  refine ⟨h2, q, d'.2, ⟨h.os, h.out, h.tape, h1, Hp.dj_un_right.2 ⟨hd, d'.1⟩, by rw [u, Hp.un_assoc], p⟩, ?_⟩
  intro post w' h'
  obtain ⟨y, e, v, t⟩ := h'.heap
  have e' := Hp.dj_un_right.1 e
  exact ⟨h'.os, h'.out, h'.tape, Hp.un y h2, Hp.dj_un_left.2 ⟨e'.2, d'.2⟩, by rw [v, Hp.un_assoc], SL_append.2 ⟨y, h2, e'.1, rfl, t, q⟩⟩

/-- A block, known whole. -/
inductive blk (b : Nat) (o : Obj) : Hp → Prop
  | mk : blk b o (Hp.one b o)

theorem blk_iff {b : Nat} {o : Obj} {h : Hp} : blk b o h ↔ h = Hp.one b o := ⟨fun ⟨⟩ => rfl, fun e => e ▸ .mk⟩

theorem Sat.blk {F : Fr} {b : Nat} {o : Obj} {r : List SP} {w : World} (h : Sat F (blk b o :: r) w) : w.heap[b]? = some o := by
  obtain ⟨x, d, u, x1, x2, hd, rfl, hb, _⟩ := h.heap
  cases hb
  have : hp w b = some o := by rw [u]; exact Hp.un_of_left (Hp.un_of_left (Hp.one_self b o))
  exact this

/-- A cell's block is written anew. -/
theorem Sat.setBlk {F : Fr} {b : Nat} {o o' : Obj} {r : List SP} {w w' : World} (h : Sat F (Go.Proofs.Ytjlimnckdblkhaa.blk b o :: r) w) (hh : ∀ k, w'.heap[k]? = if k = b then some o' else w.heap[k]?)
    (ho : w'.os = w.os) (ht : w'.output = w.output) (hp' : w'.tape = w.tape) : Sat F (Go.Proofs.Ytjlimnckdblkhaa.blk b o' :: r) w' := by
  obtain ⟨x, d, u, x1, x2, hd, rfl, hb, hr⟩ := h.heap
  cases hb
  have d' := Hp.dj_un_left.1 d
  have key : ∀ {z : Hp}, Hp.dj (Hp.one b o) z → Hp.dj (Hp.one b o') z := fun {z} hz k => by
    rcases hz k with h | h
    · by_cases hk : k = b
      · subst hk; rw [Hp.one_self] at h; cases h
      · exact .inl (Hp.one_ne _ hk)
    · exact .inr h
  refine ⟨ho.trans h.os, ht.trans h.out, hp'.trans h.tape, Hp.un (Hp.one b o') x2, Hp.dj_un_left.2 ⟨key d'.1, d'.2⟩, ?_, Hp.one b o', x2, key hd, rfl, .mk, hr⟩
  funext k
  show w'.heap[k]? = _
  rw [hh]
  by_cases hk : k = b
  · subst hk; rw [if_pos rfl]; exact (Hp.un_of_left (Hp.un_of_left (Hp.one_self _ _))).symm
  · rw [if_neg hk]
    have := congrFun u k
    unfold hp at this
    rw [this]
    simp [Hp.un, Hp.one_ne _ hk]

/-- A new block. -/
theorem Sat.new {F : Fr} {r : List SP} {w : World} (h : Sat F r w) (o : Obj) : Sat F (Go.Proofs.Ytjlimnckdblkhaa.blk w.heap.size o :: r) (w.alloc o) := by
  obtain ⟨x, d, u, hr⟩ := h.heap
  have hn : hp w w.heap.size = none := by simp [hp]
  have hx : x w.heap.size = none ∧ F.hf w.heap.size = none := by
    rw [u] at hn
    unfold Hp.un at hn
    cases hx : x w.heap.size with
    | none => rw [hx] at hn; exact ⟨rfl, by simpa using hn⟩
    | some o => rw [hx] at hn; simp at hn
  have d1 : ∀ {z : Hp}, z w.heap.size = none → Hp.dj (Hp.one w.heap.size o) z := fun {z} hz k => by
    by_cases hk : k = w.heap.size
    · subst hk; exact .inr hz
    · exact .inl (Hp.one_ne _ hk)
  refine ⟨h.os, h.out, h.tape, Hp.un (Hp.one w.heap.size o) x, Hp.dj_un_left.2 ⟨d1 hx.2, d⟩, ?_, Hp.one w.heap.size o, x, d1 hx.1, rfl, .mk, hr⟩
  funext k
  show (w.heap.push o)[k]? = _
  rw [Array.getElem?_push]
  by_cases hk : k = w.heap.size
  · subst hk; rw [if_pos rfl]; exact (Hp.un_of_left (Hp.un_of_left (Hp.one_self _ _))).symm
  · rw [if_neg hk]
    have := congrFun u k
    unfold hp at this
    rw [this]
    simp [Hp.un, Hp.one_ne _ hk]

/-- What an assertion of the list says of the world's own heap: any block of its piece lies there. -/
theorem Sat.le {F : Fr} {P : SP} {r : List SP} {w : World} (h : Sat F (P :: r) w) : ∃ x, P x ∧ Hp.le x (hp w) := by
  obtain ⟨x, d, u, x1, x2, hd, rfl, hb, _⟩ := h.heap
  exact ⟨x1, hb, fun k o hk => by rw [u]; exact Hp.un_of_left (Hp.un_of_left hk)⟩
theorem Sat.le_hf {F : Fr} {hs : List SP} {w : World} (h : Sat F hs w) : Hp.le F.hf (hp w) := by
  obtain ⟨x, d, u, _⟩ := h.heap
  rw [u]
  exact Hp.le_un_right d

end Go.Proofs.Ytjlimnckdblkhaa
