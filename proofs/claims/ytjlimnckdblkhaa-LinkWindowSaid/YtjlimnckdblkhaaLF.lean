/- What values that read as data are: numbers, slices of rows, structs. No condition. -/
import Derived.Test.YtjlimnckdblkhaaLC
import Derived.Test.YtjlimnckdblkhaaLE
namespace Go.Proofs.Ytjlimnckdblkhaa
open Go Go.ChangeShapes Go.WideShapes Go.ChangeAt Go.RowKit

section
variable {H : Type} {enc : TypeId × Value → H} {P : Program} {w : World} {base : Nat} {spare : Nat → Bool} {held : Bool}

/-- What cells that read as data of a type are. -/
def OpenAt (enc : TypeId × Value → H) (P : Program) (w : World) (base : Nat) (spare : Nat → Bool) (held : Bool) (t : TypeId) (Q : List Value → Prop) : Prop :=
  ∀ fuel cs x, DataW.trod enc P w base spare held fuel t cs = some x → Q cs
theorem OpenAt.mono {t : TypeId} {Q Q' : List Value → Prop} (h : OpenAt enc P w base spare held t Q) (hq : ∀ cs, Q cs → Q' cs) : OpenAt enc P w base spare held t Q' := fun fuel cs x hx => hq cs (h fuel cs x hx)
theorem OpenAt.int {t : TypeId} {k : IntKind} (ht : P.underlying t = some (.int k)) : OpenAt enc P w base spare held t (fun cs => ∃ n, cs = [.int k n] ∧ (Lit.int k n).wf = true) := fun fuel cs x h => by
  obtain ⟨n, hc, _, hw⟩ := DataW.trod_int ht h
  exact ⟨n, hc, hw⟩
theorem OpenAt.struct {t : TypeId} {fs : Array Field} (ht : P.underlying t = some (.struct fs)) :
    OpenAt enc P w base spare held t (fun cs => cs.length = P.cellsOf t ∧ ∀ (i : Nat) (f : Field), fs[i]? = some f → ∀ Q, OpenAt enc P w base spare held f.type Q → Q ((cs.drop f.offset).take (P.cellsOf f.type))) := fun fuel cs x h => by
  obtain ⟨xs, n, _, _, hl, hlen, hf⟩ := DataW.trod_struct ht h
  refine ⟨hl, fun i f hi Q hQ => ?_⟩
  have hlt : i < xs.length := by rw [hlen]; exact (Array.getElem?_eq_some_iff.1 hi).1
  have := hf i f hi
  rw [List.getElem?_eq_getElem hlt] at this
  exact hQ n _ _ this
theorem OpenAt.field {fs : Array Field} {cs : List Value} (h : ∀ (i : Nat) (f : Field), fs[i]? = some f → ∀ Q, OpenAt enc P w base spare held f.type Q → Q ((cs.drop f.offset).take (P.cellsOf f.type)))
    (i : Nat) {t : TypeId} {o n : Nat} {Q : List Value → Prop} (hQ : OpenAt enc P w base spare held t Q) (hc : P.cellsOf t = n) {f : Field} (hi : fs[i]? = some f) (ht : f.type = t) (ho : f.offset = o) : Q ((cs.drop o).take n) := by
  subst ht ho hc
  exact h i f hi Q hQ
/-- Rows of cells, read. -/
structure RowsAt (w : World) (Q : List Value → Prop) (sz : Nat) (v : Value) (rows : List (List Value)) : Prop where
  sl : SlR (hp w) v sz rows.length rows.flatten
  each : ∀ r ∈ rows, Q r
theorem cells_get {a : Addr} {n : Nat} {l : List Value} (h : w.cells? base a n = some l) : l.length = n ∧ ∀ j u, l[j]? = some u → w.cell? (a.add j) = some u := by
  unfold World.cells? at h
  split at h
  · have hl := mapM_some_length h
    refine ⟨by simpa using hl, fun j u hu => ?_⟩
    have hj : j < n := by have := (List.getElem?_eq_some_iff.1 hu).1; simp at hl; omega
    have := mapM_some_get h j j (by simp [hj])
    rw [this, hu]
  · cases h
theorem flat_len {sz : Nat} : ∀ {rows : List (List Value)}, (∀ r ∈ rows, r.length = sz) → rows.flatten.length = rows.length * sz
  | [], _ => by simp
  | r :: rows, h => by
    have h1 := h r (List.mem_cons_self ..)
    have h2 := flat_len fun q hq => h q (List.mem_cons_of_mem r hq)
    simp only [List.flatten_cons, List.length_append, List.length_cons, h1, h2, Nat.add_mul]
    omega
theorem flat_get {sz : Nat} : ∀ {rows : List (List Value)} {i : Nat} {u : Value}, (∀ r ∈ rows, r.length = sz) → rows.flatten[i]? = some u → ∃ k j r, i = k * sz + j ∧ rows[k]? = some r ∧ r[j]? = some u
  | [], i, u, _, hu => by simp at hu
  | r :: rows, i, u, h, hu => by
    have h1 := h r (List.mem_cons_self ..)
    rw [List.flatten_cons] at hu
    rcases Nat.lt_or_ge i r.length with hi | hi
    · rw [List.getElem?_append_left hi] at hu
      exact ⟨0, i, r, by omega, rfl, hu⟩
    · rw [List.getElem?_append_right hi] at hu
      obtain ⟨k, j, q, he, hk, hj⟩ := flat_get (fun q hq => h q (List.mem_cons_of_mem r hq)) hu
      refine ⟨k + 1, j, q, ?_, hk, hj⟩
      rw [Nat.add_mul, Nat.one_mul]
      omega
theorem OpenAt.slice {t e : TypeId} {sz : Nat} {Q : List Value → Prop} (ht : P.underlying t = some (.slice e)) (hc : P.cellsOf e = sz) (he : OpenAt enc P w base spare held e Q) (h1 : ∀ r, Q r → One r) :
    OpenAt enc P w base spare held t (fun cs => ∃ v rows, cs = [v] ∧ RowsAt w (fun r => Q r ∧ r.length = sz) sz v rows) := fun fuel cs x h => by
  rcases DataW.trod_slice ht h with ⟨h0, _⟩ | ⟨a, len, cap, elems, rest, n, _, hcs, _, hb, hl, hm, hlen, hel, _, _⟩
  · exact ⟨_, [], h0, SlR.nil _ _, by simp⟩
  · have hrow : ∀ i, i < len → ∃ r, w.cells? base (a.add (i * sz)) sz = some r ∧ Q r := fun i hi => by
      have h2 := hel i hi
      rw [List.getElem?_eq_getElem (by omega : i < elems.length), hc, Option.bind_eq_some_iff] at h2
      obtain ⟨r, hr, hx⟩ := h2
      exact ⟨r, hr, he n r _ hx⟩
    let row (i : Nat) : List Value := (w.cells? base (a.add (i * sz)) sz).getD []
    have hr : ∀ i, i < len → w.cells? base (a.add (i * sz)) sz = some (row i) ∧ Q (row i) := fun i hi => by
      obtain ⟨r, h1, h2⟩ := hrow i hi
      have : row i = r := by simp only [row, h1, Option.getD_some]
      rw [this]
      exact ⟨h1, h2⟩
    let rows := (List.range len).map row
    have hmem : ∀ r ∈ rows, Q r ∧ r.length = sz := fun r hm => by
      obtain ⟨i, hi, rfl⟩ := List.mem_map.1 hm
      have hi := List.mem_range.1 hi
      exact ⟨(hr i hi).2, (cells_get (hr i hi).1).1⟩
    have hrl : rows.length = len := by simp [rows]
    refine ⟨_, rows, hcs, ⟨?_, hmem⟩⟩
    rw [hrl]
    refine ⟨⟨some a, cap, rfl, hl, hm, (by intro h; cases h), ?_⟩, by rw [flat_len fun r h => (hmem r h).2, hrl], ?_⟩
    · intro a' ha i u hu
      obtain rfl := Option.some.inj ha
      obtain ⟨k, j, r, rfl, hk, hj⟩ := flat_get (fun r h => (hmem r h).2) hu
      have hkl : k < len := by have := (List.getElem?_eq_some_iff.1 hk).1; omega
      have hrk : r = row k := by
        simp only [rows, List.getElem?_map] at hk
        rw [List.getElem?_range hkl] at hk
        exact (Option.some.inj hk).symm
      subst hrk
      have := (cells_get (hr k hkl).1).2 j u hj
      rw [Addr.add_add] at this
      exact HCell.of_cell this
    · intro u hu
      obtain ⟨r, hr, hu⟩ := List.mem_flatten.1 hu
      exact h1 r (hmem r hr).1 u hu
theorem OpenAt.bytes {t e : TypeId} (ht : P.underlying t = some (.slice e)) (he : P.underlying e = some (.int .u8)) (hc : P.cellsOf e = 1) :
    OpenAt enc P w base spare held t (fun cs => ∃ v, ∃ bs : List UInt8, cs = [v] ∧ SlR (hp w) v 1 bs.length (u8s bs)) := by
  refine OpenAt.mono (OpenAt.slice ht hc (OpenAt.int he) ?_) ?_
  · rintro r ⟨n, rfl, _⟩
    exact One.cons rfl One.nil
  · rintro cs ⟨v, rows, rfl, hs, hr⟩
    have key : ∀ rows : List (List Value), (∀ r ∈ rows, (∃ n, r = [.int .u8 n] ∧ (Lit.int .u8 n).wf = true) ∧ r.length = 1) → ∃ bs : List UInt8, bs.length = rows.length ∧ rows.flatten = u8s bs := by
      intro rows
      induction rows with
      | nil => intro _; exact ⟨[], rfl, rfl⟩
      | cons r rows ih =>
        intro h
        obtain ⟨bs, hl, hb⟩ := ih fun q hq => h q (List.mem_cons_of_mem _ hq)
        obtain ⟨⟨n, rfl, hw⟩, _⟩ := h r (List.mem_cons_self ..)
        simp only [Lit.wf, Bool.and_eq_true, decide_eq_true_eq] at hw
        have h4 : IntKind.u8.min = 0 := rfl
        have h5 : IntKind.u8.max = 255 := rfl
        refine ⟨UInt8.ofNat n.toNat :: bs, by simp [hl], ?_⟩
        rw [List.flatten_cons, hb]
        simp only [u8s, List.map_cons, List.singleton_append, List.cons.injEq, Value.int.injEq, true_and, and_true]
        rw [UInt8.toNat_ofNat']
        omega
    obtain ⟨bs, hl, hb⟩ := key rows hr
    refine ⟨v, bs, rfl, ?_⟩
    rw [hl, ← hb]
    exact hs
end
end Go.Proofs.Ytjlimnckdblkhaa
