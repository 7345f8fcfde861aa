/- Rows inside blocks: slices of arrays, of fields and of elements; copy and clear into them. No condition. -/
import Derived.Test.YtjlimnckdblkhaaLA
namespace Go.Proofs.Ytjlimnckdblkhaa
open Go

/-- v is a slice over n elements from place o of block b on (or of none). -/
structure RowAt (v : Value) (b o n : Nat) : Prop where
  ex : ∃ ao cap, v = .slice ao n cap ∧ n ≤ cap ∧ cap ≤ maxLen ∧ (ao = none → n = 0 ∧ cap = 0) ∧ (n = 0 ∨ ao = some ⟨b, o, none⟩)
theorem RowAt.lit {b o n cap : Nat} (h : n ≤ cap) (hm : cap ≤ maxLen) : RowAt (.slice (some ⟨b, o, none⟩) n cap) b o n := ⟨_, cap, rfl, h, hm, (by intro h; cases h), .inr rfl⟩
theorem RowAt.full {b o n : Nat} (hm : n ≤ maxLen) : RowAt (.slice (some ⟨b, o, none⟩) n n) b o n := .lit (Nat.le_refl _) hm
theorem RowAt.sl {v : Value} {b o n : Nat} (h : RowAt v b o n) : Sl v := let ⟨ao, cap, e, _⟩ := h.ex; ⟨ao, n, cap, e⟩
theorem RowAt.cut {v : Value} {b o n lo hi sz : Nat} (h : RowAt v b o n) (h1 : lo ≤ hi) (h2 : hi ≤ n) : RowAt (Value.cut v lo hi sz) b (o + lo * sz) (hi - lo) := by
  obtain ⟨ao, cap, rfl, hc, hm, h0, ha⟩ := h.ex
  refine ⟨_, _, rfl, by omega, by omega, ?_, ?_⟩
  · intro hn
    split at hn
    · obtain ⟨h3, h4⟩ := h0 hn; omega
    · cases ao with
      | none => obtain ⟨h3, h4⟩ := h0 rfl; omega
      | some a => cases hn
  · by_cases hl : cap = lo
    · left; omega
    · rcases ha with ha | ha
      · left; omega
      · subst ha
        right
        simp [hl, Addr.add_lit]

section
variable {P : Program} {F : Fr} {env : Env} {hs r : List SP} {dst : Option Tmp} {ty : TypeId} {pos : String} {after : Array Edge} {g : Option (Nat × Bool)} {x y c : Operand} {u v : Value} {T e t t' : TypeId} {sz n m b o : Nat} {xs ys cs cs' : List Value}

theorem Rd.row (h : RowAt v b o n) (hk : TakeP (Go.Proofs.Ytjlimnckdblkhaa.pt b T cs) hs r) (hl : xs.length = n * sz) (h1 : One xs) (hx : ∀ i u, xs[i]? = some u → cs[o + i]? = some u) : Rd F hs v sz n xs := by
  obtain ⟨ao, cap, rfl, hc, hm, h0, ha⟩ := h.ex
  rcases ha with ha | ha
  · subst ha
    obtain rfl : xs = [] := List.eq_nil_of_length_eq_zero (by simpa using hl)
    exact fun H _ _ => ⟨⟨ao, cap, rfl, hc, hm, h0, fun a _ i u hu => by simp at hu⟩, by simp, One.nil⟩
  · subst ha
    exact Rd.pt hk hl hc hm h1 hx

/-- &v[j], v a row known by its block. -/
theorem Ev.indexAddrP {kd : IntKind} {i : Int} {j off cap : Nat} (hx : ev env x = some (.slice (some ⟨b, o, none⟩) n cap)) (hy : ev env y = some (.int kd i)) (hu : ∀ w, (underlying t).run P w = .ok (.slice e) w) (hz : ∀ w, (sizeOf e).run P w = .ok sz w)
    (hi : i = (j : Int)) (hj : j < n) (ho : o + j * sz = off) : Ev P F env hs ⟨dst, .indexAddr t x y, ty, pos, after, g⟩ (.pointer (some ⟨b, off, none⟩)) := fun _ a w ha _ => by
  subst hi ho
  simp [execOp, ha.ev hx, ha.ev hy, Instr.indexAt, asIntOf, hu, hz, hj, Addr.add_lit]
/-- &p[j], p an array's address. -/
theorem Ev.indexAddrA {kd : IntKind} {i : Int} {j off : Nat} (hx : ev env x = some (.pointer (some ⟨b, o, none⟩))) (hy : ev env y = some (.int kd i)) (hu : ∀ w, (underlying t).run P w = .ok (.array n e) w) (hz : ∀ w, (sizeOf e).run P w = .ok sz w)
    (hi : i = (j : Int)) (hj : j < n) (ho : o + j * sz = off) : Ev P F env hs ⟨dst, .indexAddr t x y, ty, pos, after, g⟩ (.pointer (some ⟨b, off, none⟩)) := fun _ a w ha _ => by
  subst hi ho
  simp [execOp, ha.ev hx, ha.ev hy, Instr.indexAt, asIntOf, hu, hz, hj, Addr.add_lit, Instr.sureAddr]
/-- p[:], p an array's address. -/
theorem Ev.sliceArr (hx : ev env x = some (.pointer (some ⟨b, o, none⟩))) (hu : ∀ w, (underlying t).run P w = .ok (.array n e) w) (hz : ∀ w, (sizeOf e).run P w = .ok sz w) :
    Ev P F env hs ⟨dst, .slice t x none none none, ty, pos, after, g⟩ (.slice (some ⟨b, o, none⟩) n n) := fun _ a w ha _ => by
  simp [execOp, ha.ev hx, Instr.sliceAt, hu, hz, Instr.sureAddr, Instr.sliceBounds, Addr.add]
theorem Ev.sliceArr_l {kl : IntKind} {l : Int} {lo : Nat} (hx : ev env x = some (.pointer (some ⟨b, o, none⟩))) (hy : ev env y = some (.int kl l)) (hu : ∀ w, (underlying t).run P w = .ok (.array n e) w) (hz : ∀ w, (sizeOf e).run P w = .ok sz w)
    (el : l = (lo : Int)) (h1 : lo ≤ n) : Ev P F env hs ⟨dst, .slice t x (some y) none none, ty, pos, after, g⟩ (Value.cut (.slice (some ⟨b, o, none⟩) n n) lo n sz) := fun _ a w ha _ => by
  subst el
  simp [execOp, ha.ev hx, ha.ev hy, Instr.sliceAt, hu, hz, Instr.sureAddr, Instr.sliceBounds, Instr.sliceBound, asIntOf, h1, Value.cut]
  split <;> rfl
theorem Ev.sliceArr_h {kl : IntKind} {l : Int} {hi : Nat} (hx : ev env x = some (.pointer (some ⟨b, o, none⟩))) (hy : ev env y = some (.int kl l)) (hu : ∀ w, (underlying t).run P w = .ok (.array n e) w) (hz : ∀ w, (sizeOf e).run P w = .ok sz w)
    (el : l = (hi : Int)) (h1 : hi ≤ n) : Ev P F env hs ⟨dst, .slice t x none (some y) none, ty, pos, after, g⟩ (Value.cut (.slice (some ⟨b, o, none⟩) n n) 0 hi sz) := fun _ a w ha _ => by
  subst el
  simp [execOp, ha.ev hx, ha.ev hy, Instr.sliceAt, hu, hz, Instr.sureAddr, Instr.sliceBounds, Instr.sliceBound, asIntOf, h1, Value.cut]
  split <;> rfl

/-- copy into a row. -/
theorem Ef.copyR {cn dn : Nat} {d s' : Value} {t1 : TypeId} (hx : ev env x = some d) (hd : RowAt d b o dn) (hy : ev env y = some s') (hk : TakeP (pt b T cs) hs r) (hr : Rd F hs s' sz m ys)
    (hu : ∀ w, (underlying t).run P w = .ok (.slice e) w) (hz : ∀ w, (sizeOf e).run P w = .ok sz w) (hcn : min m dn = cn) (hfit : o + cn * sz ≤ cs.length)
    (hc : cs.take o ++ ys.take (cn * sz) ++ cs.drop (o + cn * sz) = cs') : Ef P F env hs ⟨dst, .call { callee := .builtin .copy, args := #[x, y], argTypes := #[t, t1] }, ty, pos, after, g⟩ (fun u hs' => u = .int .i64 cn ∧ hs' = pt b T cs' :: r) := by
  obtain ⟨ao, cap, rfl, _, _, _, ha⟩ := hd.ex
  rcases ha with ha | ha
  · subst ha
    obtain rfl : cn = 0 := by omega
    intro _ a w hA s
    have hcs : cs' = cs := by rw [← hc]; simp
    subst hcs
    obtain ⟨ao', cap', rfl, _⟩ := (hr.at s).ex
    have hf : (Builtin.firstCells sz 0 (.slice ao' m cap')).run P w = .ok #[] w := by cases ao' <;> simp [Builtin.firstCells, loadCells, loadCellsFrom]
    refine ⟨_, w, _, .inl ?_, ⟨rfl, rfl⟩, s.ent hk.ent⟩
    simp only [execOp, resolve]
    cases ao <;> simp [hA.ev hx, hA.ev hy, invoke, builtin, Builtin.copy_, hu, hz, Builtin.lenOf, hf, goInt, storeCells]
  · subst ha
    exact Ef.copy hx hy hk hr hu hz hcn hfit hc
/-- clear, of a row. -/
theorem Ef.clearR {cn : Nat} {d : Value} {zs : List Value} {bytes : Nat} (hx : ev env x = some d) (hd : RowAt d b o cn) (hk : TakeP (pt b T cs) hs r) (ei : EI P t e sz bytes zs)
    (hz : (Builtin.zeroCells zs.toArray cn).toList = ys) (h1 : One ys) (hfit : o + ys.length ≤ cs.length) (hc : cs.take o ++ ys ++ cs.drop (o + ys.length) = cs') :
    Ef P F env hs ⟨dst, .call { callee := .builtin .clear, args := #[x], argTypes := #[t] }, ty, pos, after, g⟩ (fun u hs' => u = .tuple #[] ∧ hs' = pt b T cs' :: r) := by
  obtain ⟨ao, cap, rfl, _, _, _, ha⟩ := hd.ex
  rcases ha with ha | ha
  · subst ha
    have : ys = [] := by rw [← hz]; simp [Builtin.zeroCells]
    subst this
    intro _ a w hA s
    have hcs : cs' = cs := by rw [← hc]; simp
    subst hcs
    refine ⟨_, w, _, .inl ?_, ⟨rfl, rfl⟩, s.ent hk.ent⟩
    simp only [execOp, resolve]
    cases ao <;> simp [hA.ev hx, invoke, builtin, Builtin.clear_, run_underlying ei.und]
  · subst ha
    exact Ef.clear hx hk ei hz h1 hfit hc

theorem zeroCells_one (z : Value) (n : Nat) : (Builtin.zeroCells #[z] n).toList = List.replicate n z := by
  apply List.ext_getElem
  · simp [Builtin.zeroCells]
  · intro i h1 h2
    simp only [Builtin.zeroCells, Array.toList_map, List.getElem_map, List.getElem_replicate]
    have : ∀ k, (#[z] : Array Value)[k % 1]! = z := fun k => by rw [Nat.mod_one]; rfl
    exact this _
end
end Go.Proofs.Ytjlimnckdblkhaa
