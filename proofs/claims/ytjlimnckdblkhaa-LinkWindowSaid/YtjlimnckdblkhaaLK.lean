/- Bytes of constant texts, arrays of bytes that are compared, rows of noughts that are appended, slices of slices that are read. No condition. -/
import Derived.Test.YtjlimnckdblkhaaLJ
import Derived.Lib.AppendZeros
import Derived.Lib.SlBytesConst
import Derived.Stop.BytesEq
namespace Go.Proofs.Ytjlimnckdblkhaa
open Go

/-- A piece in which a slice can be read. -/
def slp (v : Value) (sz n : Nat) (xs : List Value) : SP := fun h => SlR h v sz n xs

section
variable {P : Program} {F : Fr} {env : Env} {hs r : List SP} {dst : Option Tmp} {ty : TypeId} {pos : String} {after : Array Edge} {g : Option (Nat × Bool)} {x y c : Operand} {u v : Value} {T e t t' : TypeId} {sz n m : Nat} {xs ys : List Value}

theorem Rd.slp (hk : TakeP (slp v sz n xs) hs r) : Rd F hs v sz n xs := fun _ _ s => by
  obtain ⟨z, hz, hl⟩ := SL_head hk s
  exact SlR.mono hz hl

theorem freeze_get {w : World} {b k : Nat} {cs : Array Value} {T : TypeId} (hb : w.heap[b]? = some (.cells cs T (0, 0))) (j : Nat) :
    (w.freeze ⟨b, k, none⟩ 1).heap[j]? = if j = b then some (.cells cs T (k, k + 1)) else w.heap[j]? := by
  unfold World.freeze
  rw [if_neg (by decide)]
  show (w.heap.modify b _)[j]? = _
  rw [Array.getElem?_modify]
  by_cases h : b = j
  · subst h
    rw [if_pos rfl, if_pos rfl, hb]
    rfl
  · rw [if_neg h, if_neg (Ne.symm h)]

/-- The bytes of a constant text: the row gets its mark. -/
theorem Ef.mark (hx : ev env x = some v) (hk : TakeP (vec v T sz n xs) hs r) (h0 : 0 < xs.length) (hs' : P.underlying t = some (.slice e)) (he : P.underlying e = some (.int .u8)) :
    Ef P F env hs ⟨dst, .convert t t x, ty, pos, after, g⟩ (fun u hs' => u = v ∧ hs' = slp v sz n xs :: r) := by
  intro _ a w ha s
  have s1 := s.ent hk.ent
  obtain ⟨z, d, uu, z1, z2, hd, rfl, hz1, hz2⟩ := s1.heap
  cases hz1 with
  | nil _ _ hxs => subst hxs; simp at h0
  | mk b o cap pre post hv hpo hxl hc hm hcs hone =>
    subst hv
    have sp : Sat F (blk b (.cells (pre ++ xs ++ post).toArray T (0, 0)) :: r) w := ⟨s1.os, s1.out, s1.tape, _, d, uu, _, z2, hd, rfl, .mk, hz2⟩
    have hb := sp.blk
    have hsh : w.shape? b = some (T, (pre ++ xs ++ post).toArray.size) := by unfold World.shape?; rw [hb]
    have sp2 := sp.setBlk (w' := w.freeze ⟨b, (pre ++ xs ++ post).toArray.size, none⟩ 1) (o' := .cells (pre ++ xs ++ post).toArray T ((pre ++ xs ++ post).toArray.size, (pre ++ xs ++ post).toArray.size + 1)) (freeze_get hb)
      (by unfold World.freeze; split <;> rfl) (by unfold World.freeze; split <;> rfl) (by unfold World.freeze; split <;> rfl)
    refine ⟨_, w.freeze ⟨b, (pre ++ xs ++ post).toArray.size, none⟩ 1, _, .inl ?_, ⟨rfl, rfl⟩, sp2.ent (Ent.one fun q hq => ?_)⟩
    · simp only [execOp, ha.ev hx]
      simp [convert, run_underlying hs', run_underlying he, markStringish, hsh]
    · cases hq
      refine ⟨⟨some ⟨b, o, none⟩, cap, rfl, hc, hm, (by intro h; cases h), fun a ha i u hu => ?_⟩, hxl, hone⟩
      obtain rfl := Option.some.inj ha
      rw [Addr.add_lit]
      refine ⟨rfl, _, T, _, Hp.one_self _ _, ?_⟩
      subst hpo
      simpa using mid_get hu

/-- Two arrays of bytes. -/
theorem Ev.eqA8 {a b : List UInt8} (hx : ev env x = some (.agg (u8s a).toArray)) (hy : ev env y = some (.agg (u8s b).toArray)) (ht : P.underlying t = some (.array n e)) (he : P.underlying e = some (.int .u8)) (hsz : ∀ w, (sizeOf e).run P w = .ok 1 w)
    (hm : P.eqGuardType P.depth t = false) (ha : a.length = n) (hb : b.length = n) : Ev P F env hs ⟨dst, .binOp .eql t x y t', ty, pos, after, g⟩ (.bool (decide (a = b))) := fun _ ac w hA _ => by
  have h1 := run_eqGuard_agg (P := P) (w := w) .eql t x y (u8s a).toArray (u8s b).toArray hm
  have h2 := run_eql_bytes (P := P) w t e n ht he hsz a b ha hb
  have h3 : (a == b) = decide (a = b) := by rw [Bool.eq_iff_iff]; simp
  have h4 : (a.map Extern.Stop.cell).toArray = (u8s a).toArray := rfl
  have h5 : (b.map Extern.Stop.cell).toArray = (u8s b).toArray := rfl
  rw [h4, h5, h3] at h2
  simp [execOp, hA.ev hx, hA.ev hy, h1, h2]
theorem Ev.neA8 {a b : List UInt8} (hx : ev env x = some (.agg (u8s a).toArray)) (hy : ev env y = some (.agg (u8s b).toArray)) (ht : P.underlying t = some (.array n e)) (he : P.underlying e = some (.int .u8)) (hsz : ∀ w, (sizeOf e).run P w = .ok 1 w)
    (hm : P.eqGuardType P.depth t = false) (ha : a.length = n) (hb : b.length = n) : Ev P F env hs ⟨dst, .binOp .neq t x y t', ty, pos, after, g⟩ (.bool (!decide (a = b))) := fun _ ac w hA _ => by
  have h1 := run_eqGuard_agg (P := P) (w := w) .neq t x y (u8s a).toArray (u8s b).toArray hm
  have h2 := run_equalIn_bytes (P := P) w 9998 t e n ht he hsz a b ha hb
  have h3 : (a == b) = decide (a = b) := by rw [Bool.eq_iff_iff]; simp
  have h4 : (a.map Extern.Stop.cell).toArray = (u8s a).toArray := rfl
  have h5 : (b.map Extern.Stop.cell).toArray = (u8s b).toArray := rfl
  rw [h4, h5, h3] at h2
  have h6 : (binOp .neq t (.agg (u8s a).toArray) (.agg (u8s b).toArray)).run P w = .ok (.bool (!decide (a = b))) w := by
    show (do pure (.bool (!(← Op.equalIn 10000 t (.agg (u8s a).toArray) (.agg (u8s b).toArray)))) : Sem Value).run P w = _
    simp [h2]
  simp [execOp, hA.ev hx, hA.ev hy, h1, h6]

/-- cap of no slice. -/
theorem Ev.capNil (hx : ev env x = some (.slice none 0 0)) (hu : ∀ w, (underlying t).run P w = .ok (.slice e) w) : Ev P F env hs ⟨dst, .call { callee := .builtin .cap, args := #[x], argTypes := #[t] }, ty, pos, after, g⟩ (.int .i64 0) := fun _ a w ha _ => by
  simp [execOp, resolve, invoke, builtin, ha.ev hx, Builtin.cap_, hu, goInt]

/-- append(nil, make([]T, n)...) -/
theorem Ef.appendZ {xo so : Operand} {kd kn : IntKind} {bytes : Nat} {zs : List Value} {z : Value} (hx : ev env so = some (.slice none 0 0)) (hy : ev env xo = some (.int kd (m : Int))) (ei : EI P t e 1 bytes zs) (hz1 : zs = [z]) (htn : P.underlying t' = some (.int kn))
    (h0 : 0 < m) (hb : m * bytes ≤ 281474976710656) (hm : m ≤ maxLen) (h1 : z.oneCell' = true) :
    Ef P F env hs ⟨dst, .call { callee := .builtin .append, args := #[so, xo], argTypes := #[t, t'] }, ty, pos, after, g⟩ (fun u hs' => Sl u ∧ hs' = vec u e 1 m (List.replicate m z) :: hs) := by
  intro _ a w ha s
  obtain ⟨i, zv, hi, hsz, hby, hzv, hzs⟩ := ei.info
  subst hby hz1
  have hr := Lib.run_append_nil_zeros (P := P) w t t' ty e i zv kd kn ei.und htn hi hzv m h0 (by omega) (by simp only [maxLen] at hm; omega) hb
  have hge := grownCap_ge w m 0 e
  have hcm := grownCap_le_maxLen w m 0 e hm
  have hzc : (Builtin.zeroCells zv.cells m).toList = List.replicate m z := by rw [hzs]; exact zeroCells_one z m
  refine ⟨_, _, _, .inl ?_, ⟨⟨_, _, _, rfl⟩, rfl⟩, s.drew.newVec e (grownCap w m 0 e) (List.replicate m z) (Builtin.zeroCells zv.cells (grownCap w m 0 e - m)).toList (by simp) hge hcm ?_ (One.rep h1) (Builtin.zeroCells zv.cells m ++ Builtin.zeroCells zv.cells (grownCap w m 0 e - m)) (Array.ext' (by rw [← hzc]; simp))⟩
  · have h3 : (World.drew w).heap.size = w.heap.size := rfl
    simp only [execOp, resolve]
    simp [ha.ev hx, ha.ev hy, invoke, builtin, hr]
  · simp [size_zeroCells, hzs]
    omega

/-- A block that is written whole. -/
theorem whole {cs vs : List Value} {n : Nat} (h : cs.length = n) : cs.take 0 ++ vs ++ cs.drop (0 + n) = vs := by rw [List.take_zero, List.nil_append, List.drop_of_length_le (by omega), List.append_nil]
theorem fits0 {cs : List Value} {n : Nat} (h : cs.length = n) : 0 + n ≤ cs.length := by omega
theorem read0 {cs : List Value} {n : Nat} (h : cs.length = n) : (cs.drop 0).take n = cs := by rw [List.drop_zero, List.take_of_length_le (by omega)]
/-- Parts of bytes. -/
theorem cut8_eq {bs ys : List UInt8} {lo hi : Nat} (h1 : lo ≤ hi) (h2 : hi ≤ bs.length) (hy : (bs.drop lo).take (hi - lo) = ys) : hi - lo = ys.length ∧ ((u8s bs).drop (lo * 1)).take ((hi - lo) * 1) = u8s ys := by
  subst hy
  refine ⟨by simp only [List.length_take, List.length_drop]; omega, ?_⟩
  rw [Nat.mul_one, Nat.mul_one, u8s_drop, u8s_take]
theorem SlR.cut8 {h : Hp} {bs ys : List UInt8} {lo hi : Nat} (s : SlR h v 1 bs.length (u8s bs)) (h1 : lo ≤ hi) (h2 : hi ≤ bs.length) (hy : (bs.drop lo).take (hi - lo) = ys) : SlR h (Value.cut v lo hi 1) 1 ys.length (u8s ys) := by
  have h3 := s.cut h1 h2
  obtain ⟨e1, e2⟩ := cut8_eq h1 h2 hy
  rw [e2] at h3
  rwa [← e1]
theorem Rd.cut8 {bs ys : List UInt8} {lo hi : Nat} (s : Rd F hs v 1 bs.length (u8s bs)) (h1 : lo ≤ hi) (h2 : hi ≤ bs.length) (hy : (bs.drop lo).take (hi - lo) = ys) : Rd F hs (Value.cut v lo hi 1) 1 ys.length (u8s ys) := fun H hf h => (s H hf h).cut8 h1 h2 hy
theorem take_all8 {bs : List UInt8} {lo : Nat} : (bs.drop lo).take (bs.length - lo) = bs.drop lo := List.take_of_length_le (by simp)
end
/-- Slices of bytes that lie one behind the other. -/
inductive Rows8 (F : Fr) : List Value → List (List UInt8) → Prop
  | nil : Rows8 F [] []
  | cons {v : Value} {b : List UInt8} {vs : List Value} {bs : List (List UInt8)} (hb : SlR F.hf v 1 b.length (u8s b)) (hr : Rows8 F vs bs) : Rows8 F (v :: vs) (b :: bs)
theorem Rows8.len {F : Fr} {vs : List Value} {bs : List (List UInt8)} (h : Rows8 F vs bs) : vs.length = bs.length := by induction h with | nil => rfl | cons _ _ ih => simp [ih]
theorem Rows8.get {F : Fr} {vs : List Value} {bs : List (List UInt8)} (h : Rows8 F vs bs) {i : Nat} {b : List UInt8} (hi : bs[i]? = some b) : ∃ v, vs[i]? = some v ∧ SlR F.hf v 1 b.length (u8s b) := by
  induction h generalizing i with
  | nil => simp at hi
  | cons hb _ ih => cases i with | zero => simp at hi; subst hi; exact ⟨_, rfl, hb⟩ | succ i => simpa using ih (by simpa using hi)
theorem Rows8.mono {F F' : Fr} {vs : List Value} {bs : List (List UInt8)} (h : Rows8 F vs bs) (l : Hp.le F.hf F'.hf) : Rows8 F' vs bs := by
  induction h with
  | nil => exact .nil
  | cons hb _ ih => exact .cons (hb.mono l) ih
end Go.Proofs.Ytjlimnckdblkhaa
