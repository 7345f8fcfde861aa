/- More operations: make, literals of slices, copy, clear, stores into a slice's cells, bytes and strings, comparisons with nil, min and max. No condition. -/
import Derived.Test.YtjlimnckdblkhaaL6
import Derived.WalkSpells
namespace Go.Proofs.Ytjlimnckdblkhaa
open Go

/-- Bytes as cells, as a string. -/
def u8s (bs : List UInt8) : List Value := bs.map fun c => .int .u8 (c.toNat : Int)
def bstr (bs : List UInt8) : ByteArray := ⟨bs.toArray⟩
theorem u8s_len (bs : List UInt8) : (u8s bs).length = bs.length := by simp [u8s]
theorem u8s_one (bs : List UInt8) : One (u8s bs) := One.map fun _ => rfl
theorem u8s_app (a b : List UInt8) : u8s (a ++ b) = u8s a ++ u8s b := by simp [u8s]
theorem u8s_get {bs : List UInt8} {i : Nat} {c : UInt8} (h : bs[i]? = some c) : (u8s bs)[i]? = some (.int .u8 (c.toNat : Int)) := by simp [u8s, h]
theorem u8s_take (bs : List UInt8) (k : Nat) : (u8s bs).take k = u8s (bs.take k) := by simp [u8s, List.map_take]
theorem u8s_drop (bs : List UInt8) (k : Nat) : (u8s bs).drop k = u8s (bs.drop k) := by simp [u8s, List.map_drop]
theorem u8s_set (bs : List UInt8) (k : Nat) (c : UInt8) : (u8s bs).set k (.int .u8 (c.toNat : Int)) = u8s (bs.set k c) := by simp [u8s, List.map_set]
theorem bstr_toList (bs : List UInt8) : (bstr bs).toList = bs := by
  rw [ByteArray.toList_eq]
  rfl
theorem bstr_inj {a b : List UInt8} (h : bstr a = bstr b) : a = b := by rw [← bstr_toList a, h, bstr_toList]

def isNil : Value → Bool
  | .slice none _ _ => true
  | _ => false

section
variable {P : Program} {F : Fr} {env : Env} {hs r : List SP} {dst : Option Tmp} {ty : TypeId} {pos : String} {after : Array Edge} {g : Option (Nat × Bool)} {x y c : Operand} {u v : Value} {T e t t' : TypeId} {sz n m : Nat} {xs ys : List Value}

theorem Ev.eqNil {k k' : Nat} (hx : ev env x = some v) (hy : ev env y = some (.slice none k k')) (hr : Rd F hs v sz n xs) (hu : P.underlying t = some (.slice e)) : Ev P F env hs ⟨dst, .binOp .eql t x y t', ty, pos, after, g⟩ (.bool (isNil v)) := fun _ a w ha s => by
  obtain ⟨ao, cap, rfl, _⟩ := (hr.at s).ex
  have := Lib.run_eql_slice_nil (P := P) w t e ao n cap k k' hu
  simp [execOp, ha.ev hx, ha.ev hy, eqGuard, this]
  cases ao <;> rfl
theorem Ev.neNil {k k' : Nat} (hx : ev env x = some v) (hy : ev env y = some (.slice none k k')) (hr : Rd F hs v sz n xs) (hu : P.underlying t = some (.slice e)) : Ev P F env hs ⟨dst, .binOp .neq t x y t', ty, pos, after, g⟩ (.bool (!(isNil v))) := fun _ a w ha s => by
  obtain ⟨ao, cap, rfl, _⟩ := (hr.at s).ex
  have := run_neq_slice_nil_any (P := P) w t e ao n cap k k' hu
  simp [execOp, ha.ev hx, ha.ev hy, eqGuard, this]
  cases ao <;> rfl
theorem Ev.eqPN {p : Option Addr} (hx : ev env x = some (.pointer p)) (hy : ev env y = some (.pointer none)) (hu : P.underlying t = some (.pointer e)) : Ev P F env hs ⟨dst, .binOp .eql t x y t', ty, pos, after, g⟩ (.bool p.isNone) := fun _ a w ha _ => by
  have := run_eql_pointer_nil (P := P) w t p (by simp [Program.pointee, hu])
  simp [execOp, ha.ev hx, ha.ev hy, eqGuard, this]
theorem Ev.nePN {p : Option Addr} (hx : ev env x = some (.pointer p)) (hy : ev env y = some (.pointer none)) (hu : P.underlying t = some (.pointer e)) : Ev P F env hs ⟨dst, .binOp .neq t x y t', ty, pos, after, g⟩ (.bool (!p.isNone)) := fun _ a w ha _ => by
  have := run_neq_pointer_nil (P := P) w t p (by simp [Program.pointee, hu])
  simp [execOp, ha.ev hx, ha.ev hy, eqGuard, this]
theorem Ev.eqStr {a b : List UInt8} (hx : ev env x = some (.string (bstr a))) (hy : ev env y = some (.string (bstr b))) : Ev P F env hs ⟨dst, .binOp .eql t x y t', ty, pos, after, g⟩ (.bool (decide (a = b))) := by
  have := Ev.eqS (P := P) (F := F) (hs := hs) (dst := dst) (ty := ty) (pos := pos) (after := after) (g := g) (t := t) (t' := t') hx hy
  rw [bstr_toList, bstr_toList, show (a == b) = decide (a = b) by rw [Bool.eq_iff_iff]; simp] at this
  exact this
theorem Ev.neStr {a b : List UInt8} (hx : ev env x = some (.string (bstr a))) (hy : ev env y = some (.string (bstr b))) : Ev P F env hs ⟨dst, .binOp .neq t x y t', ty, pos, after, g⟩ (.bool (!decide (a = b))) := by
  have := Ev.neS (P := P) (F := F) (hs := hs) (dst := dst) (ty := ty) (pos := pos) (after := after) (g := g) (t := t) (t' := t') hx hy
  rw [bstr_toList, bstr_toList, show (a == b) = decide (a = b) by rw [Bool.eq_iff_iff]; simp] at this
  exact this
theorem Ev.min_ {kd : IntKind} {i j : Int} {ts : Array TypeId} (hx : ev env x = some (.int kd i)) (hy : ev env y = some (.int kd j)) : Ev P F env hs ⟨dst, .call { callee := .builtin .min, args := #[x, y], argTypes := ts }, ty, pos, after, g⟩ (.int kd (min i j)) := fun _ a w ha _ => by
  have : (if j < i then j else i) = min i j := by omega
  simp [execOp, resolve, invoke, builtin, ha.ev hx, ha.ev hy, run_min_int2, this]
theorem Ev.max_ {kd : IntKind} {i j : Int} {ts : Array TypeId} (hx : ev env x = some (.int kd i)) (hy : ev env y = some (.int kd j)) : Ev P F env hs ⟨dst, .call { callee := .builtin .max, args := #[x, y], argTypes := ts }, ty, pos, after, g⟩ (.int kd (max i j)) := fun _ a w ha _ => by
  have : (if j > i then j else i) = max i j := by omega
  simp [execOp, resolve, invoke, builtin, ha.ev hx, ha.ev hy, run_max_int2, this]

/-- string(b) -/
theorem Ev.toStr {bs : List UInt8} (hx : ev env x = some v) (hr : Rd F hs v 1 n (u8s bs)) (hs' : P.underlying t = some (.slice e)) (he : P.underlying e = some (.int .u8)) (hd : P.underlying t' = some .string) :
    Ev P F env hs ⟨dst, .convert t t' x, ty, pos, after, g⟩ (.string (bstr bs)) := fun _ a w ha s => by
  have rd := hr.at s
  obtain ⟨ao, cap, rfl, hc, _, h0, hh⟩ := rd.ex
  have hl := rd.len
  rw [u8s_len, Nat.mul_one] at hl
  cases ao with
  | none =>
    obtain ⟨rfl, rfl⟩ := h0 rfl
    obtain rfl : bs = [] := List.eq_nil_of_length_eq_zero hl
    have := run_convert_bytes_nil (P := P) w t e hs' he 0 0 t' hd
    simp [execOp, ha.ev hx, this]
    rfl
  | some p =>
    have hl2 : (loadCells p n).run P w = .ok ((bs.map fun c => (c.toNat : Int)).map (Value.int .u8)).toArray w := by
      have := run_loadCells_list (P := P) w p (u8s bs) (fun j u hu => (hh p rfl j u hu).cell)
      rw [u8s_len, hl] at this
      rw [this]
      simp [u8s, Function.comp_def]
    have e2 : (convert t t' (.slice (some p) n cap)).run P w = .ok (.string (bstr bs)) w := by
      rw [run_convert_bytes_string w t t' e _ n cap hs' he hd, run_bytesToString w _ n cap _ hl2, foldl_push_bytes]
      simp only [bstr, List.map_map, Function.comp_def, Int.toNat_natCast, UInt8.ofNat_toNat, List.map_id']
      simp [ByteArray.empty, ByteArray.emptyWithCapacity]
      rfl
    simp [execOp, ha.ev hx, e2]

/-- make([]T, l, c) -/
theorem Ef.make_ {kl kc : IntKind} {l c' : Int} {ln cn : Nat} {bytes : Nat} {zs : List Value} (hx : ev env x = some (.int kl l)) (hy : ev env y = some (.int kc c')) (ei : EI P t e sz bytes zs) (el : l = (ln : Int)) (ec : c' = (cn : Int)) (hlc : ln ≤ cn)
    (hb : cn * bytes ≤ 281474976710656) (hm : cn ≤ maxLen) (hz : (madeCells zs.toArray (cn * sz)).toList = xs ++ ys) (hxl : xs.length = ln * sz) (h1 : One xs) :
    Ef P F env hs ⟨dst, .makeSlice t x y, ty, pos, after, g⟩ (fun u hs' => hs' = vec u e sz ln xs :: hs) := by
  intro _ a w ha s
  obtain ⟨i, zv, hi, hsz, hby, hzv, hzs⟩ := ei.info
  subst el ec hsz hby
  have hm' : (cn : Int) ≤ 9223372036854775807 := by simp only [maxLen] at hm; omega
  have hb' : (i.bytes : Int) * (cn : Int) ≤ 281474976710656 := by rw [← Int.natCast_mul, Nat.mul_comm]; omega
  have hr := run_make (P := P) w t e i zv ei.und hi hzv kl kc ln cn (by omega) (by omega) hb' hm'
  simp only [Int.toNat_natCast] at hr
  refine ⟨.slice (some ⟨w.heap.size, 0, none⟩) ln cn, w.alloc (.cells (madeCells zv.cells (cn * i.size)) e), _, .inl ?_, rfl, ?_⟩
  · simp only [execOp, ha.ev hx, ha.ev hy]
    simp [hr]
  · rw [hzs]
    refine s.newVec e cn xs ys hxl hlc hm ?_ h1 _ ?_
    · have := congrArg List.length hz
      simp [size_madeCells] at this
      omega
    · rw [← hz]

theorem Ef.make {kl kc : IntKind} {l c' : Int} {ln cn : Nat} {bytes : Nat} {zs : List Value} (hx : ev env x = some (.int kl l)) (hy : ev env y = some (.int kc c')) (ei : EI P t e sz bytes zs) (el : l = (ln : Int)) (ec : c' = (cn : Int)) (hlc : ln ≤ cn)
    (hb : cn * bytes ≤ 281474976710656) (hm : cn ≤ maxLen) (hz : (madeCells zs.toArray (cn * sz)).toList = xs ++ ys) (hxl : xs.length = ln * sz) (h1 : One xs) :
    Ef P F env hs ⟨dst, .makeSlice t x y, ty, pos, after, g⟩ (fun u hs' => Sl u ∧ hs' = vec u e sz ln xs :: hs) := (Ef.make_ hx hy ei el ec hlc hb hm hz hxl h1).sl

/-- .. its block known whole. -/
theorem Ef.makePt {kl kc : IntKind} {l c' : Int} {ln cn : Nat} {bytes : Nat} {zs : List Value} (hx : ev env x = some (.int kl l)) (hy : ev env y = some (.int kc c')) (ei : EI P t e sz bytes zs) (el : l = (ln : Int)) (ec : c' = (cn : Int)) (hlc : ln ≤ cn)
    (hb : cn * bytes ≤ 281474976710656) (hm : cn ≤ maxLen) (hz : (madeCells zs.toArray (cn * sz)).toList = xs) :
    Ef P F env hs ⟨dst, .makeSlice t x y, ty, pos, after, g⟩ (fun u hs' => ∃ b, u = .slice (some ⟨b, 0, none⟩) ln cn ∧ hs' = pt b e xs :: hs) := by
  intro _ a w ha s
  obtain ⟨i, zv, hi, hsz, hby, hzv, hzs⟩ := ei.info
  subst el ec hsz hby
  have hm' : (cn : Int) ≤ 9223372036854775807 := by simp only [maxLen] at hm; omega
  have hb' : (i.bytes : Int) * (cn : Int) ≤ 281474976710656 := by rw [← Int.natCast_mul, Nat.mul_comm]; omega
  have hr := run_make (P := P) w t e i zv ei.und hi hzv kl kc ln cn (by omega) (by omega) hb' hm'
  simp only [Int.toNat_natCast] at hr
  refine ⟨.slice (some ⟨w.heap.size, 0, none⟩) ln cn, w.alloc (.cells (madeCells zv.cells (cn * i.size)) e), _, .inl ?_, ⟨_, rfl, rfl⟩, ?_⟩
  · simp only [execOp, ha.ev hx, ha.ev hy]
    simp [hr]
  · have := s.newPt e xs
    rw [← hz] at this
    rw [hzs, ← hz]
    simpa using this

theorem madeCells_one (z : Value) (n : Nat) : (madeCells #[z] n).toList = List.replicate n z := toList_madeCells_one z n
theorem madeCells_rep (z : Value) (k n : Nat) (hk : 0 < k) : (madeCells (List.replicate k z).toArray n).toList = List.replicate n z := by
  apply List.ext_getElem
  · simp [size_madeCells]
  · intro i h1 h2
    simp only [madeCells, Array.toList_map, List.getElem_map, List.getElem_replicate]
    have : i % (List.replicate k z).toArray.size < (List.replicate k z).toArray.size := by simp; exact Nat.mod_lt _ hk
    simp only [Array.toList_range, List.getElem_range]
    rw [getElem!_pos (List.replicate k z).toArray _ this]
    simp

/-- A slice's literal. -/
theorem Ef.buildSlice {parts : Array (Nat × Operand)} {vs : List Value} {ln bytes : Nat} {zs : List Value} (ei : EI P t e sz bytes zs) (hp : evs env (parts.toList.map (·.2)) = some vs)
    (hln : Nat.ble (ln * sz) 1000 = true) (hln2 : Nat.ble ln 1000 = true) (hf : Instr.fill (fun i => some (i * sz, sz)) (if ln * sz = 0 then #[] else ((Array.range (ln * sz)).map fun q => zs.toArray[q % zs.toArray.size]!)) ((parts.toList.map (·.1)).zip vs) = some xs.toArray)
    (hxl : xs.length = ln * sz) (h1 : One xs) : Ef P F env hs ⟨dst, .buildSlice t ln parts, ty, pos, after, g⟩ (fun u hs' => hs' = vec u e sz ln xs :: hs) := by
  intro _ a w ha s
  obtain ⟨i, zv, hi, hsz, hby, hzv, hzs⟩ := ei.info
  subst hsz hby
  have hle := Nat.le_of_ble_eq_true hln
  have hlm : ¬ (16777216 < ln * i.size) := by omega
  refine ⟨.slice (some ⟨w.heap.size, 0, none⟩) ln ln, w.alloc (.cells xs.toArray e), _, .inl ?_, rfl, ?_⟩
  · have e1 : (parts.map fun (i, x) => (i, a.eval x)) = ((parts.toList.map (·.1)).zip vs).toArray := by
      rw [← ha.evs hp]
      apply Array.ext'
      simp only [Array.toList_map, List.map_map]
      induction parts.toList with
      | nil => rfl
      | cons p r ih => simp [ih]
    by_cases h0 : ln * i.size = 0
    · rw [if_pos h0] at hf
      simp [execOp, e1, Instr.buildSlice, run_underlying ei.und, sizeOf, typeInfo, hi, h0, Array.range_zero', hf, newRow]
    · rw [if_neg h0] at hf
      have hf' : Instr.fill (fun j => some (j * i.size, i.size)) ((Array.range (ln * i.size)).map fun x => zv.cells[x % zv.cells.size]!) ((parts.toList.map (·.1)).zip vs) = some xs.toArray := by rw [hzs]; exact hf
      simp [execOp, e1, Instr.buildSlice, run_underlying ei.und, sizeOf, typeInfo, hi, hlm, zeroValue, hzv, hf', newRow, h0]
  · have hln' := Nat.le_of_ble_eq_true hln2
    exact s.newVec e ln xs [] hxl (Nat.le_refl _) (by simp only [maxLen]; omega) (by simp [hxl]) h1 _ (by simp)

/-- copy, into a row of a block. -/
theorem Ef.copy {b o dn dc cn : Nat} {cs cs' : List Value} {s' : Value} {t1 : TypeId} (hx : ev env x = some (.slice (some ⟨b, o, none⟩) dn dc)) (hy : ev env y = some s') (hk : TakeP (pt b T cs) hs r) (hr : Rd F hs s' sz m ys)
    (hu : ∀ w, (underlying t).run P w = .ok (.slice e) w) (hz : ∀ w, (sizeOf e).run P w = .ok sz w) (hcn : min m dn = cn) (hfit : o + cn * sz ≤ cs.length)
    (hc : cs.take o ++ ys.take (cn * sz) ++ cs.drop (o + cn * sz) = cs') : Ef P F env hs ⟨dst, .call { callee := .builtin .copy, args := #[x, y], argTypes := #[t, t1] }, ty, pos, after, g⟩ (fun u hs' => u = .int .i64 cn ∧ hs' = pt b T cs' :: r) := by
  intro _ a w ha s
  have rd := hr.at s
  obtain ⟨ao, cap, rfl, hcap, _, h0, hh⟩ := rd.ex
  have hl := rd.len
  have hle : cn * sz ≤ m * sz := Nat.mul_le_mul_right _ (by omega)
  have hlen : (ys.take (cn * sz)).length = cn * sz := by rw [List.length_take, hl, Nat.min_eq_left hle]
  have hf : (Builtin.firstCells sz cn (.slice ao m cap)).run P w = .ok (ys.take (cn * sz)).toArray w := by
    cases ao with
    | none =>
      obtain ⟨rfl, rfl⟩ := h0 rfl
      obtain rfl : ys = [] := List.eq_nil_of_length_eq_zero (by simpa using hl)
      simp [Builtin.firstCells]
    | some p =>
      exact run_firstCells_some (P := P) w sz cn p m cap (ys.take (cn * sz)) hlen (fun j u hu => (hh p rfl j u (by rw [List.getElem?_take] at hu; split at hu <;> first | exact hu | cases hu)).cell)
  obtain ⟨w', hst, hsat⟩ := storeCells_run (P := P) (o := o) (vs := ys.take (cn * sz)) (s.ent hk.ent) (by rw [hlen]; exact hfit) (rd.one.take _)
  rw [hlen, hc] at hsat
  refine ⟨_, w', _, .inl ?_, ⟨rfl, rfl⟩, hsat⟩
  have hcn' : Nat.min m dn = cn := hcn
  simp only [execOp, resolve]
  simp [ha.ev hx, ha.ev hy, invoke, builtin, Builtin.copy_, hu, hz, Builtin.lenOf, hcn', hf, hst, goInt]

/-- clear, of a row of a block. -/
theorem Ef.clear {b o cn dc : Nat} {cs cs' zs : List Value} {bytes : Nat} (hx : ev env x = some (.slice (some ⟨b, o, none⟩) cn dc)) (hk : TakeP (pt b T cs) hs r) (ei : EI P t e sz bytes zs)
    (hz : (Builtin.zeroCells zs.toArray cn).toList = ys) (h1 : One ys) (hfit : o + ys.length ≤ cs.length) (hc : cs.take o ++ ys ++ cs.drop (o + ys.length) = cs') :
    Ef P F env hs ⟨dst, .call { callee := .builtin .clear, args := #[x], argTypes := #[t] }, ty, pos, after, g⟩ (fun u hs' => u = .tuple #[] ∧ hs' = pt b T cs' :: r) := by
  intro _ a w ha s
  obtain ⟨i, zv, hi, hsz, hby, hzv, hzs⟩ := ei.info
  obtain ⟨w', hst, hsat⟩ := storeCells_run (P := P) (o := o) (vs := ys) (s.ent hk.ent) hfit h1
  rw [hc] at hsat
  by_cases h0 : cn = 0
  · subst h0
    have : ys = [] := by rw [← hz]; simp [Builtin.zeroCells]
    subst this
    have hcs : cs' = cs := by rw [← hc]; simp
    subst hcs
    refine ⟨_, w, _, .inl ?_, ⟨rfl, rfl⟩, s.ent hk.ent⟩
    simp only [execOp, resolve]
    simp [ha.ev hx, invoke, builtin, Builtin.clear_, run_underlying ei.und]
  · refine ⟨_, w', _, .inl ?_, ⟨rfl, rfl⟩, hsat⟩
    have hz' : (Builtin.zeroCells zv.cells cn).toList = ys := by rw [hzs]; exact hz
    obtain ⟨k, rfl⟩ : ∃ k, cn = k + 1 := ⟨cn - 1, by omega⟩
    simp only [execOp, resolve]
    simp [ha.ev hx, invoke, builtin, Builtin.clear_, run_underlying ei.und, zeroValue, typeInfo, hi, hzv, hz', hst]

/-- A store into a cell of a slice that is owned. -/
theorem Ef.store_elem {off : Nat} (hx : ev env x = some (Value.elem v off)) (hy : ev env y = some u) (hk : TakeP (vec v T sz n xs) hs r) (hl : ∀ w, (sizeOf t).run P w = .ok 1 w) (ho : off < xs.length) (h1 : u.oneCell' = true) :
    Ef P F env hs ⟨dst, .store t x y, ty, pos, after, g⟩ (fun z hs' => z = undef ∧ hs' = vec v T sz n (xs.set off u) :: r) := by
  intro _ a w ha s
  have s1 := s.ent hk.ent
  obtain ⟨z, d, uu, z1, z2, hd, rfl, hz1, hz2⟩ := s1.heap
  cases hz1 with
  | nil _ _ hxs => subst hxs; simp at ho
  | mk b o cap pre post hv hpo hxl hc hm hs' hone =>
    subst hv
    have hlen : o + off < (pre ++ xs ++ post).length := by simp only [List.length_append]; omega
    have sp : Sat F (pt b T (pre ++ xs ++ post) :: r) w := ⟨s1.os, s1.out, s1.tape, _, d, uu, _, z2, hd, rfl, .mk, hz2⟩
    obtain ⟨w', hr, hs2⟩ := storeCells_run (P := P) (o := o + off) (vs := [u]) sp (by simp only [List.length_cons, List.length_nil]; omega) (by simpa using h1)
    refine ⟨undef, w', _, .inr ⟨?_, rfl⟩, ⟨rfl, rfl⟩, hs2.ent (Ent.one fun q hq => ?_)⟩
    · have hcu : u.cells = #[u] := by cases u <;> first | rfl | cases h1
      simp [execOp, ha.ev hx, ha.ev hy, Value.elem, Instr.storeAt, Instr.sureAddr, storeVar, hcu, hl, Addr.add_lit, hr]
    · cases hq
      have e1 : (pre ++ xs ++ post).take (o + off) ++ [u] ++ (pre ++ xs ++ post).drop (o + off + [u].length) = pre ++ xs.set off u ++ post := by
        rw [show (pre ++ xs ++ post).take (o + off) ++ [u] ++ (pre ++ xs ++ post).drop (o + off + [u].length) = (pre ++ xs ++ post).set (o + off) u by
          rw [List.set_eq_take_append_cons_drop, if_pos hlen]; simp]
        rw [List.append_assoc, List.set_append_right _ _ (by omega), List.set_append_left _ _ (by omega), ← List.append_assoc, hpo, Nat.add_sub_cancel_left]
      rw [e1]
      exact vec.mk b o cap pre post rfl hpo (by simpa using hxl) hc hm (by simpa using hs') (hone.set h1)
end
end Go.Proofs.Ytjlimnckdblkhaa
