/- The rules for operations that only compute or read. No condition. -/
import Derived.Test.YtjlimnckdblkhaaL2
namespace Go.Proofs.Ytjlimnckdblkhaa
open Go

/-- The operation yields v and leaves the world as it is. -/
def Ev (P : Program) (F : Fr) (env : Env) (hs : List SP) (o : Oper) (v : Value) : Prop :=
  ∀ n a w, Agree n env a → Sat F hs w → (execOp a.eval o).run P w = .ok (.value v) w

section
variable {P : Program} {n : Nat} {F : Fr} {k : Kont} {env : Env} {hs : List SP} {ops : Array Oper} {l : List Oper} {o : Oper}

theorem Ops.st {v : Value} (h : Ev P F env hs o v) (hg : o.guard = none) {d : Nat} (hdst : o.dst = some d) (hd : Nat.blt d n = true) (hk : Ops P n F k ops l ((d, v) :: env) hs) : Ops P n F k ops (o :: l) env hs := by
  intro a w s
  refine wpList_plain hg fun K hK => ?_
  unfold Oper.wp
  rw [h n a w s.ag s.sat]
  exact hK _ _ (hk _ _ ⟨s.ag.putS v hdst hd, s.sat⟩)

theorem wanted_of {env : Env} {a : Act} (ha : Agree n env a) {j t : Nat} {b c : Bool} (hg : o.guard = some (j, b)) (hj : (ops[j]?).bind (·.dst) = some t) (ht : Env.get env t = some (.bool c)) :
    Region.wanted o (yielded ops a.tmps) = decide (c = b) := by
  have h1 := ha.at_ t _ ht
  have hy : yielded ops a.tmps j = some c := by
    unfold yielded
    rw [hj]
    simp [h1]
  simp only [Region.wanted, hg, hy]
  cases c <;> cases b <;> rfl

/-- An operation whose guard says yes. -/
theorem Ops.stG {v : Value} {j t : Nat} {b c : Bool} (hg : o.guard = some (j, b)) (hj : (ops[j]?).bind (·.dst) = some t) (ht : Env.get env t = some (.bool c)) (hc : c = b)
    (h : Ev P F env hs o v) {d : Nat} (hdst : o.dst = some d) (hd : Nat.blt d n = true) (hk : Ops P n F k ops l ((d, v) :: env) hs) : Ops P n F k ops (o :: l) env hs := by
  intro a w s
  refine wpList_step fun K hK => ?_
  rw [if_pos (by rw [wanted_of s.ag hg hj ht]; simpa using hc)]
  unfold Oper.wp
  rw [h n a w s.ag s.sat]
  exact hK _ _ (hk _ _ ⟨s.ag.putS v hdst hd, s.sat⟩)

/-- .. no. -/
theorem Ops.skipG {j t : Nat} {b c : Bool} (hg : o.guard = some (j, b)) (hj : (ops[j]?).bind (·.dst) = some t) (ht : Env.get env t = some (.bool c)) (hc : c = !b)
    {d : Nat} (hdst : o.dst = some d) (hd : Nat.blt d n = true) (hk : Ops P n F k ops l ((d, undef) :: env) hs) : Ops P n F k ops (o :: l) env hs := by
  intro a w s
  refine wpList_step fun K hK => ?_
  rw [if_neg (by rw [wanted_of s.ag hg hj ht]; cases b <;> simp_all)]
  exact hK _ _ (hk _ _ ⟨s.ag.putS undef hdst hd, s.sat⟩)

theorem wanted_undef {env : Env} {a : Act} (ha : Agree n env a) {j t : Nat} {b : Bool} (hg : o.guard = some (j, b)) (hj : (ops[j]?).bind (·.dst) = some t) (ht : Env.get env t = some undef) :
    Region.wanted o (yielded ops a.tmps) = false := by
  have h1 := ha.at_ t _ ht
  have hy : yielded ops a.tmps j = none := by
    unfold yielded
    rw [hj]
    simp [h1, undef]
  simp only [Region.wanted, hg, hy]
  rfl
/-- An operation whose guard was passed over itself. -/
theorem Ops.skipU {j t : Nat} {b : Bool} (hg : o.guard = some (j, b)) (hj : (ops[j]?).bind (·.dst) = some t) (ht : Env.get env t = some undef)
    {d : Nat} (hdst : o.dst = some d) (hd : Nat.blt d n = true) (hk : Ops P n F k ops l ((d, undef) :: env) hs) : Ops P n F k ops (o :: l) env hs := by
  intro a w s
  refine wpList_step fun K hK => ?_
  rw [if_neg (by rw [wanted_undef s.ag hg hj ht]; simp)]
  exact hK _ _ (hk _ _ ⟨s.ag.putS undef hdst hd, s.sat⟩)
theorem Ops.cases {p : Prop} (h : p ∨ ¬ p) (h1 : p → Ops P n F k ops l env hs) (h2 : ¬ p → Ops P n F k ops l env hs) : Ops P n F k ops l env hs := h.elim h1 h2

/-! ### Operations without memory -/
variable {dst : Option Tmp} {ty : TypeId} {pos : String} {after : Array Edge} {g : Option (Nat × Bool)} {x y c : Operand} {u v : Value}

theorem Ev.move (hx : ev env x = some v) : Ev P F env hs ⟨dst, .move x, ty, pos, after, g⟩ v := fun n a w ha _ => by simp [execOp, ha.ev hx]
theorem Ev.assign (hx : ev env x = some v) : Ev P F env hs ⟨dst, .assign x, ty, pos, after, g⟩ v := fun n a w ha _ => by simp [execOp, ha.ev hx]
theorem Ev.pickT {b : Bool} (hc : ev env c = some (.bool b)) (hb : b = true) (hx : ev env x = some v) : Ev P F env hs ⟨dst, .pick c x y, ty, pos, after, g⟩ v :=
  fun n a w ha _ => by simp [execOp, ha.ev hc, ha.ev hx, hb, asBool]
theorem Ev.pickF {b : Bool} (hc : ev env c = some (.bool b)) (hb : b = false) (hy : ev env y = some v) : Ev P F env hs ⟨dst, .pick c x y, ty, pos, after, g⟩ v :=
  fun n a w ha _ => by simp [execOp, ha.ev hc, ha.ev hy, hb, asBool]
theorem Ev.nilCheck {p : Addr} (hx : ev env x = some (.pointer (some p))) : Ev P F env hs ⟨dst, .nilCheck x, ty, pos, after, g⟩ (.pointer (some p)) :=
  fun n a w ha _ => by simp [execOp, ha.ev hx]
theorem Ev.nilCheckF {f : FuncId} {fi ca : Array Value} (hx : ev env x = some (.func (.func f) fi ca)) : Ev P F env hs ⟨dst, .nilCheck x, ty, pos, after, g⟩ (.func (.func f) fi ca) :=
  fun n a w ha _ => by simp [execOp, ha.ev hx]

section ints
variable {t t' : TypeId} {kd : IntKind} {i j r : Int}
theorem Ev.add (hx : ev env x = some (.int kd i)) (hy : ev env y = some (.int kd j)) (h : kd.wrap (i + j) = r) : Ev P F env hs ⟨dst, .binOp .add t x y t', ty, pos, after, g⟩ (.int kd r) :=
  fun n a w ha _ => by simp [execOp, ha.ev hx, ha.ev hy, binOp, eqGuard, Op.intArith, h]
theorem Ev.sub (hx : ev env x = some (.int kd i)) (hy : ev env y = some (.int kd j)) (h : kd.wrap (i - j) = r) : Ev P F env hs ⟨dst, .binOp .sub t x y t', ty, pos, after, g⟩ (.int kd r) :=
  fun n a w ha _ => by simp [execOp, ha.ev hx, ha.ev hy, binOp, eqGuard, Op.intArith, h]
theorem Ev.mul (hx : ev env x = some (.int kd i)) (hy : ev env y = some (.int kd j)) (h : kd.wrap (i * j) = r) : Ev P F env hs ⟨dst, .binOp .mul t x y t', ty, pos, after, g⟩ (.int kd r) :=
  fun n a w ha _ => by simp [execOp, ha.ev hx, ha.ev hy, binOp, eqGuard, Op.intArith, h]
theorem Ev.quo (hx : ev env x = some (.int kd i)) (hy : ev env y = some (.int kd j)) (h0 : j ≠ 0) (h : kd.wrap (i.tdiv j) = r) : Ev P F env hs ⟨dst, .binOp .quo t x y t', ty, pos, after, g⟩ (.int kd r) :=
  fun n a w ha _ => by simp [execOp, ha.ev hx, ha.ev hy, binOp, eqGuard, Op.intDiv, h0, h]
theorem Ev.rem (hx : ev env x = some (.int kd i)) (hy : ev env y = some (.int kd j)) (h0 : j ≠ 0) (h : i.tmod j = r) : Ev P F env hs ⟨dst, .binOp .rem t x y t', ty, pos, after, g⟩ (.int kd r) :=
  fun n a w ha _ => by simp [execOp, ha.ev hx, ha.ev hy, binOp, eqGuard, Op.intDiv, h0, h]
theorem Ev.and (hx : ev env x = some (.int kd i)) (hy : ev env y = some (.int kd j)) (h : bits .and kd i j = r) : Ev P F env hs ⟨dst, .binOp .and t x y t', ty, pos, after, g⟩ (.int kd r) :=
  fun n a w ha _ => by simp [execOp, ha.ev hx, ha.ev hy, binOp, eqGuard, intBits_and, h]
theorem Ev.or (hx : ev env x = some (.int kd i)) (hy : ev env y = some (.int kd j)) (h : bits .or kd i j = r) : Ev P F env hs ⟨dst, .binOp .or t x y t', ty, pos, after, g⟩ (.int kd r) :=
  fun n a w ha _ => by simp [execOp, ha.ev hx, ha.ev hy, binOp, eqGuard, intBits_or, h]
theorem Ev.xor (hx : ev env x = some (.int kd i)) (hy : ev env y = some (.int kd j)) (h : bits .xor kd i j = r) : Ev P F env hs ⟨dst, .binOp .xor t x y t', ty, pos, after, g⟩ (.int kd r) :=
  fun n a w ha _ => by simp [execOp, ha.ev hx, ha.ev hy, binOp, eqGuard, intBits_xor, h]
theorem Ev.not_ (hx : ev env x = some (.int kd i)) (h : bits .xor kd (if kd.signed then -1 else kd.max) i = r) : Ev P F env hs ⟨dst, .unOp .xor t x, ty, pos, after, g⟩ (.int kd r) :=
  fun n a w ha _ => by
    have : (Op.unary .xor (.int kd i)).run P w = .ok (.int kd r) w := by
      simp only [Op.unary, intBits_xor, h]; rfl
    simp [execOp, ha.ev hx, this]
theorem Ev.shl {kd' : IntKind} (hx : ev env x = some (.int kd i)) (hy : ev env y = some (.int kd' j)) (h0 : 0 ≤ j) (h : kd.wrap (i * 2 ^ (min j.toNat kd.bits)) = r) : Ev P F env hs ⟨dst, .binOp .shl t x y t', ty, pos, after, g⟩ (.int kd r) :=
  fun n a w ha _ => by
    have h1 : ¬ j < 0 := by omega
    simp [execOp, ha.ev hx, ha.ev hy, binOp, eqGuard, Op.shift, h1, h]
theorem Ev.shr {kd' : IntKind} (hx : ev env x = some (.int kd i)) (hy : ev env y = some (.int kd' j)) (h0 : 0 ≤ j) (h : i.fdiv (2 ^ (min j.toNat kd.bits)) = r) : Ev P F env hs ⟨dst, .binOp .shr t x y t', ty, pos, after, g⟩ (.int kd r) :=
  fun n a w ha _ => by
    have h1 : ¬ j < 0 := by omega
    simp [execOp, ha.ev hx, ha.ev hy, binOp, eqGuard, Op.shift, h1, h]
theorem Ev.eql (hx : ev env x = some (.int kd i)) (hy : ev env y = some (.int kd j)) : Ev P F env hs ⟨dst, .binOp .eql t x y t', ty, pos, after, g⟩ (.bool (decide (i = j))) :=
  fun n a w ha _ => by simp [execOp, ha.ev hx, ha.ev hy, binOp, eqGuard, Op.intCmp] <;> rfl
theorem Ev.neq (hx : ev env x = some (.int kd i)) (hy : ev env y = some (.int kd j)) : Ev P F env hs ⟨dst, .binOp .neq t x y t', ty, pos, after, g⟩ (.bool (decide (i ≠ j))) :=
  fun n a w ha _ => by simp [execOp, ha.ev hx, ha.ev hy, binOp, eqGuard, Op.intCmp] <;> rfl
theorem Ev.lss (hx : ev env x = some (.int kd i)) (hy : ev env y = some (.int kd j)) : Ev P F env hs ⟨dst, .binOp .lss t x y t', ty, pos, after, g⟩ (.bool (decide (i < j))) :=
  fun n a w ha _ => by simp [execOp, ha.ev hx, ha.ev hy, binOp, eqGuard, Op.intCmp]
theorem Ev.leq (hx : ev env x = some (.int kd i)) (hy : ev env y = some (.int kd j)) : Ev P F env hs ⟨dst, .binOp .leq t x y t', ty, pos, after, g⟩ (.bool (decide (i ≤ j))) :=
  fun n a w ha _ => by simp [execOp, ha.ev hx, ha.ev hy, binOp, eqGuard, Op.intCmp]
theorem Ev.gtr (hx : ev env x = some (.int kd i)) (hy : ev env y = some (.int kd j)) : Ev P F env hs ⟨dst, .binOp .gtr t x y t', ty, pos, after, g⟩ (.bool (decide (j < i))) :=
  fun n a w ha _ => by simp [execOp, ha.ev hx, ha.ev hy, binOp, eqGuard, Op.intCmp]
theorem Ev.geq (hx : ev env x = some (.int kd i)) (hy : ev env y = some (.int kd j)) : Ev P F env hs ⟨dst, .binOp .geq t x y t', ty, pos, after, g⟩ (.bool (decide (j ≤ i))) :=
  fun n a w ha _ => by simp [execOp, ha.ev hx, ha.ev hy, binOp, eqGuard, Op.intCmp]
theorem Ev.conv {d : TypeDesc} (hx : ev env x = some (.int kd i)) {kd' : IntKind} (hs' : ∀ w, (underlying t).run P w = .ok d w) (hd : ∀ w, (underlying t').run P w = .ok (.int kd') w) (h : kd'.wrap i = r) :
    Ev P F env hs ⟨dst, .convert t t' x, ty, pos, after, g⟩ (.int kd' r) :=
  fun n a w ha _ => by simp [execOp, ha.ev hx, convert, hs', hd, Conv.intToInt, h]
end ints

theorem Ev.notB {b : Bool} {t : TypeId} (hx : ev env x = some (.bool b)) : Ev P F env hs ⟨dst, .unOp .not t x, ty, pos, after, g⟩ (.bool (!b)) := fun n a w ha _ => by simp [execOp, ha.ev hx, Op.unary]
theorem Ev.eqB {b d : Bool} {t t' : TypeId} (hx : ev env x = some (.bool b)) (hy : ev env y = some (.bool d)) (hu : P.underlying t = some .bool) : Ev P F env hs ⟨dst, .binOp .eql t x y t', ty, pos, after, g⟩ (.bool (b == d)) :=
  fun n a w ha _ => by simp [execOp, ha.ev hx, ha.ev hy, eqGuard, run_eql_bool w t b d hu]
theorem Ev.neB {b d : Bool} {t t' : TypeId} (hx : ev env x = some (.bool b)) (hy : ev env y = some (.bool d)) (hu : P.underlying t = some .bool) : Ev P F env hs ⟨dst, .binOp .neq t x y t', ty, pos, after, g⟩ (.bool (!(b == d))) :=
  fun n a w ha _ => by simp [execOp, ha.ev hx, ha.ev hy, eqGuard, run_neq_bool w t b d hu]
theorem Ev.eqS {s s' : ByteArray} {t t' : TypeId} (hx : ev env x = some (.string s)) (hy : ev env y = some (.string s')) : Ev P F env hs ⟨dst, .binOp .eql t x y t', ty, pos, after, g⟩ (.bool (s.toList == s'.toList)) :=
  fun n a w ha _ => by simp [execOp, ha.ev hx, ha.ev hy, eqGuard, binOp, Op.stringOp]
theorem Ev.neS {s s' : ByteArray} {t t' : TypeId} (hx : ev env x = some (.string s)) (hy : ev env y = some (.string s')) : Ev P F env hs ⟨dst, .binOp .neq t x y t', ty, pos, after, g⟩ (.bool (!(s.toList == s'.toList))) :=
  fun n a w ha _ => by simp [execOp, ha.ev hx, ha.ev hy, eqGuard, binOp, Op.stringOp]
theorem Ev.extract {vs : Array Value} {i : Nat} (hx : ev env x = some (.tuple vs)) (h : vs[i]? = some v) : Ev P F env hs ⟨dst, .extract x i, ty, pos, after, g⟩ v := fun n a w ha _ => by simp [execOp, ha.ev hx, Instr.extract, h]
theorem Ev.makeFunc {fn : Fn} {fi ca : Array Operand} {vs us : List Value} (h1 : evs env fi.toList = some vs) (h2 : evs env ca.toList = some us) : Ev P F env hs ⟨dst, .makeFunc fn fi ca, ty, pos, after, g⟩ (.func fn vs.toArray us.toArray) :=
  fun n a w ha _ => by
    have e1 : fi.map a.eval = vs.toArray := by rw [← ha.evs h1]; exact Array.ext' (by simp)
    have e2 : ca.map a.eval = us.toArray := by rw [← ha.evs h2]; exact Array.ext' (by simp)
    simp [execOp, Instr.makeFunc, e1, e2]

/-- Where a field lies in its struct. -/
def FA (P : Program) (s : TypeId) (f off : Nat) : Prop := ∀ (a : Addr) (w : World), (Instr.fieldAt s (.pointer (some a)) f).run P w = .ok (.pointer (some (a.add off))) w
theorem FA.mk {s : TypeId} {f off z : Nat} {fs : Array Field} {fd : Field} (h1 : ∀ w, (underlying s).run P w = .ok (.struct fs) w) (h2 : fs[f]? = some fd) (h3 : ∀ w, (sizeOf fd.type).run P w = .ok z w) (hz : z ≠ 0) (ho : fd.offset = off) : FA P s f off := by
  intro a w
  simp [Instr.fieldAt, h1, h2, Instr.sureAddr, fieldPlace, h3, hz, ho]
theorem Ev.fieldAddr {s : TypeId} {f off b o : Nat} (hx : ev env x = some (.pointer (some ⟨b, o, none⟩))) (h : FA P s f off) : Ev P F env hs ⟨dst, .fieldAddr s x f, ty, pos, after, g⟩ (.pointer (some ⟨b, o + off, none⟩)) :=
  fun n a w ha _ => by simp [execOp, ha.ev hx, h _ w, Addr.add_lit]

/-! ### Aggregates by value -/
/-- The part of an aggregate. -/
def FP (P : Program) (s : TypeId) (f off : Nat) : Prop := ∀ (cs : Array Value) (v : Value) (w : World), cs[off]? = some v → (Instr.field s (.agg cs) f).run P w = .ok v w
theorem FP.mk {s : TypeId} {f off : Nat} {fs : Array Field} {fd : Field} (h1 : ∀ w, (underlying s).run P w = .ok (.struct fs) w) (h2 : fs[f]? = some fd) (h3 : ∀ w, (isAgg fd.type).run P w = .ok false w) (ho : fd.offset = off) : FP P s f off := by
  intro cs v w hv
  simp [Instr.field, h1, h2, asAgg, part, h3, ho, hv]
theorem Ev.field {s : TypeId} {f off : Nat} {cs : Array Value} (hx : ev env x = some (.agg cs)) (h : FP P s f off) (hv : cs[off]? = some v) : Ev P F env hs ⟨dst, .field s x f, ty, pos, after, g⟩ v :=
  fun n a w ha _ => by simp [execOp, ha.ev hx, h cs v w hv]
def FPA (P : Program) (s : TypeId) (f off len : Nat) : Prop := ∀ (cs : Array Value) (w : World), (Instr.field s (.agg cs) f).run P w = .ok (.agg (cs.extract off (off + len))) w
theorem FPA.mk {s : TypeId} {f off len : Nat} {fs : Array Field} {fd : Field} (h1 : ∀ w, (underlying s).run P w = .ok (.struct fs) w) (h2 : fs[f]? = some fd) (h3 : ∀ w, (isAgg fd.type).run P w = .ok true w) (h4 : ∀ w, (sizeOf fd.type).run P w = .ok len w) (ho : fd.offset = off) : FPA P s f off len := by
  intro cs w
  simp [Instr.field, h1, h2, asAgg, part, h3, h4, ho]
theorem Ev.fieldA {s : TypeId} {f off len : Nat} {cs : Array Value} (hx : ev env x = some (.agg cs)) (h : FPA P s f off len) (hv : .agg (cs.extract off (off + len)) = v) : Ev P F env hs ⟨dst, .field s x f, ty, pos, after, g⟩ v :=
  fun n a w ha _ => by simp [execOp, ha.ev hx, h cs w, hv]
/-- A struct or array made of its parts. -/
theorem Ev.build {t : TypeId} {parts : Array (Nat × Operand)} {vs : List Value} {z : Value} (hp : evs env (parts.toList.map (·.2)) = some vs)
    (h : ∀ w, (Instr.build t ((parts.toList.map (·.1)).zip vs).toArray).run P w = .ok z w) : Ev P F env hs ⟨dst, .build t parts, ty, pos, after, g⟩ z := fun n a w ha _ => by
  have e : (parts.map fun p => (p.1, a.eval p.2)) = ((parts.toList.map (·.1)).zip vs).toArray := by
    rw [← ha.evs hp]
    apply Array.ext'
    simp only [Array.toList_map, List.map_map]
    induction parts.toList with
    | nil => rfl
    | cons p r ih => simp [ih]
  simp only [execOp]
  have : (parts.map fun (i, x) => (i, a.eval x)) = ((parts.toList.map (·.1)).zip vs).toArray := e
  simp [this, h w]

/-! ### Memory that is read -/
/-- A cell of a piece of a heap. -/
def HCell (h : Hp) (a : Addr) (u : Value) : Prop := a.spot = none ∧ ∃ cs T fz, h a.block = some (.cells cs T fz) ∧ cs[a.off]? = some u
theorem HCell.mono {h h' : Hp} {a : Addr} {u : Value} (x : HCell h a u) (l : Hp.le h h') : HCell h' a u := let ⟨s, cs, T, fz, p, q⟩ := x; ⟨s, cs, T, fz, l _ _ p, q⟩
theorem HCell.cell {w : World} {a : Addr} {u : Value} (x : HCell (hp w) a u) : w.cell? a = some u := by
  obtain ⟨s, cs, T, fz, p, q⟩ := x
  unfold hp at p
  simp [World.cell?, p, s, q]

/-- In every world of these states the cell holds u. -/
def CellAt (F : Fr) (hs : List SP) (a : Addr) (u : Value) : Prop := ∀ w, Sat F hs w → HCell (hp w) a u

theorem Ev.load {t : TypeId} {p : Addr} (hx : ev env x = some (.pointer (some p))) (ht : ∀ w, (isAgg t).run P w = .ok false w) (hc : CellAt F hs p v) : Ev P F env hs ⟨dst, .load t x, ty, pos, after, g⟩ v :=
  fun n a w ha hs' => by simp [execOp, ha.ev hx, Instr.loadAt, Instr.sureAddr, loadVar, ht, (hc w hs').cell]
theorem Ev.loadA {t : TypeId} {p : Addr} {cs : List Value} {len : Nat} (hx : ev env x = some (.pointer (some p))) (ht : ∀ w, (isAgg t).run P w = .ok true w) (hl : ∀ w, (sizeOf t).run P w = .ok len w)
    (hn : cs.length = len) (hc : ∀ j u, cs[j]? = some u → CellAt F hs (p.add j) u) : Ev P F env hs ⟨dst, .load t x, ty, pos, after, g⟩ (.agg cs.toArray) :=
  fun n a w ha hs' => by
    have := run_loadCells_list (P := P) w p cs (fun j u hj => (hc j u hj w hs').cell)
    rw [hn] at this
    simp [execOp, ha.ev hx, Instr.loadAt, Instr.sureAddr, loadVar, ht, hl, this]

/-- A block of cells, owned whole. -/
inductive pt (b : Nat) (T : TypeId) (cs : List Value) : Hp → Prop
  | mk : pt b T cs (Hp.one b (.cells cs.toArray T (0, 0)))
theorem pt.cell {b : Nat} {T : TypeId} {cs : List Value} {h : Hp} (x : pt b T cs h) {o : Nat} {u : Value} (hu : cs[o]? = some u) : HCell h ⟨b, o, none⟩ u := by
  cases x
  exact ⟨rfl, cs.toArray, T, (0, 0), Hp.one_self _ _, by simpa using hu⟩
theorem pt.blk {b : Nat} {T : TypeId} {cs : List Value} {h : Hp} : pt b T cs h ↔ Go.Proofs.Ytjlimnckdblkhaa.blk b (.cells cs.toArray T (0, 0)) h := ⟨fun ⟨⟩ => .mk, fun ⟨⟩ => .mk⟩

theorem CellAt.of {P' : SP} {r : List SP} {p : Addr} (hk : TakeP P' hs r) (h : ∀ h', P' h' → HCell h' p u) : CellAt F hs p u := fun w s => by
  obtain ⟨x, hx, hl⟩ := (s.ent hk.ent).le
  exact (h x hx).mono hl
theorem CellAt.pt {b o : Nat} {T : TypeId} {cs : List Value} {r : List SP} (hk : TakeP (pt b T cs) hs r) (hu : cs[o]? = some u) : CellAt F hs ⟨b, o, none⟩ u := .of hk fun _ x => x.cell hu
theorem CellAt.ro {p : Addr} (h : HCell F.hf p u) : CellAt F hs p u := fun _ s => h.mono s.le_hf

theorem Ev.loadP {t : TypeId} {b o : Nat} {T : TypeId} {cs : List Value} {r : List SP} (hx : ev env x = some (.pointer (some ⟨b, o, none⟩))) (hk : TakeP (pt b T cs) hs r)
    (ht : ∀ w, (isAgg t).run P w = .ok false w) (hu : cs[o]? = some v) : Ev P F env hs ⟨dst, .load t x, ty, pos, after, g⟩ v := Ev.load hx ht (.pt hk hu)
theorem Ev.loadPA {t : TypeId} {b o : Nat} {T : TypeId} {cs ds : List Value} {r : List SP} {len : Nat} (hx : ev env x = some (.pointer (some ⟨b, o, none⟩))) (hk : TakeP (pt b T cs) hs r)
    (ht : ∀ w, (isAgg t).run P w = .ok true w) (hl : ∀ w, (sizeOf t).run P w = .ok len w) (hd : (cs.drop o).take len = ds) (hn : ds.length = len) : Ev P F env hs ⟨dst, .load t x, ty, pos, after, g⟩ (.agg ds.toArray) :=
  Ev.loadA hx ht hl hn fun j u hj => by
    rw [Addr.add_lit]
    refine .pt hk ?_
    subst hd
    rw [List.getElem?_take] at hj
    split at hj
    · rwa [List.getElem?_drop] at hj
    · cases hj

end
end Go.Proofs.Ytjlimnckdblkhaa
