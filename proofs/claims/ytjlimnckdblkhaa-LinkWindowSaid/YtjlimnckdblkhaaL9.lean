/- Maps with integers or strings for keys: made, asked, written, shortened, cleared. No condition. -/
import Derived.Test.YtjlimnckdblkhaaL8
namespace Go.Proofs.Ytjlimnckdblkhaa
open Go

/-- Keys that are compared on the spot. -/
structure KeyOk (P : Program) (kt : TypeId) {κ : Type} [DecidableEq κ] (enc : κ → Value) : Prop where
  desc : ∃ d, P.underlying kt = some d ∧ (∀ a b, Instr.sameNow d (enc a) (enc b) = some (decide (a = b))) ∧ (∀ a, d ≠ .interface a) ∧ (∀ a b, d ≠ .array a b) ∧ (∀ a, d ≠ .struct a)
  same : ∀ a, Instr.sameBits 10000 (enc a) (enc a) = true

theorem KeyOk.int {P : Program} {kt : TypeId} {k : IntKind} (h : P.underlying kt = some (.int k)) : KeyOk P kt (Value.int k) :=
  ⟨⟨_, h, fun a b => by simp [Instr.sameNow]; rfl, by simp, by simp, by simp⟩, fun a => by simp [Instr.sameBits]⟩
theorem bytes_beq' (a b : ByteArray) : (a == b) = true ↔ a = b := by
  obtain ⟨x⟩ := a
  obtain ⟨y⟩ := b
  constructor
  · intro h
    have e : x = y := by simpa using (show (x == y) = true from h)
    rw [e]
  · intro h
    cases h
    show (x == x) = true
    simp
theorem bstr_beq (a b : List UInt8) : (bstr a == bstr b) = decide (a = b) := by
  rw [Bool.eq_iff_iff, bytes_beq']
  simp only [decide_eq_true_eq]
  exact ⟨bstr_inj, fun e => by rw [e]⟩
theorem KeyOk.str {P : Program} {kt : TypeId} (h : P.underlying kt = some .string) : KeyOk P kt (fun b : List UInt8 => .string (bstr b)) :=
  ⟨⟨_, h, fun a b => by simp [Instr.sameNow, bstr_beq], by simp, by simp, by simp⟩, fun a => by simp [Instr.sameBits, bstr_beq]⟩

section
variable {κ : Type} [DecidableEq κ]
def mget (L : List (κ × Value)) (k : κ) : Option Value := (L.find? fun e => decide (k = e.1)).map (·.2)
def mset : List (κ × Value) → κ → Value → List (κ × Value)
  | [], k, v => [(k, v)]
  | (a, u) :: r, k, v => if k = a then (k, v) :: r else (a, u) :: mset r k v
def mdel : List (κ × Value) → κ → List (κ × Value)
  | [], _ => []
  | (a, u) :: r, k => if k = a then r else (a, u) :: mdel r k
end

/-- A map's entries, in the order in which they came. -/
structure MapIs {κ : Type} (enc : κ → Value) (L : List (κ × Value)) (es : Array MapEntry) (clock : Nat) : Prop where
  list : es.toList.map (fun e => (e.key, e.val)) = L.map fun x => (enc x.1, x.2)
  born : (es.toList.map (·.born)).Pairwise (· < ·)
  lt : ∀ e ∈ es.toList, e.born < clock

theorem MapIs.nil {κ : Type} {enc : κ → Value} {clock : Nat} : MapIs enc [] #[] clock := ⟨rfl, List.Pairwise.nil, by intro e he; cases he⟩

inductive mp (r : Nat) {κ : Type} (enc : κ → Value) (L : List (κ × Value)) : Hp → Prop
  | mk (es : Array MapEntry) (clock : Nat) (h : MapIs enc L es clock) : mp r enc L (Hp.one r (.map es clock))

section
variable {P : Program} {F : Fr} {env : Env} {hs rr : List SP} {dst : Option Tmp} {ty : TypeId} {pos : String} {after : Array Edge} {g : Option (Nat × Bool)} {x y c : Operand} {u v : Value} {T e t t' kt : TypeId} {r : Nat} {κ : Type} [DecidableEq κ] {enc : κ → Value} {L : List (κ × Value)}

omit [DecidableEq κ] in
theorem Sat.mp {w : World} (s : Sat F (Go.Proofs.Ytjlimnckdblkhaa.mp r enc L :: rr) w) : ∃ es clock, MapIs enc L es clock ∧ Sat F (Go.Proofs.Ytjlimnckdblkhaa.blk r (.map es clock) :: rr) w := by
  obtain ⟨z, d, uu, z1, z2, hd, rfl, hz1, hz2⟩ := s.heap
  cases hz1 with
  | mk es clock h => exact ⟨es, clock, h, s.os, s.out, s.tape, _, d, uu, _, z2, hd, rfl, .mk, hz2⟩
omit [DecidableEq κ] in
theorem Sat.ofMp {w : World} {es : Array MapEntry} {clock : Nat} (h : MapIs enc L es clock) (s : Sat F (Go.Proofs.Ytjlimnckdblkhaa.blk r (.map es clock) :: rr) w) : Sat F (Go.Proofs.Ytjlimnckdblkhaa.mp r enc L :: rr) w :=
  s.ent (Ent.one fun q hq => by cases hq; exact .mk _ _ h)

omit [DecidableEq κ] in
theorem Ef.makeMap : Ef P F env hs ⟨dst, .makeMap t none, ty, pos, after, g⟩ (fun u hs' => ∃ r, u = .map (some r) ∧ hs' = mp r enc [] :: hs) := by
  intro _ a w ha s
  refine ⟨.map (some w.heap.size), w.alloc (.map #[] 0), _, .inl ?_, ⟨_, rfl, rfl⟩, Sat.ofMp MapIs.nil (s.new _)⟩
  simp [execOp, Instr.makeMap]

theorem run_checkKey (ok : KeyOk P kt enc) (b : Bool) (m : Nat) (k : κ) (w : World) : (Instr.checkKey b (m + 1) kt (enc k)).run P w = .ok () w := by
  obtain ⟨d, hd, _, h1, h2, h3⟩ := ok.desc
  simp only [Instr.checkKey, Sem.run_bind, run_underlying hd, Result.andThen_ok]
  cases d <;> first | rfl | (exfalso; first | exact h1 _ rfl | exact h2 _ _ rfl | exact h3 _ rfl)

theorem findNow_eq (ok : KeyOk P kt enc) {d : TypeDesc} (hd : P.underlying kt = some d) (k : κ) : ∀ (es : List MapEntry) (L : List (κ × Value)) (i : Nat), es.map (fun e => (e.key, e.val)) = L.map (fun x => (enc x.1, x.2)) →
    Instr.findNow d (enc k) es i = some ((L.findIdx? fun x => decide (k = x.1)).map fun j => (i + j, ((L[j]?).map (·.2)).getD undef))
  | [], [], _, _ => rfl
  | [], _ :: _, _, h => by cases h
  | _ :: _, [], _, h => by cases h
  | e :: es, x :: L, i, h => by
    simp only [List.map_cons, List.cons.injEq, Prod.mk.injEq] at h
    obtain ⟨⟨hk, hv⟩, ht⟩ := h
    obtain ⟨d', hd', hs, _⟩ := ok.desc
    obtain rfl : d' = d := Option.some.inj (hd'.symm.trans hd)
    simp only [Instr.findNow, hk, hs, List.findIdx?_cons]
    by_cases hx : k = x.1
    · simp [hx, hv]
    · simp only [hx, decide_false, findNow_eq ok hd k es L (i + 1) ht]
      cases hf : List.findIdx? (fun x => decide (k = x.fst)) L with
      | none => simp
      | some j => simp [Nat.add_assoc, Nat.add_comm 1 j]

theorem run_findKey (ok : KeyOk P kt enc) (k : κ) {es : List MapEntry} (h : es.map (fun e => (e.key, e.val)) = L.map (fun x => (enc x.1, x.2))) (w : World) :
    (Instr.findKey kt (enc k) es).run P w = .ok ((L.findIdx? fun x => decide (k = x.1)).map fun j => (j, ((L[j]?).map (·.2)).getD undef)) w := by
  obtain ⟨d, hd, _⟩ := ok.desc
  have := findNow_eq ok hd k es L 0 h
  simp only [Nat.zero_add] at this
  simp [Instr.findKey, run_underlying hd, this]

theorem mget_idx (L : List (κ × Value)) (k : κ) : mget L k = (L.findIdx? fun x => decide (k = x.1)).bind fun j => (L[j]?).map (·.2) := by
  unfold mget
  induction L with
  | nil => rfl
  | cons x L ih =>
    rw [List.find?_cons, List.findIdx?_cons]
    by_cases hx : k = x.1
    · simp [hx]
    · simp only [hx, decide_false]
      rw [ih]
      cases List.findIdx? (fun x => decide (k = x.fst)) L <;> simp

theorem findIdx_lt {L : List (κ × Value)} {k : κ} {j : Nat} (h : (L.findIdx? fun x => decide (k = x.1)) = some j) : ∃ hj : j < L.length, k = L[j].1 := by
  have := List.findIdx?_eq_some_iff_getElem.1 h
  obtain ⟨hj, h1, _⟩ := this
  exact ⟨hj, by simpa using h1⟩

/-- m[k]: what is there, or the zero value. -/
theorem run_lookup (ok : KeyOk P kt enc) (hu : P.underlying t = some (.map kt e)) {z : Value} (hz : ∀ w, (zeroValue e).run P w = .ok z w) {es : Array MapEntry} {clock : Nat} (hm : MapIs enc L es clock) {w : World} (hb : w.heap[r]? = some (.map es clock)) (k : κ) (b : Bool) :
    (Instr.lookup t (.map (some r)) (enc k) b).run P w = .ok (if b then .tuple #[(mget L k).getD z, .bool (mget L k).isSome] else (mget L k).getD z) w := by
  have hg : (getObj r).run P w = .ok (.map es clock) w := by simp [getObj, Sem.run, hb]
  have hf := run_findKey (P := P) ok k hm.list w
  rw [mget_idx]
  simp only [Instr.lookup, Sem.run_bind, run_underlying hu, Result.andThen_ok, hg, Sem.run_pure, run_checkKey ok]
  rw [hf]
  cases hx : L.findIdx? (fun x => decide (k = x.1)) with
  | none => cases b <;> simp [hz]
  | some j =>
    obtain ⟨hj, _⟩ := findIdx_lt hx
    cases b <;> simp [hj]

theorem Ev.lookup {z : Value} {k : κ} (hx : ev env x = some (.map (some r))) (hy : ev env y = some (enc k)) (hk : TakeP (mp r enc L) hs rr) (ok : KeyOk P kt enc) (hu : P.underlying t = some (.map kt e)) (hz : ∀ w, (zeroValue e).run P w = .ok z w) :
    Ev P F env hs ⟨dst, .lookup t x y false, ty, pos, after, g⟩ ((mget L k).getD z) := fun _ a w ha s => by
  obtain ⟨es, clock, hm, s'⟩ := (s.ent hk.ent).mp
  simp [execOp, ha.ev hx, ha.ev hy, run_lookup ok hu hz hm s'.blk k false]
theorem Ev.lookupOk {z : Value} {k : κ} (hx : ev env x = some (.map (some r))) (hy : ev env y = some (enc k)) (hk : TakeP (mp r enc L) hs rr) (ok : KeyOk P kt enc) (hu : P.underlying t = some (.map kt e)) (hz : ∀ w, (zeroValue e).run P w = .ok z w) :
    Ev P F env hs ⟨dst, .lookup t x y true, ty, pos, after, g⟩ (.tuple #[(mget L k).getD z, .bool (mget L k).isSome]) := fun _ a w ha s => by
  obtain ⟨es, clock, hm, s'⟩ := (s.ent hk.ent).mp
  simp [execOp, ha.ev hx, ha.ev hy, run_lookup ok hu hz hm s'.blk k true]
omit [DecidableEq κ] in
theorem Ev.lenMap (hx : ev env x = some (.map (some r))) (hk : TakeP (mp r enc L) hs rr) (hu : P.underlying t = some (.map kt e)) :
    Ev P F env hs ⟨dst, .call { callee := .builtin .len, args := #[x], argTypes := #[t] }, ty, pos, after, g⟩ (.int .i64 L.length) := fun _ a w ha s => by
  obtain ⟨es, clock, hm, s'⟩ := (s.ent hk.ent).mp
  have hb := s'.blk
  have hg : (getObj r).run P w = .ok (.map es clock) w := by simp [getObj, Sem.run, hb]
  have hl : es.size = L.length := by have := congrArg List.length hm.list; simpa using this
  simp [execOp, resolve, invoke, builtin, ha.ev hx, Builtin.len_, run_underlying hu, hg, goInt, hl]

theorem setObj_run {w : World} {es es' : Array MapEntry} {clock clock' : Nat} (s : Sat F (blk r (.map es clock) :: rr) w) : ∃ w', (setObj r (.map es' clock')).run P w = .ok () w' ∧ Sat F (blk r (.map es' clock') :: rr) w' := by
  have hb := s.blk
  refine ⟨{ w with heap := w.heap.setIfInBounds r (.map es' clock') }, by simp [setObj, Sem.run, hb], s.setBlk (fun k => ?_) rfl rfl rfl⟩
  have hlt : r < w.heap.size := (Array.getElem?_eq_some_iff.1 hb).1
  show (w.heap.setIfInBounds r (.map es' clock'))[k]? = _
  by_cases hk : k = r
  · subst hk; simp [hlt]
  · rw [if_neg hk, Array.getElem?_setIfInBounds_ne (Ne.symm hk)]

theorem map_erase {α β : Type} (f : α → β) : ∀ (l : List α) (j : Nat), (l.eraseIdx j).map f = (l.map f).eraseIdx j
  | [], _ => rfl
  | _ :: _, 0 => rfl
  | _ :: l, j + 1 => by simp [map_erase f l j]
theorem modify_toList {α : Type} (a : Array α) (i : Nat) (f : α → α) : (a.modify i f).toList = a.toList.modify i f := by
  apply List.ext_getElem?
  intro j
  rw [Array.getElem?_toList, Array.getElem?_modify, List.getElem?_modify, Array.getElem?_toList]
  by_cases h : i = j <;> cases a[j]? <;> simp [h]

theorem mset_idx {L : List (κ × Value)} {k : κ} {v : Value} : mset L k v = match L.findIdx? fun x => decide (k = x.1) with | some j => L.set j (k, v) | none => L ++ [(k, v)] := by
  induction L with
  | nil => rfl
  | cons x L ih =>
    rw [List.findIdx?_cons]
    obtain ⟨a, u⟩ := x
    by_cases hx : k = a
    · simp [mset, hx]
    · simp only [mset, hx, decide_false, if_false]
      rw [ih]
      cases List.findIdx? (fun x => decide (k = x.fst)) L <;> simp
theorem mdel_idx {L : List (κ × Value)} {k : κ} : mdel L k = match L.findIdx? fun x => decide (k = x.1) with | some j => L.eraseIdx j | none => L := by
  induction L with
  | nil => rfl
  | cons x L ih =>
    rw [List.findIdx?_cons]
    obtain ⟨a, u⟩ := x
    by_cases hx : k = a
    · simp [mdel, hx]
    · simp only [mdel, hx, decide_false, if_false]
      rw [ih]
      cases List.findIdx? (fun x => decide (k = x.fst)) L <;> simp

omit [DecidableEq κ] in
theorem MapIs.set {es : Array MapEntry} {clock : Nat} (h : MapIs enc L es clock) (j : Nat) (hj : j < L.length) (k : κ) (v : Value) :
    MapIs enc (L.set j (k, v)) (es.modify j fun e => { e with key := enc k, val := v }) clock := by
  refine ⟨?_, ?_, ?_⟩
  · have : (es.modify j fun e => { e with key := enc k, val := v }).toList.map (fun e => (e.key, e.val)) = (es.toList.map fun e => (e.key, e.val)).set j (enc k, v) := by
      rw [modify_toList]
      apply List.ext_getElem?
      intro i
      rw [List.getElem?_map, List.getElem?_modify, List.getElem?_set, List.getElem?_map]
      by_cases hi : j = i
      · subst hi
        have hl : es.toList.length = L.length := by have := congrArg List.length h.list; simpa using this
        have h2 : j < es.toList.length := by omega
        have h3 : j < es.size := by simpa using h2
        simp [h3]
      · simp [hi]
    rw [this, h.list, List.map_set]
  · have : (es.modify j fun e => { e with key := enc k, val := v }).toList.map (·.born) = es.toList.map (·.born) := by
      rw [modify_toList]
      apply List.ext_getElem?
      intro i
      rw [List.getElem?_map, List.getElem?_modify, List.getElem?_map]
      by_cases hi : j = i <;> cases es.toList[i]? <;> simp [hi]
    rw [this]
    exact h.born
  · intro e' he
    rw [modify_toList] at he
    obtain ⟨i, hi⟩ := List.getElem?_of_mem he
    rw [List.getElem?_modify] at hi
    cases hx : es.toList[i]? with
    | none => simp [hx] at hi
    | some e0 =>
      have := h.lt e0 (List.mem_of_getElem? hx)
      by_cases hji : j = i
      · simp [hx, hji] at hi
        subst hi
        exact this
      · simp [hx, hji] at hi
        subst hi
        exact this

omit [DecidableEq κ] in
theorem MapIs.push {es : Array MapEntry} {clock : Nat} (h : MapIs enc L es clock) (k : κ) (v : Value) : MapIs enc (L ++ [(k, v)]) (es.push { key := enc k, val := v, born := clock }) (clock + 1) := by
  refine ⟨by simp [h.list], ?_, ?_⟩
  · rw [Array.toList_push, List.map_append, List.pairwise_append]
    refine ⟨h.born, by simp, ?_⟩
    intro a ha b hb
    obtain ⟨e0, he, rfl⟩ := List.mem_map.1 ha
    simp only [List.map_cons, List.map_nil, List.mem_singleton] at hb
    subst hb
    exact h.lt e0 he
  · intro e0 he
    rw [Array.toList_push] at he
    rcases List.mem_append.1 he with he | he
    · have := h.lt e0 he; omega
    · simp only [List.mem_singleton] at he
      subst he
      exact Nat.lt_succ_self _

theorem Ef.mapUpdate {z : Operand} {k : κ} (hx : ev env x = some (.map (some r))) (hy : ev env y = some (enc k)) (hz : ev env z = some v) (hk : TakeP (mp r enc L) hs rr) (ok : KeyOk P kt enc) (hu : P.underlying t = some (.map kt e)) :
    Ef P F env hs ⟨dst, .mapUpdate t x y z, ty, pos, after, g⟩ (fun u hs' => u = undef ∧ hs' = mp r enc (mset L k v) :: rr) := by
  intro _ a w ha s
  obtain ⟨es, clock, hm, s'⟩ := (s.ent hk.ent).mp
  have hb := s'.blk
  have hg : (getObj r).run P w = .ok (.map es clock) w := by simp [getObj, Sem.run, hb]
  have hf := run_findKey (P := P) ok k hm.list w
  have key : ∃ w', (Instr.mapUpdate t (.map (some r)) (enc k) v).run P w = .ok () w' ∧ Sat F (mp r enc (mset L k v) :: rr) w' := by
    rw [mset_idx]
    simp only [Instr.mapUpdate, Sem.run_bind, run_underlying hu, Result.andThen_ok, hg, run_checkKey ok]
    rw [hf]
    cases hx' : L.findIdx? (fun x => decide (k = x.1)) with
    | none =>
      obtain ⟨w', h1, h2⟩ := setObj_run (P := P) (es' := es.push { key := enc k, val := v, born := clock }) (clock' := clock + 1) s'
      exact ⟨w', by simp [h1], Sat.ofMp (hm.push k v) h2⟩
    | some j =>
      obtain ⟨hj, hjk⟩ := findIdx_lt hx'
      obtain ⟨w', h1, h2⟩ := setObj_run (P := P) (es' := es.modify j fun e => { e with key := enc k, val := v }) (clock' := clock) s'
      have hkey : ((es[j]?).map (·.key)).getD (enc k) = enc k := by
        have h3 : (es.toList.map fun e => (e.key, e.val))[j]? = (L.map fun x => (enc x.1, x.2))[j]? := by rw [hm.list]
        rw [List.getElem?_map, List.getElem?_map, Array.getElem?_toList, List.getElem?_eq_getElem hj] at h3
        cases he : es[j]? with
        | none => rw [he] at h3; cases h3
        | some e0 => rw [he] at h3; simp at h3; simp [h3.1, ← hjk]
      refine ⟨w', ?_, Sat.ofMp (hm.set j hj k v) h2⟩
      simp only [Option.map_some, Result.andThen_ok, Sem.run_bind, hkey, Instr.keyThatStays, ok.same, if_true, Sem.run_pure, h1]
  obtain ⟨w', h1, h2⟩ := key
  exact ⟨undef, w', _, .inr ⟨by simp [execOp, ha.ev hx, ha.ev hy, ha.ev hz, h1], rfl⟩, ⟨rfl, rfl⟩, h2⟩

omit [DecidableEq κ] in
theorem Ef.clearMap (hx : ev env x = some (.map (some r))) (hk : TakeP (mp r enc L) hs rr) (hu : P.underlying t = some (.map kt e)) :
    Ef P F env hs ⟨dst, .call { callee := .builtin .clear, args := #[x], argTypes := #[t] }, ty, pos, after, g⟩ (fun u hs' => u = .tuple #[] ∧ hs' = mp r enc [] :: rr) := by
  intro _ a w ha s
  obtain ⟨es, clock, hm, s'⟩ := (s.ent hk.ent).mp
  have hb := s'.blk
  have hg : (getObj r).run P w = .ok (.map es clock) w := by simp [getObj, Sem.run, hb]
  obtain ⟨w', h1, h2⟩ := setObj_run (P := P) (es' := #[]) (clock' := clock) s'
  refine ⟨_, w', _, .inl ?_, ⟨rfl, rfl⟩, Sat.ofMp MapIs.nil h2⟩
  simp only [execOp, resolve]
  simp [ha.ev hx, invoke, builtin, Builtin.clear_, run_underlying hu, hg, h1]

theorem Ef.delete {k : κ} (hx : ev env x = some (.map (some r))) (hy : ev env y = some (enc k)) (hk : TakeP (mp r enc L) hs rr) (ok : KeyOk P kt enc) (hu : P.underlying t = some (.map kt e)) {ts : Array TypeId} (hts : ts[0]? = some t) :
    Ef P F env hs ⟨dst, .call { callee := .builtin .delete, args := #[x, y], argTypes := ts }, ty, pos, after, g⟩ (fun u hs' => u = .tuple #[] ∧ hs' = mp r enc (mdel L k) :: rr) := by
  intro _ a w ha s
  obtain ⟨es, clock, hm, s'⟩ := (s.ent hk.ent).mp
  have hb := s'.blk
  have hg : (getObj r).run P w = .ok (.map es clock) w := by simp [getObj, Sem.run, hb]
  have hf := run_findKey (P := P) ok k hm.list w
  have key : ∃ w', (Builtin.delete_ ts ty #[.map (some r), enc k]).run P w = .ok (.tuple #[]) w' ∧ Sat F (mp r enc (mdel L k) :: rr) w' := by
    rw [mdel_idx]
    have e0 : (#[Value.map (some r), enc k] : Array Value)[0]? = some (.map (some r)) := rfl
    have e1 : (#[Value.map (some r), enc k] : Array Value)[1]? = some (enc k) := rfl
    simp only [Builtin.delete_, hts, e0, e1, Sem.run_bind, run_underlying hu, Result.andThen_ok, hg, run_checkKey ok]
    rw [hf]
    cases hx' : L.findIdx? (fun x => decide (k = x.1)) with
    | none =>
      obtain ⟨w', h1, h2⟩ := setObj_run (P := P) (es' := es) (clock' := clock) s'
      exact ⟨w', by simp [h1], Sat.ofMp hm h2⟩
    | some j =>
      obtain ⟨hj, hjk⟩ := findIdx_lt hx'
      obtain ⟨w', h1, h2⟩ := setObj_run (P := P) (es' := es.eraseIdxIfInBounds j) (clock' := clock) s'
      have hl : (es.eraseIdxIfInBounds j).toList = es.toList.eraseIdx j := by simp
      refine ⟨w', by simp [h1], Sat.ofMp ⟨?_, ?_, ?_⟩ h2⟩
      · rw [hl, map_erase, hm.list, ← map_erase]
      · rw [hl, map_erase]
        exact hm.born.sublist (List.eraseIdx_sublist _ _)
      · rw [hl]
        intro e' he
        exact hm.lt e' ((List.eraseIdx_sublist _ _).subset he)
  obtain ⟨w', h1, h2⟩ := key
  refine ⟨_, w', _, .inl ?_, ⟨rfl, rfl⟩, h2⟩
  simp only [execOp, resolve]
  simp [ha.ev hx, ha.ev hy, invoke, builtin, h1]
end
end Go.Proofs.Ytjlimnckdblkhaa
