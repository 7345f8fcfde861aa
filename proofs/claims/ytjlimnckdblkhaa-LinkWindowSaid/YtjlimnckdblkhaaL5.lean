/- Slices: those that are read, those that are owned; their lengths, elements and parts; append, make. No condition. -/
import Derived.Test.YtjlimnckdblkhaaL4
import Derived.Laws.MakeOwn
import Derived.Laws.BytesArg
import Derived.Lib.ConvBytes
namespace Go.Proofs.Ytjlimnckdblkhaa
open Go

/-- Each is one cell. -/
def One (xs : List Value) : Prop := ∀ u ∈ xs, u.oneCell' = true
theorem One.nil : One [] := by intro u h; cases h
theorem One.app {a b : List Value} (h : One a) (h' : One b) : One (a ++ b) := by
  intro u hu
  rcases List.mem_append.1 hu with h1 | h1
  · exact h u h1
  · exact h' u h1
theorem One.cons {v : Value} {b : List Value} (h : v.oneCell' = true) (h' : One b) : One (v :: b) := by
  intro u hu
  rcases List.mem_cons.1 hu with rfl | h1
  · exact h
  · exact h' u h1
theorem One.sub {a b : List Value} (h : One b) (hs : ∀ u, u ∈ a → u ∈ b) : One a := fun u hu => h u (hs u hu)
theorem One.take {a : List Value} (n : Nat) (h : One a) : One (a.take n) := h.sub fun _ hu => List.mem_of_mem_take hu
theorem One.drop {a : List Value} (n : Nat) (h : One a) : One (a.drop n) := h.sub fun _ hu => List.mem_of_mem_drop hu
theorem One.set {a : List Value} {k : Nat} {v : Value} (h : One a) (hv : v.oneCell' = true) : One (a.set k v) := by
  intro u hu
  rcases List.mem_or_eq_of_mem_set hu with h1 | rfl
  · exact h u h1
  · exact hv
theorem One.map {α : Type} {f : α → Value} {xs : List α} (h : ∀ x, (f x).oneCell' = true) : One (xs.map f) := by
  intro u hu
  obtain ⟨x, _, rfl⟩ := List.mem_map.1 hu
  exact h x
theorem One.rep {n : Nat} {v : Value} (h : v.oneCell' = true) : One (List.replicate n v) := by
  intro u hu
  rw [List.eq_of_mem_replicate hu]
  exact h

/-- A slice of a heap's piece: n elements of sz cells each, and their cells. -/
structure SlR (h : Hp) (v : Value) (sz n : Nat) (xs : List Value) : Prop where
  ex : ∃ ao cap, v = .slice ao n cap ∧ n ≤ cap ∧ cap ≤ maxLen ∧ (ao = none → n = 0 ∧ cap = 0) ∧ ∀ a, ao = some a → ∀ i u, xs[i]? = some u → HCell h (a.add i) u
  len : xs.length = n * sz
  one : One xs
theorem SlR.mono {h h' : Hp} {v : Value} {sz n : Nat} {xs : List Value} (s : SlR h v sz n xs) (l : Hp.le h h') : SlR h' v sz n xs :=
  let ⟨ao, cap, e, a, b, c, d⟩ := s.ex
  ⟨⟨ao, cap, e, a, b, c, fun p hp i u hu => (d p hp i u hu).mono l⟩, s.len, s.one⟩
theorem SlR.nil (h : Hp) (sz : Nat) : SlR h (.slice none 0 0) sz 0 [] := ⟨⟨none, 0, rfl, Nat.le_refl _, Nat.zero_le _, fun _ => ⟨rfl, rfl⟩, fun _ hp => by cases hp⟩, by simp, One.nil⟩

/-- A slice that is owned with its block. -/
inductive vec (v : Value) (T : TypeId) (sz n : Nat) (xs : List Value) : Hp → Prop
  | nil (hv : v = .slice none 0 0) (hn : n = 0) (hx : xs = []) : vec v T sz n xs Hp.nil
  | mk (b off cap : Nat) (pre post : List Value) (hv : v = .slice (some ⟨b, off, none⟩) n cap) (ho : pre.length = off) (hl : xs.length = n * sz) (hc : n ≤ cap) (hm : cap ≤ maxLen) (hs : cap * sz ≤ xs.length + post.length) (h1 : One xs) :
      vec v T sz n xs (Hp.one b (.cells (pre ++ xs ++ post).toArray T (0, 0)))

theorem mid_get {pre xs post : List Value} {i : Nat} {u : Value} (h : xs[i]? = some u) : (pre ++ xs ++ post)[pre.length + i]? = some u := by
  have hi : i < xs.length := (List.getElem?_eq_some_iff.1 h).1
  rw [List.append_assoc, List.getElem?_append_right (by omega), List.getElem?_append_left (by omega)]
  rwa [Nat.add_sub_cancel_left]

theorem vec.slR {v : Value} {T : TypeId} {sz n : Nat} {xs : List Value} {h : Hp} (x : vec v T sz n xs h) : SlR h v sz n xs := by
  cases x with
  | nil hv hn hx => subst hv hn hx; exact SlR.nil _ _
  | mk b off cap pre post hv ho hl hc hm hs h1 =>
    subst hv
    refine ⟨⟨_, cap, rfl, hc, hm, (by intro h; cases h), fun a ha i u hu => ?_⟩, hl, h1⟩
    obtain rfl := Option.some.inj ha
    rw [Addr.add_lit]
    refine ⟨rfl, _, T, (0, 0), Hp.one_self _ _, ?_⟩
    subst ho
    simpa using mid_get hu

/-- In every heap of these states. -/
def Rd (F : Fr) (hs : List SP) (v : Value) (sz n : Nat) (xs : List Value) : Prop := ∀ H, Hp.le F.hf H → (∃ h, SL hs h ∧ Hp.le h H) → SlR H v sz n xs
theorem Sat.both {F : Fr} {hs : List SP} {w : World} (s : Sat F hs w) : ∃ h, SL hs h ∧ Hp.le h (hp w) := by
  obtain ⟨x, d, u, h⟩ := s.heap
  exact ⟨x, h, by rw [u]; exact Hp.le_un_left _ _⟩
theorem Rd.at {F : Fr} {hs : List SP} {v : Value} {sz n : Nat} {xs : List Value} (h : Rd F hs v sz n xs) {w : World} (s : Sat F hs w) : SlR (hp w) v sz n xs := h _ s.le_hf s.both
theorem Rd.wider {F F' : Fr} {hs : List SP} {v : Value} {sz n : Nat} {xs : List Value} (h : Rd F hs v sz n xs) (hw : Wider F hs F') : SlR F'.hf v sz n xs := h _ hw.hf hw.rest
theorem SL_head {P : SP} {hs r : List SP} (hk : TakeP P hs r) {H : Hp} (h : ∃ h, SL hs h ∧ Hp.le h H) : ∃ x, P x ∧ Hp.le x H := by
  obtain ⟨x, hx, hl⟩ := h
  obtain ⟨a, b, _, rfl, hp, _⟩ := hk.ent x hx
  exact ⟨a, hp, fun k o hk => hl k o (Hp.un_of_left hk)⟩

section
variable {P : Program} {F : Fr} {env : Env} {hs r : List SP} {dst : Option Tmp} {ty : TypeId} {pos : String} {after : Array Edge} {g : Option (Nat × Bool)} {x y c : Operand} {u v : Value} {T e t t' : TypeId} {sz n m : Nat} {xs ys : List Value}

theorem Rd.vec (hk : TakeP (vec v T sz n xs) hs r) : Rd F hs v sz n xs := fun _ _ s => by
  obtain ⟨z, hz, hl⟩ := SL_head hk s
  exact hz.slR.mono hl
theorem Rd.ro (h : SlR F.hf v sz n xs) : Rd F hs v sz n xs := fun _ hf _ => h.mono hf
theorem Rd.nil : Rd F hs (.slice none 0 0) sz 0 [] := fun _ _ _ => SlR.nil _ _
theorem Rd.ent {hs' : List SP} (h : Rd F hs' v sz n xs) (e : Ent hs hs') : Rd F hs v sz n xs := fun H hf ⟨x, hx, hl⟩ => h H hf ⟨x, e x hx, hl⟩
/-- A row inside a block. -/
theorem Rd.pt {b o cap : Nat} {cs : List Value} (hk : TakeP (pt b T cs) hs r) (hl : xs.length = n * sz) (hc : n ≤ cap) (hm : cap ≤ maxLen) (h1 : One xs) (h : ∀ i u, xs[i]? = some u → cs[o + i]? = some u) :
    Rd F hs (.slice (some ⟨b, o, none⟩) n cap) sz n xs := fun _ _ s => by
  obtain ⟨z, hz, hle⟩ := SL_head hk s
  refine ⟨⟨_, cap, rfl, hc, hm, (by intro h; cases h), fun a ha i u hu => ?_⟩, hl, h1⟩
  obtain rfl := Option.some.inj ha
  rw [Addr.add_lit]
  exact (hz.cell (h i u hu)).mono hle

/-- It is a slice. -/
def Sl (v : Value) : Prop := ∃ ao n c, v = .slice ao n c
theorem Sl.one (h : Sl v) : v.oneCell' = true := by obtain ⟨_, _, _, rfl⟩ := h; rfl
theorem Sl.nil : Sl (.slice none 0 0) := ⟨_, _, _, rfl⟩
theorem Rd.sl (h : Rd F hs v sz n xs) {w : World} (s : Sat F hs w) : Sl v := let ⟨ao, cap, e, _⟩ := (h.at s).ex; ⟨ao, n, cap, e⟩
theorem vec_sl (hk : TakeP (vec v T sz n xs) hs r) : ∀ w, Sat F hs w → Sl v := fun _ s => (Rd.vec hk).sl s
theorem SlR.sl {h : Hp} (s : SlR h v sz n xs) : Sl v := let ⟨ao, cap, e, _⟩ := s.ex; ⟨ao, n, cap, e⟩
/-- The address of a cell of a slice. -/
def Value.elem (v : Value) (k : Nat) : Value := match v with | .slice (some a) _ _ => .pointer (some (a.add k)) | _ => undef

theorem Ev.len (hx : ev env x = some v) (hr : Rd F hs v sz n xs) (hu : ∀ w, (underlying t).run P w = .ok (.slice e) w) :
    Ev P F env hs ⟨dst, .call { callee := .builtin .len, args := #[x], argTypes := #[t] }, ty, pos, after, g⟩ (.int .i64 n) := fun _ a w ha s => by
  obtain ⟨ao, cap, rfl, _⟩ := (hr.at s).ex
  simp [execOp, resolve, invoke, builtin, ha.ev hx, Builtin.len_, hu, goInt]

theorem Rd.atLeast (hr : Rd F hs v sz n xs) {w : World} (s : Sat F hs w) (h : 0 < n) : ∃ a cap, v = .slice (some a) n cap ∧ n ≤ cap ∧ ∀ i u, xs[i]? = some u → HCell (hp w) (a.add i) u := by
  obtain ⟨ao, cap, rfl, hc, _, h0, hh⟩ := (hr.at s).ex
  cases ao with
  | none => have := (h0 rfl).1; omega
  | some a => exact ⟨a, cap, rfl, hc, hh a rfl⟩

/-- &v[i] -/
theorem Ev.indexAddr {kd : IntKind} {i : Int} {j off : Nat} (hx : ev env x = some v) (hy : ev env y = some (.int kd i)) (hr : Rd F hs v sz n xs) (hu : ∀ w, (underlying t).run P w = .ok (.slice e) w) (hz : ∀ w, (sizeOf e).run P w = .ok sz w)
    (hi : i = (j : Int)) (hj : j < n) (ho : j * sz = off) : Ev P F env hs ⟨dst, .indexAddr t x y, ty, pos, after, g⟩ (Value.elem v off) := fun _ a w ha s => by
  obtain ⟨p, cap, rfl, _, _⟩ := hr.atLeast s (by omega)
  subst hi ho
  have h2 : j < n := by omega
  simp [execOp, ha.ev hx, ha.ev hy, Instr.indexAt, asIntOf, hu, hz, h2, Value.elem]
theorem Ev.load_elem {off : Nat} (hx : ev env x = some (Value.elem v off)) (hr : Rd F hs v sz n xs) (ht : ∀ w, (isAgg t).run P w = .ok false w) (hu : xs[off]? = some u) : Ev P F env hs ⟨dst, .load t x, ty, pos, after, g⟩ u := fun _ a w ha s => by
  have hl := (List.getElem?_eq_some_iff.1 hu).1
  have h0 : 0 < n := by have := (hr.at s).len; rcases Nat.eq_zero_or_pos n with h | h <;> first | exact h | (subst h; simp at this; subst this; simp at hl)
  obtain ⟨p, cap, rfl, _, hh⟩ := hr.atLeast s h0
  simp [execOp, ha.ev hx, Value.elem, Instr.loadAt, Instr.sureAddr, loadVar, ht, (hh _ _ hu).cell]
theorem Ev.load_elemA {off len : Nat} {ds : List Value} (hx : ev env x = some (Value.elem v off)) (hr : Rd F hs v sz n xs) (ht : ∀ w, (isAgg t).run P w = .ok true w) (hl : ∀ w, (sizeOf t).run P w = .ok len w)
    (hn : 0 < n) (hd : ds.length = len) (hc : ∀ j u, ds[j]? = some u → xs[off + j]? = some u) : Ev P F env hs ⟨dst, .load t x, ty, pos, after, g⟩ (.agg ds.toArray) := fun _ a w ha s => by
  obtain ⟨p, cap, rfl, _, hh⟩ := hr.atLeast s hn
  have := run_loadCells_list (P := P) w (p.add off) ds (fun j u hj => by rw [Addr.add_add]; exact (hh _ _ (hc j u hj)).cell)
  rw [hd] at this
  simp [execOp, ha.ev hx, Value.elem, Instr.loadAt, Instr.sureAddr, loadVar, ht, hl, this]
theorem Ev.nilCheck_elem {off : Nat} (hx : ev env x = some (Value.elem v off)) (hr : Rd F hs v sz n xs) (hn : 0 < n) : Ev P F env hs ⟨dst, .nilCheck x, ty, pos, after, g⟩ (Value.elem v off) := fun _ a w ha s => by
  obtain ⟨p, cap, rfl, _, _⟩ := hr.atLeast s hn
  simp [execOp, ha.ev hx, Value.elem]
theorem Ev.field_elem {off f o o' : Nat} {st : TypeId} (hx : ev env x = some (Value.elem v off)) (hr : Rd F hs v sz n xs) (h : FA P st f o) (hn : 0 < n) (ho : off + o = o') : Ev P F env hs ⟨dst, .fieldAddr st x f, ty, pos, after, g⟩ (Value.elem v o') := fun _ a w ha s => by
  obtain ⟨p, cap, rfl, _, _⟩ := hr.atLeast s hn
  subst ho
  simp [execOp, ha.ev hx, Value.elem, h _ w, Addr.add_add]

/-- v[lo:hi] -/
def Value.cut (v : Value) (lo hi sz : Nat) : Value := match v with | .slice a _ cap => .slice (if cap = lo then a else a.map (·.add (lo * sz))) (hi - lo) (cap - lo) | _ => undef

theorem Sl.cut {lo hi : Nat} (h : Sl v) : Sl (Value.cut v lo hi sz) := by obtain ⟨_, _, _, rfl⟩ := h; exact ⟨_, _, _, rfl⟩
theorem SlR.cut {h : Hp} {lo hi : Nat} (s : SlR h v sz n xs) (h1 : lo ≤ hi) (h2 : hi ≤ n) : SlR h (Value.cut v lo hi sz) sz (hi - lo) ((xs.drop (lo * sz)).take ((hi - lo) * sz)) := by
  obtain ⟨ao, cap, rfl, hc, hm, h0, hh⟩ := s.ex
  have hlen := s.len
  refine ⟨⟨_, _, rfl, by omega, by omega, ?_, ?_⟩, ?_, (s.one.drop _).take _⟩
  · intro hn
    split at hn
    · obtain ⟨h3, h4⟩ := h0 hn; omega
    · cases ao with
      | none => obtain ⟨h3, h4⟩ := h0 rfl; omega
      | some a => cases hn
  · intro a ha i u hu
    rw [List.getElem?_take] at hu
    split at hu
    · rename_i hlt
      rw [List.getElem?_drop] at hu
      split at ha
      · rename_i e
        exfalso
        have : hi - lo = 0 := by omega
        rw [this] at hlt; simp at hlt
      · cases ao with
        | none => cases ha
        | some b =>
          obtain rfl := Option.some.inj ha
          rw [Addr.add_add]
          exact hh b rfl _ _ hu
    · cases hu
  · have : (hi - lo) * sz + lo * sz ≤ n * sz := by rw [← Nat.add_mul]; exact Nat.mul_le_mul_right _ (by omega)
    simp only [List.length_take, List.length_drop, hlen]
    omega

theorem Rd.cut {lo hi : Nat} (s : Rd F hs v sz n xs) (h1 : lo ≤ hi) (h2 : hi ≤ n) : Rd F hs (Value.cut v lo hi sz) sz (hi - lo) ((xs.drop (lo * sz)).take ((hi - lo) * sz)) := fun H hf h => (s H hf h).cut h1 h2

theorem Ev.slice_lh {kl kh : IntKind} {l h : Int} {lo hi : Nat} {z : Operand} (hx : ev env x = some v) (hy : ev env y = some (.int kl l)) (hz : ev env z = some (.int kh h)) (hr : Rd F hs v sz n xs) (hu : ∀ w, (underlying t).run P w = .ok (.slice e) w) (hs' : ∀ w, (sizeOf e).run P w = .ok sz w)
    (el : l = (lo : Int)) (eh : h = (hi : Int)) (h1 : lo ≤ hi) (h2 : hi ≤ n) : Ev P F env hs ⟨dst, .slice t x (some y) (some z) none, ty, pos, after, g⟩ (Value.cut v lo hi sz) := fun _ a w ha s => by
  obtain ⟨ao, cap, rfl, hc, _⟩ := (hr.at s).ex
  subst el eh
  have b1 : hi ≤ cap := by omega
  have b2 : lo ≤ hi := by omega
  simp [execOp, ha.ev hx, ha.ev hy, ha.ev hz, Instr.sliceAt, hu, Instr.slice, hs', Instr.sliceBounds, Instr.sliceBound, asIntOf, b1, b2, Value.cut]
theorem Ev.slice_h {kh : IntKind} {h : Int} {hi : Nat} {z : Operand} (hx : ev env x = some v) (hz : ev env z = some (.int kh h)) (hr : Rd F hs v sz n xs) (hu : ∀ w, (underlying t).run P w = .ok (.slice e) w) (hs' : ∀ w, (sizeOf e).run P w = .ok sz w)
    (eh : h = (hi : Int)) (h2 : hi ≤ n) : Ev P F env hs ⟨dst, .slice t x none (some z) none, ty, pos, after, g⟩ (Value.cut v 0 hi sz) := fun _ a w ha s => by
  obtain ⟨ao, cap, rfl, hc, _⟩ := (hr.at s).ex
  subst eh
  have b1 : hi ≤ cap := by omega
  simp [execOp, ha.ev hx, ha.ev hz, Instr.sliceAt, hu, Instr.slice, hs', Instr.sliceBounds, Instr.sliceBound, asIntOf, b1, Value.cut]
theorem Ev.slice_l {kl : IntKind} {l : Int} {lo : Nat} (hx : ev env x = some v) (hy : ev env y = some (.int kl l)) (hr : Rd F hs v sz n xs) (hu : ∀ w, (underlying t).run P w = .ok (.slice e) w) (hs' : ∀ w, (sizeOf e).run P w = .ok sz w)
    (el : l = (lo : Int)) (h1 : lo ≤ n) : Ev P F env hs ⟨dst, .slice t x (some y) none none, ty, pos, after, g⟩ (Value.cut v lo n sz) := fun _ a w ha s => by
  obtain ⟨ao, cap, rfl, hc, _⟩ := (hr.at s).ex
  subst el
  have b2 : lo ≤ n := by omega
  simp [execOp, ha.ev hx, ha.ev hy, Instr.sliceAt, hu, Instr.slice, hs', Instr.sliceBounds, Instr.sliceBound, asIntOf, b2, Value.cut]

/-- An owned slice's part, the rest of its block laid by. -/
theorem vec.cut {lo hi : Nat} {h : Hp} (z : vec v T sz n xs h) (h1 : lo ≤ hi) (h2 : hi ≤ n) : vec (Value.cut v lo hi sz) T sz (hi - lo) ((xs.drop (lo * sz)).take ((hi - lo) * sz)) h := by
  cases z with
  | nil hv hn hx =>
    subst hv hn hx
    obtain rfl : hi = 0 := by omega
    obtain rfl : lo = 0 := by omega
    exact .nil rfl rfl (by simp)
  | mk b off cap pre post hv ho hl hc hm hs' h1' =>
    subst hv
    have e : (hi - lo) * sz + lo * sz ≤ n * sz := by rw [← Nat.add_mul]; exact Nat.mul_le_mul_right _ (by omega)
    have hsz : ((xs.drop (lo * sz)).take ((hi - lo) * sz)).length = (hi - lo) * sz := by simp only [List.length_take, List.length_drop, hl]; omega
    by_cases hcl : cap = lo
    · have hz : hi - lo = 0 := by omega
      have hx0 : (xs.drop (lo * sz)).take ((hi - lo) * sz) = [] := by rw [hz]; simp
      have := vec.mk (v := Value.cut (.slice (some ⟨b, off, none⟩) n cap) lo hi sz) (T := T) (sz := sz) (n := hi - lo) (xs := (xs.drop (lo * sz)).take ((hi - lo) * sz)) b off (cap - lo) pre (xs ++ post) (by simp [Value.cut, hcl]) ho hsz (by omega) (by omega) (by rw [hcl]; simp) ((h1'.drop _).take _)
      rw [hx0] at this ⊢
      simpa using this
    · have := vec.mk (v := Value.cut (.slice (some ⟨b, off, none⟩) n cap) lo hi sz) (T := T) (sz := sz) (n := hi - lo) (xs := (xs.drop (lo * sz)).take ((hi - lo) * sz)) b (off + lo * sz) (cap - lo) (pre ++ xs.take (lo * sz)) ((xs.drop (lo * sz)).drop ((hi - lo) * sz) ++ post)
        (by simp [Value.cut, hcl, Addr.add_lit]) (by rw [List.length_append, List.length_take, ho, hl, Nat.min_eq_left (Nat.mul_le_mul_right _ (by omega))]) hsz (by omega) (by omega)
        (by
          have e2 : (cap - lo) * sz + lo * sz = cap * sz := by rw [← Nat.add_mul]; congr 1; omega
          simp only [List.length_append, List.length_take, List.length_drop, hl] at hs' ⊢
          omega) ((h1'.drop _).take _)
      have e3 : pre ++ xs.take (lo * sz) ++ (xs.drop (lo * sz)).take ((hi - lo) * sz) ++ ((xs.drop (lo * sz)).drop ((hi - lo) * sz) ++ post) = pre ++ xs ++ post := by
        simp only [List.append_assoc]
        congr 1
        rw [← List.append_assoc (List.take ((hi - lo) * sz) _), List.take_append_drop, ← List.append_assoc, List.take_append_drop]
      rwa [e3] at this

theorem Ent.one {P' Q' : SP} (h : ∀ z, P' z → Q' z) : Ent (P' :: r) (Q' :: r) := fun _ ⟨a, b, d, e, p, q⟩ => ⟨a, b, d, e, h a p, q⟩

/-- What is known of a slice's type and of its elements. -/
structure EI (P : Program) (t e : TypeId) (sz bytes : Nat) (zs : List Value) : Prop where
  und : P.underlying t = some (.slice e)
  info : ∃ i zv, P.info? e = some i ∧ i.size = sz ∧ i.bytes = bytes ∧ i.zero = some zv ∧ zv.cells = zs.toArray
  len : zs.length = sz

/-- A new row whose cells are these. -/
theorem Sat.newVec {w : World} (s : Sat F r w) (T : TypeId) (cap : Nat) (xs post : List Value) (hl : xs.length = n * sz) (hc : n ≤ cap) (hm : cap ≤ maxLen) (hs' : cap * sz ≤ xs.length + post.length) (h1 : One xs) (cs : Array Value) (hcs : cs = (xs ++ post).toArray) :
    Sat F (Go.Proofs.Ytjlimnckdblkhaa.vec (.slice (some ⟨w.heap.size, 0, none⟩) n cap) T sz n xs :: r) (w.alloc (.cells cs T (0, 0))) := by
  subst hcs
  refine (s.new _).ent (Ent.one fun z hz => ?_)
  cases hz
  have := vec.mk (v := .slice (some ⟨w.heap.size, 0, none⟩) n cap) (T := T) (sz := sz) (n := n) (xs := xs) w.heap.size 0 cap [] post rfl rfl hl hc hm hs' h1
  simpa using this

end
end Go.Proofs.Ytjlimnckdblkhaa
