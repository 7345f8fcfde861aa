/- Literals of slices, whatever their elements; nil slices. No condition. -/
import Derived.Test.YtjlimnckdblkhaaL9
namespace Go.Proofs.Ytjlimnckdblkhaa
open Go

/-- vs laid over l from place k on. -/
def splice (l : List Value) (k : Nat) (vs : List Value) : List Value := l.take k ++ vs ++ l.drop (k + vs.length)
theorem splice_len {l : List Value} {k : Nat} {vs : List Value} (h : k + vs.length ≤ l.length) : (splice l k vs).length = l.length := by
  simp only [splice, List.length_append, List.length_take, List.length_drop]; omega
theorem set_foldl (off : Nat) : ∀ (vs : List Value) (k : Nat) (a : Array Value), off + k + vs.length ≤ a.size →
    ((vs.zipIdx k).foldl (fun cs (p : Value × Nat) => cs.setIfInBounds (off + p.2) p.1) a).toList = splice a.toList (off + k) vs
  | [], k, a, _ => by simp [splice]
  | v :: vs, k, a, h => by
    simp only [List.zipIdx_cons, List.foldl_cons, List.length_cons] at h ⊢
    rw [set_foldl off vs (k + 1) _ (by simp; omega)]
    simp only [splice, Array.toList_setIfInBounds, List.length_cons]
    have := list_seg_step a.toList (off + k) v vs (by simp; omega)
    rw [← Nat.add_assoc] at this ⊢
    exact this

theorem fill_flat (sz : Nat) : ∀ (vs : List Value) (k : Nat) (a : Array Value), (∀ v ∈ vs, v.cells.size = sz) → (k + vs.length) * sz ≤ a.size →
    ∃ b, Instr.fill (fun i => some (i * sz, sz)) a ((List.range' k vs.length).zip vs) = some b ∧ b.toList = splice a.toList (k * sz) (vs.flatMap fun v => v.cells.toList)
  | [], k, a, _, _ => ⟨a, rfl, by simp [splice]⟩
  | v :: vs, k, a, hv, h => by
    have hs := hv v (by simp)
    simp only [List.length_cons] at h
    have hle : k * sz + sz ≤ a.size := by
      have : (k + 1) * sz ≤ (k + (vs.length + 1)) * sz := Nat.mul_le_mul_right _ (by omega)
      rw [Nat.add_mul, Nat.one_mul] at this
      omega
    let a1 := (v.cells.zipIdx.foldl (fun cs (p : Value × Nat) => cs.setIfInBounds (k * sz + p.2) p.1) a)
    have ha1 : a1.toList = splice a.toList (k * sz) v.cells.toList := by
      have e : a1 = (v.cells.toList.zipIdx 0).foldl (fun cs (p : Value × Nat) => cs.setIfInBounds (k * sz + p.2) p.1) a := by
        show (v.cells.zipIdx.foldl _ a) = _
        rw [← Array.foldl_toList, Array.toList_zipIdx]
      rw [e, set_foldl _ _ 0 a (by simp [hs]; omega), Nat.add_zero]
    have hsz : a1.size = a.size := by
      rw [← Array.length_toList, ha1, splice_len (by simp [hs]; omega), Array.length_toList]
    obtain ⟨b, hb, hbl⟩ := fill_flat sz vs (k + 1) a1 (fun u hu => hv u (by simp [hu])) (by rw [hsz]; exact Nat.le_trans (Nat.mul_le_mul_right _ (by omega)) h)
    refine ⟨b, ?_, ?_⟩
    · simp only [List.length_cons, List.range'_succ, List.zip_cons_cons, Instr.fill, hs]
      have hn : ¬ (sz ≠ sz || decide (k * sz + sz > a.size)) = true := by simp; omega
      rw [if_neg hn]
      exact hb
    · rw [hbl, ha1]
      have hl : v.cells.toList.length = sz := by simp [hs]
      simp only [splice, List.flatMap_cons, List.length_append, hl]
      have h1 : (k + 1) * sz = k * sz + sz := by rw [Nat.add_mul, Nat.one_mul]
      have h2 : (List.take (k * sz) a.toList).length = k * sz := by rw [List.length_take, Nat.min_eq_left (by simp; omega)]
      have e1 : (List.take (k * sz) a.toList ++ v.cells.toList ++ List.drop (k * sz + sz) a.toList).take ((k + 1) * sz) = List.take (k * sz) a.toList ++ v.cells.toList := by
        rw [List.take_append_of_le_length (by simp only [List.length_append, h2, hl]; omega), List.take_of_length_le (by simp only [List.length_append, h2, hl]; omega)]
      have e2 : (List.take (k * sz) a.toList ++ v.cells.toList ++ List.drop (k * sz + sz) a.toList).drop ((k + 1) * sz + (List.flatMap (fun v => v.cells.toList) vs).length) = List.drop (k * sz + (sz + (List.flatMap (fun v => v.cells.toList) vs).length)) a.toList := by
        rw [List.drop_append, List.drop_of_length_le (by simp only [List.length_append, h2, hl]; omega), List.nil_append, List.drop_drop]
        congr 1
        simp only [List.length_append, h2, hl]
        omega
      rw [e1, e2]
      simp [List.append_assoc]

section
variable {P : Program} {F : Fr} {env : Env} {hs r : List SP} {dst : Option Tmp} {ty : TypeId} {pos : String} {after : Array Edge} {g : Option (Nat × Bool)} {x y c : Operand} {u v : Value} {T e t t' : TypeId} {sz n m : Nat} {xs ys : List Value}

/-- A slice's literal that names all its elements in their order. -/
theorem Ef.lit_ {parts : Array (Nat × Operand)} {vs : List Value} {ln bytes : Nat} {zs : List Value} (ei : EI P t e sz bytes zs) (hp : evs env (parts.toList.map (·.2)) = some vs) (hi : parts.toList.map (·.1) = List.range' 0 ln)
    (hln : Nat.ble (ln * sz) 1000 = true) (hln2 : Nat.ble ln 1000 = true) (hv : ∀ v ∈ vs, v.cells.size = sz) (hxs : (vs.flatMap fun v => v.cells.toList) = xs) (h1 : One xs) :
    Ef P F env hs ⟨dst, .buildSlice t ln parts, ty, pos, after, g⟩ (fun u hs' => hs' = vec u e sz ln xs :: hs) := by
  subst hxs
  have hl : vs.length = ln := by
    have h3 : ∀ (xs : List Operand) (vs : List Value), evs env xs = some vs → vs.length = xs.length := by
      intro xs
      induction xs with
      | nil => intro vs h; obtain rfl := Option.some.inj h; rfl
      | cons x xs ih =>
        intro vs h
        unfold evs at h
        split at h
        · rename_i u us h4 h5
          obtain rfl := Option.some.inj h
          simp [ih us h5]
        · cases h
    have h4 := h3 _ _ hp
    have h5 := congrArg List.length hi
    simp at h4 h5
    omega
  have hfl : (vs.flatMap fun v => v.cells.toList).length = ln * sz := by
    subst hl
    clear hp hi hln hln2 h1
    induction vs with
    | nil => simp
    | cons v vs ih =>
      have := hv v (by simp)
      have h6 := ih fun u hu => hv u (by simp [hu])
      simp only [List.flatMap_cons, List.length_append, Array.length_toList, List.length_cons, h6, this, Nat.add_mul, Nat.one_mul]
      omega
  refine Ef.buildSlice ei hp hln hln2 ?_ hfl h1
  rw [hi, ← hl]
  obtain ⟨b, hb, hbl⟩ := fill_flat sz vs 0 (if vs.length * sz = 0 then #[] else ((Array.range (vs.length * sz)).map fun q => zs.toArray[q % zs.toArray.size]!)) hv (by
    split
    · rename_i h0; simp [h0]
    · simp)
  rw [hb]
  congr 1
  apply Array.ext'
  rw [hbl]
  have hlen : (if vs.length * sz = 0 then (#[] : Array Value) else ((Array.range (vs.length * sz)).map fun q => zs.toArray[q % zs.toArray.size]!)).toList.length = vs.length * sz := by
    split
    · rename_i h0; simp [h0]
    · simp
  simp only [splice, Nat.zero_mul, List.take_zero, List.nil_append, Nat.zero_add]
  rw [List.drop_of_length_le (by rw [hlen, hfl, hl]; exact Nat.le_refl _), List.append_nil]

theorem allSz_nil : ∀ v ∈ ([] : List Value), v.cells.size = sz := by intro v h; cases h
theorem allSz_cons {v : Value} {r : List Value} (h : v.cells.size = sz) (t : ∀ u ∈ r, u.cells.size = sz) : ∀ u ∈ v :: r, u.cells.size = sz := by
  intro u hu
  rcases List.mem_cons.1 hu with rfl | h1
  · exact h
  · exact t u h1
theorem cells_one {v : Value} (h : v.oneCell' = true) : v.cells = #[v] := by cases v <;> first | rfl | cases h
theorem flat_one : ∀ {vs : List Value}, One vs → (vs.flatMap fun v => v.cells.toList) = vs
  | [], _ => rfl
  | v :: vs, h => by
    rw [List.flatMap_cons, flat_one (h.sub fun _ hu => List.mem_cons_of_mem _ hu), cells_one (h v (List.mem_cons_self ..))]
    rfl
/-- .. of elements of one cell each. -/
theorem Ef.lit1_ {parts : Array (Nat × Operand)} {vs : List Value} {ln bytes : Nat} {zs : List Value} (ei : EI P t e 1 bytes zs) (hp : evs env (parts.toList.map (·.2)) = some vs) (hi : parts.toList.map (·.1) = List.range' 0 ln)
    (hln : Nat.ble ln 1000 = true) (h1 : One vs) :
    Ef P F env hs ⟨dst, .buildSlice t ln parts, ty, pos, after, g⟩ (fun u hs' => hs' = vec u e 1 ln vs :: hs) := by
  have := Ef.lit_ (F := F) (hs := hs) (dst := dst) (ty := ty) (pos := pos) (after := after) (g := g) ei hp hi (by rw [Nat.mul_one]; exact hln) hln (fun v hv => by rw [cells_one (h1 v hv)]; rfl) (flat_one h1) h1
  exact this

theorem Ef.lit {parts : Array (Nat × Operand)} {vs : List Value} {ln bytes : Nat} {zs : List Value} (ei : EI P t e sz bytes zs) (hp : evs env (parts.toList.map (·.2)) = some vs) (hi : parts.toList.map (·.1) = List.range' 0 ln)
    (hln : Nat.ble (ln * sz) 1000 = true) (hln2 : Nat.ble ln 1000 = true) (hv : ∀ v ∈ vs, v.cells.size = sz) (hxs : (vs.flatMap fun v => v.cells.toList) = xs) (h1 : One xs) :
    Ef P F env hs ⟨dst, .buildSlice t ln parts, ty, pos, after, g⟩ (fun u hs' => Sl u ∧ hs' = vec u e sz ln xs :: hs) := (Ef.lit_ ei hp hi hln hln2 hv hxs h1).sl
theorem Ef.lit1 {parts : Array (Nat × Operand)} {vs : List Value} {ln bytes : Nat} {zs : List Value} (ei : EI P t e 1 bytes zs) (hp : evs env (parts.toList.map (·.2)) = some vs) (hi : parts.toList.map (·.1) = List.range' 0 ln)
    (hln : Nat.ble ln 1000 = true) (h1 : One vs) :
    Ef P F env hs ⟨dst, .buildSlice t ln parts, ty, pos, after, g⟩ (fun u hs' => Sl u ∧ hs' = vec u e 1 ln vs :: hs) := (Ef.lit1_ ei hp hi hln h1).sl
/-- The places of a struct's fields, and its zero cells. -/
def BS (P : Program) (t : TypeId) (pl : List (Nat × Nat)) (zs : List Value) : Prop := ∀ (ps : List (Nat × Value)) (cs : Array Value) (w : World), Instr.fill (fun i => pl.toArray[i]?) zs.toArray ps = some cs → (Instr.build t ps.toArray).run P w = .ok (.agg cs) w
theorem BS.mk {pl : List (Nat × Nat)} {zs : List Value} {z : Value} {fs : Array Field} (hu : ∀ w, (underlying t).run P w = .ok (.struct fs) w) (hz : ∀ w, (zeroValue t).run P w = .ok z w) (hc : z.cells = zs.toArray)
    (hp : ∀ w, ((fs.mapM fun f => do pure (f.offset, ← sizeOf f.type)) : Sem (Array (Nat × Nat))).run P w = .ok pl.toArray w) : BS P t pl zs := fun ps cs w h => by
  simp only [Instr.build, Sem.run_bind, hz, Result.andThen_ok, hu, hp, hc, h, Sem.run_pure]
/-- Cells set one after the other. -/
def sets : List Value → List (Nat × Value) → List Value
  | l, [] => l
  | l, (o, v) :: r => sets (l.set o v) r
theorem sets_len : ∀ (ps : List (Nat × Value)) (l : List Value), (sets l ps).length = l.length
  | [], _ => rfl
  | (o, v) :: r, l => by rw [sets, sets_len r]; simp
theorem fill_sets {pl : List (Nat × Nat)} : ∀ (is : List Nat) (os : List Nat) (vs : List Value) (zs : List Value), (is.map fun i => pl[i]?) = os.map (fun o => some (o, 1)) → (∀ o ∈ os, o < zs.length) → One vs →
    Instr.fill (fun i => pl.toArray[i]?) zs.toArray (is.zip vs) = some (sets zs (os.zip vs)).toArray
  | [], [], _, _, _, _, _ => rfl
  | [], _ :: _, _, _, h, _, _ => by cases h
  | _ :: _, [], _, _, h, _, _ => by cases h
  | _ :: _, _ :: _, [], _, _, _, _ => rfl
  | i :: is, o :: os, v :: vs, zs, h, ho, h1 => by
    simp only [List.map_cons, List.cons.injEq] at h
    have hv := cells_one (h1 v (List.mem_cons_self ..))
    have hi : pl.toArray[i]? = some (o, 1) := by simpa using h.1
    have hlt := ho o (List.mem_cons_self ..)
    have hfold : (v.cells.zipIdx.foldl (fun cs (p : Value × Nat) => cs.setIfInBounds (o + p.2) p.1) zs.toArray) = (zs.set o v).toArray := by
      rw [hv]
      apply Array.ext'
      simp [Array.zipIdx]
    simp only [List.zip_cons_cons, Instr.fill, hi, sets]
    have hn : ¬ (v.cells.size ≠ 1 || decide (o + v.cells.size > zs.toArray.size)) = true := by simp [hv]; omega
    rw [if_neg hn]
    have ih := fill_sets is os vs (zs.set o v) h.2 (fun q hq => by simpa using ho q (List.mem_cons_of_mem _ hq)) (h1.sub fun _ hu => List.mem_cons_of_mem _ hu)
    rw [← ih]
    congr 1
/-- A struct of parts of one cell each. -/
theorem Ev.build1 {parts : Array (Nat × Operand)} {vs cs zs : List Value} {pl : List (Nat × Nat)} {os : List Nat} (bs : BS P t pl zs) (hp : evs env (parts.toList.map (·.2)) = some vs) (ho : ((parts.toList.map (·.1)).map fun i => pl[i]?) = os.map (fun o => some (o, 1)))
    (hlt : (os.all fun o => Nat.blt o zs.length) = true) (h1 : One vs) (hc : sets zs (os.zip vs) = cs) : Ev P F env hs ⟨dst, .build t parts, ty, pos, after, g⟩ (.agg cs.toArray) :=
  Ev.build hp fun w => bs _ _ w (by
    rw [fill_sets _ os vs zs ho (fun o hm => Nat.le_of_ble_eq_true (List.all_eq_true.1 hlt o hm)) h1, hc])

theorem Ent.vecNil : Ent hs (vec (.slice none 0 0) T sz 0 [] :: hs) := fun x hx => ⟨Hp.nil, x, Hp.dj_nil x, (Hp.nil_un x).symm, .nil rfl rfl rfl, hx⟩
/-- .. and nothing beside. -/
theorem Ent.fold1 {A : SP} {ps : List SP} (hk : Takes ps hs r) (h : ∀ z, SL ps z → A z) : Ent hs [A] := (Ent.fold hk h).trans (Ent.cons (Ent.nil _))
theorem Ent.take {ps : List SP} (hk : Takes ps hs r) : Ent hs ps := hk.ent.trans fun x hx => by
  obtain ⟨a, b, d, rfl, p, q⟩ := SL_append.1 hx
  have h := (SL_append (a := ps) (b := [])).2 ⟨a, b, d, rfl, p, trivial⟩
  simpa using h
theorem SlR.isNil {h : Hp} (s : SlR h v sz n xs) (hn : isNil v = true) : v = .slice none 0 0 ∧ n = 0 ∧ xs = [] := by
  obtain ⟨ao, cap, rfl, _, _, h0, _⟩ := s.ex
  cases ao with
  | none =>
    obtain ⟨rfl, rfl⟩ := h0 rfl
    exact ⟨rfl, rfl, List.eq_nil_of_length_eq_zero (by simpa using s.len)⟩
  | some a => cases hn
end
end Go.Proofs.Ytjlimnckdblkhaa
