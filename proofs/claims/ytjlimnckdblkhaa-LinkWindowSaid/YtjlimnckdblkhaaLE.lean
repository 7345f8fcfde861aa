/- Structs of parts of any size, results in variables of their own. No condition. -/
import Derived.Test.YtjlimnckdblkhaaLD
namespace Go.Proofs.Ytjlimnckdblkhaa
open Go

section
variable {P : Program} {n : Nat} {F : Fr} {k : Kont} {env : Env} {hs r : List SP} {dst : Option Tmp} {ty : TypeId} {pos : String} {after : Array Edge} {g : Option (Nat × Bool)} {v v' : Value}

theorem SlR.small {h : Hp} {v : Value} {sz n : Nat} {xs : List Value} (s : SlR h v sz n xs) : n ≤ 9223372036854775807 := by
  obtain ⟨_, cap, _, h1, h2, _⟩ := s.ex
  simp only [maxLen] at h2
  omega

/-- Rows of cells laid one after the other. -/
def setsA : List Value → List (Nat × List Value) → List Value
  | l, [] => l
  | l, (o, cs) :: q => setsA (splice l o cs) q
def CellsAre : List Value → List (List Value) → Prop
  | [], [] => True
  | v :: vs, c :: cs => v.cells = c.toArray ∧ CellsAre vs cs
  | _, _ => False
theorem fill_setsA {pl : List (Nat × Nat)} : ∀ (is : List Nat) (os : List Nat) (vs : List Value) (css : List (List Value)) (zs : List Value), CellsAre vs css → (is.map fun i => pl[i]?) = (os.zip css).map (fun q => some (q.1, q.2.length)) →
    ((os.zip css).all fun q => Nat.ble (q.1 + q.2.length) zs.length) = true →
    Instr.fill (fun i => pl.toArray[i]?) zs.toArray (is.zip vs) = some (setsA zs (os.zip css)).toArray
  | [], [], _, _, _, _, _, _ => rfl
  | [], _ :: _, _, [], _, _, _, _ => rfl
  | [], _ :: _, _, _ :: _, _, _, h, _ => by cases h
  | _ :: _, [], _, _, _, _, h, _ => by cases h
  | _ :: _, _ :: _, _, [], _, _, h, _ => by cases h
  | _ :: _, _ :: _, [], _ :: _, _, h, _, _ => h.elim
  | i :: is, o :: os, v :: vs, c :: css, zs, hc, h, ho => by
    simp only [List.zip_cons_cons, List.map_cons, List.cons.injEq] at h
    simp only [List.zip_cons_cons, List.all_cons, Bool.and_eq_true] at ho
    have hv : v.cells = c.toArray := hc.1
    have hi : pl.toArray[i]? = some (o, c.length) := by simpa using h.1
    have hle := Nat.le_of_ble_eq_true ho.1
    have hfold : (v.cells.zipIdx.foldl (fun cs (p : Value × Nat) => cs.setIfInBounds (o + p.2) p.1) zs.toArray) = (splice zs o c).toArray := by
      have e : (v.cells.zipIdx.foldl (fun cs (p : Value × Nat) => cs.setIfInBounds (o + p.2) p.1) zs.toArray) = (c.zipIdx 0).foldl (fun cs (p : Value × Nat) => cs.setIfInBounds (o + p.2) p.1) zs.toArray := by
        rw [hv, ← Array.foldl_toList, Array.toList_zipIdx]
      rw [e]
      apply Array.ext'
      rw [set_foldl _ _ 0 _ (by simp; omega), Nat.add_zero]
    simp only [List.zip_cons_cons, Instr.fill, hi, setsA]
    have hn : ¬ (v.cells.size ≠ c.length || decide (o + v.cells.size > zs.toArray.size)) = true := by simp [hv]; omega
    rw [if_neg hn]
    have ih := fill_setsA is os vs css (splice zs o c) hc.2 h.2 (by rw [splice_len (by omega)]; exact ho.2)
    rw [← ih]
    congr 1
/-- A struct of parts of any size. -/
theorem Ev.buildA {t : TypeId} {parts : Array (Nat × Operand)} {vs cs zs : List Value} {pl : List (Nat × Nat)} {os : List Nat} {css : List (List Value)} (bs : BS P t pl zs) (hp : evs env (parts.toList.map (·.2)) = some vs) (hv : CellsAre vs css)
    (ho : ((parts.toList.map (·.1)).map fun i => pl[i]?) = (os.zip css).map (fun q => some (q.1, q.2.length)))
    (hlt : ((os.zip css).all fun q => Nat.ble (q.1 + q.2.length) zs.length) = true) (hc : setsA zs (os.zip css) = cs) : Ev P F env hs ⟨dst, .build t parts, ty, pos, after, g⟩ (.agg cs.toArray) :=
  Ev.build hp fun w => bs _ _ w (by rw [fill_setsA _ os vs css zs hv ho hlt, hc])

/-- A field of a slice's element. -/
theorem Ev.fieldAddr_elem {x : Operand} {s : TypeId} {f off o sz m j : Nat} {xs : List Value} (hx : ev env x = some (Value.elem v o)) (hr : Rd F hs v sz m xs) (h : FA P s f off) (hm : 0 < m) (hj : o + off = j) :
    Ev P F env hs ⟨dst, .fieldAddr s x f, ty, pos, after, g⟩ (Value.elem v j) := fun _ a w ha s => by
  subst hj
  obtain ⟨p, cap, rfl, _, _⟩ := hr.atLeast s hm
  simp [execOp, ha.ev hx, Value.elem, h _ w, Addr.add_add]

/-- What stands in a variable of its own. -/
theorem load_pt {t T : TypeId} {b len : Nat} {cs : List Value} {w : World} (s : Sat F hs w) (hk : TakeP (pt b T cs) hs r) (ht : ∀ w, (isAgg t).run P w = .ok true w) (hl : ∀ w, (sizeOf t).run P w = .ok len w) (hn : cs.length = len) :
    (loadVar t ⟨b, 0, none⟩).run P w = .ok (.agg cs.toArray) w := by
  have := run_loadCells_list (P := P) w ⟨b, 0, none⟩ cs (fun j u hj => by
    rw [Addr.add_lit, Nat.zero_add]
    exact ((CellAt.pt (F := F) hk hj) w s).cell)
  rw [hn] at this
  simp [loadVar, ht, hl, this]
theorem Ext.retC {fn : Func} {post : Value → List SP → Prop} {t : Nat} {T T' : TypeId} {b len : Nat} {cs : List Value} (hr : fn.results = #[.cell t T]) (ht : Env.get env t = some (.pointer (some ⟨b, 0, none⟩))) (hk : TakeP (pt b T' cs) hs r)
    (hi : ∀ w, (isAgg T).run P w = .ok true w) (hl : ∀ w, (sizeOf T).run P w = .ok len w) (hn : cs.length = len) (h : post (.agg cs.toArray) r) :
    Ext P n F (.done fn fun e w' => ∃ v hs', e = .returned v ∧ post v hs' ∧ Sat F hs' w') .ret env hs := fun a w s =>
  ⟨s.ag.defers, .agg cs.toArray, by
    have h1 := s.ag.at_ t _ ht
    have h2 := load_pt s.sat hk hi hl hn
    simp [results, hr, asAddr, h1, h2], _, r, rfl, h, s.sat.ent (hk.ent.trans Ent.drop)⟩
theorem Ext.retCN {fn : Func} {post : Value → List SP → Prop} {t : Nat} {T T' : TypeId} {b len : Nat} {cs : List Value} (hr : fn.results = #[.cell t T]) (ht : Env.get env t = some (.pointer (some ⟨b, 0, none⟩))) (hk : TakeP (pt b T' cs) hs r)
    (hi : ∀ w, (isAgg T).run P w = .ok true w) (hl : ∀ w, (sizeOf T).run P w = .ok len w) (hn : cs.length = len) (h : post (.agg cs.toArray) r) :
    Ext P n F (.done fn fun e w' => ∃ v hs', e = .returned v ∧ post v hs' ∧ Sat F hs' w') .normal env hs := Ext.retC hr ht hk hi hl hn h
theorem Ext.retCE {fn : Func} {post : Value → List SP → Prop} {t : Nat} {T T' : TypeId} {b len : Nat} {cs : List Value} {hs' : List SP} (hr : fn.results = #[.cell t T]) (ht : Env.get env t = some (.pointer (some ⟨b, 0, none⟩))) (hk : TakeP (pt b T' cs) hs r)
    (hi : ∀ w, (isAgg T).run P w = .ok true w) (hl : ∀ w, (sizeOf T).run P w = .ok len w) (hn : cs.length = len) (e : Ent r hs') (h : post (.agg cs.toArray) hs') :
    Ext P n F (.done fn fun e w' => ∃ v hs', e = .returned v ∧ post v hs' ∧ Sat F hs' w') .ret env hs := fun a w s =>
  Ext.retC (post := fun v h0 => post v hs' ∧ h0 = r) hr ht hk hi hl hn ⟨h, rfl⟩ a w s |> fun ⟨d, v, hv, v', h0, e0, ⟨hp, he⟩, hs0⟩ => ⟨d, v, hv, v', hs', e0, hp, by subst he; exact hs0.ent e⟩
theorem Ext.retCEN {fn : Func} {post : Value → List SP → Prop} {t : Nat} {T T' : TypeId} {b len : Nat} {cs : List Value} {hs' : List SP} (hr : fn.results = #[.cell t T]) (ht : Env.get env t = some (.pointer (some ⟨b, 0, none⟩))) (hk : TakeP (pt b T' cs) hs r)
    (hi : ∀ w, (isAgg T).run P w = .ok true w) (hl : ∀ w, (sizeOf T).run P w = .ok len w) (hn : cs.length = len) (e : Ent r hs') (h : post (.agg cs.toArray) hs') :
    Ext P n F (.done fn fun e w' => ∃ v hs', e = .returned v ∧ post v hs' ∧ Sat F hs' w') .normal env hs := Ext.retCE hr ht hk hi hl hn e h
theorem Qs.callG {ops : Array Oper} {l : List Oper} {dst : Option Tmp} {ty : TypeId} {pos : String} {after : Array Edge} {g : Option (Nat × Bool)} {fv : Operand} {f : FuncId} {first cap : Array Value} {args : Array Operand} {ats : Array TypeId} {vs as : List Value} {pre rest : List SP} {v : Value} {j t : Nat} {b c : Bool}
    (hg : g = some (j, b)) (hj : (ops[j]?).bind (·.dst) = some t) (ht : Env.get env t = some (.bool c)) (hc : c = b)
    (hb : HasBody P f) (hf : ev env fv = some (.func (.func f) first cap)) (hargs : evs env args.toList = some vs) (has : first.toList ++ vs ++ cap.toList = as)
    (hk : Takes pre hs rest) (spec : ∀ F', Wider F rest F' → Spec P F' f as pre (fun u hs' => u = v ∧ Ent (hs' ++ rest) hs)) {d : Nat} (hdst : dst = some d) (hd : Nat.blt d n = true)
    (hK : Qs P n F k ops l ((d, v) :: env) hs) :
    Qs P n F k ops (⟨dst, .call { callee := .value fv, args := args, argTypes := ats }, ty, pos, after, g⟩ :: l) env hs := by
  intro a ha
  refine wpQuiet_step fun K hK' => ?_
  rw [if_pos (by rw [wanted_of ha hg hj ht]; simpa using hc)]
  refine ⟨v, fun w s => ?_, hK' _ (hK _ (ha.putS v hdst hd))⟩
  unfold Oper.quietAt
  rw [call_run ha hb hf hargs w, has]
  refine ⟨rfl, (calls_of_spec hk spec s).mono fun e w' ⟨u, hs', he, ⟨hu, hE⟩, hs2⟩ => ?_⟩
  subst hu
  exact ⟨he, hs2.ent hE⟩
/-- A function that takes nothing and leaves nothing, called where all is only read. -/
theorem Spec.quiet {f : FuncId} {as : List Value} {F' : Fr} (h : Spec P F' f as [] (fun u hs' => u = v ∧ hs' = [])) : Spec P F' f as [] (fun u hs' => u = v ∧ Ent (hs' ++ hs) hs) :=
  Spec.weak h fun _ hs' ⟨hu, he⟩ => ⟨hs', Ent.refl _, hu, by subst he; exact Ent.refl _⟩
end
end Go.Proofs.Ytjlimnckdblkhaa
