/- From a law's contract to its row, where package-level variables lie as the program's text lays them. No condition. -/
import Derived.Test.YtjlimnckdblkhaaLF
import Derived.Test.YtjlimnckdblkhaaLK
import Derived.LaidMore
import Derived.OpenShut
import Derived.Stop.Joined
import Derived.SevenTiedAt
namespace Go.Proofs.Ytjlimnckdblkhaa
open Go Go.ChangeShapes Go.WideShapes Go.ChangeAt Go.RowKit

section
variable {H : Type} {enc : TypeId × Value → H} {P : Program}

/-- A law's row, out of its contract; the listed variables read as listed. -/
theorem law_lift_laid {C : Checked} {os : Os} {f : FuncId} {fn : Func} {s : ChangeSpec} {tb : TypeId} {laid : List (String × DataW Unit)} (own : ownKnob C.prog.godebug = none) (started : os.Started) (noInit : C.prog.inits.idxOf? f = none) (hfn : C.prog.funcs[f]? = some fn)
    (lout : laidOutB C.prog = true) (hres : fn.resultTypes = #[tb]) (hbool : C.prog.underlying tb = some .bool) (hvars : s.vars = []) (hparams : (fn.params.toList.all fun t => C.prog.readableRec t && decide (t < C.prog.types.size)) = true)
    (hspec : ∀ ds : List (DataW H), ds.length = fn.params.toList.length → s.fn H ds = { results := [.lit (.bool true)], args := ds })
    (witness : ∃ (w : World) (tape : Tape) (i : Input), w.os = os ∧ (w.forCall tape i).Shaped C.prog ∧ i.vars = [] ∧ Input.okWide C.prog (w.forCall tape i) .any w.heap.size f i ∧
      ((s.pre enc C.prog fn [] false (w.forCall tape i).memory i.args ∧ laidMetH C.prog laid (w.forCall tape i).memory) ∧ sizedMet enc C.prog fn (OpenSpec.ofChange s) false (w.forCall tape i).memory i.args) ∧ ({} : Assume).holds C.prog (lone (Frame.enter C.prog f i.args .normal) [] (w.forCall tape i)))
    (law : ∀ (W : World) (base : Nat) (args : Array Value) (ds : List (DataW H)) (ps : List MemPlace), (∀ (j : Nat) t v, fn.params[j]? = some t → args[j]? = some v → Value.okWide C.prog W .any base t v) →
      DataW.TrodAll enc C.prog W 0 (fun _ => true) true fn.params.toList args.toList ds ps → laidMetH C.prog laid W → Spec C.prog (World.fr W) f args.toList [] (fun u _ => u = .bool true)) :
    ReturnsInHanded {} C os f .any (fun w args => (s.pre enc C.prog fn [] false w args ∧ laidMetH C.prog laid w) ∧ sizedMet enc C.prog fn (OpenSpec.ofChange s) false w args) (s.post enc C.prog fn false true false false) := by
  refine returnsInHanded_of_change_and (X := fun w _ => laidMetH C.prog laid w) (fun _ _ _ hh h => h.of_heap hh) own started noInit hfn witness ?_
  intro W base args ds gs before hval hW _ _ hL _
  have hW' := hW
  obtain ⟨p, q, hA, hV, rfl, _, _⟩ := hW
  rw [hvars] at hV
  obtain ⟨rfl, rfl⟩ := trodVars_none hV
  have hA' : DataW.TrodAll enc C.prog W 0 (fun _ => true) true fn.params.toList args.toList ds p := hA
  have hlen := trodAll_length _ _ _ _ hA'
  have hlt : ∀ x ∈ p, x.block < W.heap.size := fun x hx => by simpa using hW'.lt x (by simpa using hx)
  have := law_calls (law W base args ds p hval hA' hL)
  rw [Array.toArray_toList] at this
  refine this.mono fun e W' ⟨he, hb⟩ => ⟨_, he, ds, [], p ++ [], [], p, [], hW', ?_, ?_, ?_, hb.frame _, by intro h; cases h⟩
  · rw [List.append_nil, hspec ds hlen, hres]
    exact trodAll_mk1 (shut_bool hbool true)
  · rw [List.append_nil, hspec ds hlen]
    exact trodAll_below lout hb _ _ _ _ (fun t ht => by simpa using List.all_eq_true.1 hparams t ht) hlt hA'
  · rw [hvars, List.append_nil, hspec ds hlen]
    rfl

/-- A table of numbers that lies as it is laid: its cells. -/
theorem laid_cells {W : World} {g n : Nat} {t e : TypeId} {k : IntKind} {cs : Array Value} {name : String} {xs : List Int} {spare : Nat → Bool} {held : Bool} {base fuel : Nat} {q : List MemPlace} (hg : P.globalNamed name = some g) (hv : W.var? P name = some cs)
    (hd : DataW.trod (H := H) enc P W base spare held fuel t cs.toList = some (.agg (xs.map fun x => .lit (.int k x)), q)) (hu : P.underlying t = some (.array n e)) (he : P.underlying e = some (.int k)) (hc : P.cellsOf e = 1) :
    ∀ j x, xs[j]? = some x → HCell (hp W) ⟨g, j, none⟩ (.int k x) := by
  intro j x hx
  obtain ⟨ys, m, rfl, hx1, hlen, hn, hel⟩ := DataW.trod_array hu hd
  simp only [Prod.mk.injEq, DataW.agg.injEq] at hx1
  have h1 : (ys.map (·.1))[j]? = some (.lit (.int k x)) := by rw [← hx1.1, List.getElem?_map, hx]; rfl
  rw [List.getElem?_map] at h1
  cases hy : ys[j]? with
  | none => rw [hy] at h1; cases h1
  | some y =>
    rw [hy] at h1
    have hlt : j < n := by have := (List.getElem?_eq_some_iff.1 hy).1; omega
    have h2 := hel j hlt
    rw [hy, hc, Nat.mul_one] at h2
    obtain ⟨z, e1, e2, _⟩ := DataW.trod_int he h2
    rw [e2] at h1
    have hz : z = x := by simpa using h1
    subst hz
    have h3 : cs.toList[j]? = some (.int k z) := by
      have h4 : ((cs.toList.drop j).take 1)[0]? = some (.int k z) := by rw [e1]; rfl
      simpa [List.getElem?_take, List.getElem?_drop] using h4
    refine HCell.of_cell ?_
    rw [World.var?_cell hg hv j]
    simpa using h3

section
variable {w : World} {base b0 : Nat} {spare : Nat → Bool} {held : Bool} {r : Reach} {t e u : TypeId} {v : Value} {d : DataW H} {p : List MemPlace}
theorem wf_u {k : IntKind} {x : Int} (h : (Lit.int k x).wf = true) : k.min ≤ x ∧ x ≤ k.max := by simpa [Lit.wf] using h
theorem open_w8 (ht : P.underlying t = some (.int .u8)) (hv : Value.okWide P w r b0 t v) (h : DataW.Trod enc P w base spare held t v d p) : ∃ c : UInt8, v = W8 c := by
  obtain ⟨k, rfl, _, _, hw⟩ := open_int ht hv h
  have h1 := wf_u hw
  have h2 : IntKind.u8.min = 0 := rfl
  have h3 : IntKind.u8.max = 255 := rfl
  refine ⟨UInt8.ofNat k.toNat, ?_⟩
  congr 1
  rw [UInt8.toNat_ofNat']
  omega
theorem open_w64 (ht : P.underlying t = some (.int .u64)) (hv : Value.okWide P w r b0 t v) (h : DataW.Trod enc P w base spare held t v d p) : ∃ c : UInt64, v = W64 c := by
  obtain ⟨k, rfl, _, _, hw⟩ := open_int ht hv h
  have h1 := wf_u hw
  have h2 : IntKind.u64.min = 0 := rfl
  have h3 : IntKind.u64.max = 18446744073709551615 := rfl
  refine ⟨UInt64.ofNat k.toNat, ?_⟩
  congr 1
  rw [UInt64.toNat_ofNat']
  omega
theorem rows_bytes {rows : List (List Value)} (h : ∀ r ∈ rows, (∃ v, ∃ bs : List UInt8, r = [v] ∧ SlR (hp w) v 1 bs.length (u8s bs)) ∧ r.length = 1) : ∃ vs ls, rows.flatten = vs ∧ rows.length = ls.length ∧ Rows8 (World.fr w) vs ls := by
  induction rows with
  | nil => exact ⟨[], [], rfl, rfl, .nil⟩
  | cons r rows ih =>
    obtain ⟨vs, ls, h1, h2, h3⟩ := ih fun q hq => h q (List.mem_cons_of_mem _ hq)
    obtain ⟨⟨v, bs, rfl, hs⟩, _⟩ := h r (List.mem_cons_self ..)
    exact ⟨v :: vs, bs :: ls, by rw [List.flatten_cons, h1]; rfl, by simp [h2], .cons hs h3⟩
theorem open_bytess (ht : P.underlying t = some (.slice e)) (he : P.underlying e = some (.slice u)) (hu : P.underlying u = some (.int .u8)) (hc : P.cellsOf u = 1) (hc2 : P.cellsOf e = 1)
    (hv : Value.okWide P w r b0 t v) (h : DataW.Trod enc P w base spare held t v d p) : ∃ vs ls, SlR (hp w) v 1 (ls : List (List UInt8)).length vs ∧ Rows8 (World.fr w) vs ls := by
  obtain ⟨a0, len, cap, rfl⟩ := okWide_slice ht hv
  obtain ⟨fuel, hf⟩ := h
  have h1 := (OpenAt.slice (enc := enc) (w := w) (base := base) (spare := spare) (held := held) ht hc2 (OpenAt.bytes he hu hc) (fun r ⟨v, bs, hr, hs⟩ => by subst hr; exact One.cons hs.sl.one One.nil)) fuel _ _ hf
  obtain ⟨v', rows, hcs, hrows⟩ := h1
  obtain ⟨vs, ls, e1, e2, e3⟩ := rows_bytes (fun r hr => hrows.each r hr)
  have e4 : Value.slice a0 len cap = v' := by simpa [Value.cells] using hcs
  subst e4
  refine ⟨vs, ls, ?_, e3⟩
  rw [← e1, ← e2]
  exact hrows.sl
end
end
end Go.Proofs.Ytjlimnckdblkhaa
