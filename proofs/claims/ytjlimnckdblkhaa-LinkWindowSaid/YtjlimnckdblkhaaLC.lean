/- From a law's contract to its row; arguments read as data, as slices of bytes and of numbers. No condition. -/
import Derived.Test.YtjlimnckdblkhaaLB
import Derived.ProofKit
import Derived.Deep.Slices
import Derived.Deep.Fields
namespace Go.Proofs.Ytjlimnckdblkhaa
open Go Go.ChangeShapes Go.WideShapes Go.ChangeAt Go.RowKit

theorem Sat.below {W w : World} {hs : List SP} (s : Sat (World.fr W) hs w) : Below W.heap.size W w := by
  obtain ⟨h, d, u, _⟩ := s.heap
  have keep : ∀ k, k < W.heap.size → w.heap[k]? = W.heap[k]? := by
    intro k hk
    have h1 : (World.fr W).hf k = some W.heap[k] := by simp [World.fr, hp, hk]
    have h2 := congrFun u k
    rw [Hp.un_of_right d h1] at h2
    have h3 : w.heap[k]? = some W.heap[k] := h2
    rw [h3]; simp [hk]
  refine ⟨s.os, s.tape, s.out, ?_, keep⟩
  rcases Nat.lt_or_ge w.heap.size W.heap.size with hlt | hge
  · have := keep w.heap.size hlt
    simp [hlt] at this
  · exact hge

/-- A law's contract, said of a world. -/
theorem law_calls {P : Program} {f : FuncId} {args : List Value} {W : World} (h : Spec P (World.fr W) f args [] (fun u _ => u = .bool true)) :
    Calls P f args.toArray W fun e W' => e = .returned (.bool true) ∧ Below W.heap.size W W' :=
  (h W (Sat.start W)).mono fun _ _ ⟨v, _, he, hv, hs⟩ => by subst hv; exact ⟨he, hs.below⟩

section
variable {H : Type} {enc : TypeId × Value → H} {P : Program}

theorem trodAll_below (hl : laidOutB P = true) {W W' : World} (hb : Below W.heap.size W W') : ∀ (ts : List TypeId) (vs : List Value) (ds : List (DataW H)) (ps : List MemPlace),
    (∀ t ∈ ts, P.readableRec t = true ∧ t < P.types.size) → (∀ x ∈ ps, x.block < W.heap.size) → DataW.TrodAll enc P W 0 (fun _ => true) true ts vs ds ps →
    DataW.TrodAll enc P W' 0 (fun b => decide (b < W.heap.size)) true ts vs ds ps
  | [], vs, ds, ps, _, _, h => by
    obtain ⟨rfl, rfl, rfl⟩ := trodAll_nil h
    exact trodAll_mk0
  | t :: ts, vs, ds, ps, ht, hp, h => by
    obtain ⟨v, vs', d, ds', p, q, rfl, rfl, rfl, h1, h2⟩ := trodAll_cons h
    have hT := ht t (List.mem_cons_self ..)
    refine ⟨p, q, Below.trod hl hT.1 hT.2 h1 hb fun x hx => hp x (List.mem_append_left _ hx), ?_, rfl⟩
    exact trodAll_below hl hb ts vs' ds' q (fun t ht' => ht t (List.mem_cons_of_mem _ ht')) (fun x hx => hp x (List.mem_append_right _ hx)) h2

theorem trodAll_length {w : World} {base : Nat} {spare : Nat → Bool} {held : Bool} : ∀ (ts : List TypeId) (vs : List Value) (ds : List (DataW H)) (ps : List MemPlace), DataW.TrodAll enc P w base spare held ts vs ds ps → ds.length = ts.length
  | [], vs, ds, ps, h => by obtain ⟨rfl, rfl, rfl⟩ := trodAll_nil h; rfl
  | t :: ts, vs, ds, ps, h => by
    obtain ⟨v, vs', d, ds', p, q, rfl, rfl, rfl, h1, h2⟩ := trodAll_cons h
    simp [trodAll_length ts vs' ds' q h2]

/-- A law's row, out of its contract. -/
theorem law_lift {C : Checked} {os : Os} {f : FuncId} {fn : Func} {s : ChangeSpec} {tb : TypeId} (own : ownKnob C.prog.godebug = none) (started : os.Started) (noInit : C.prog.inits.idxOf? f = none) (hfn : C.prog.funcs[f]? = some fn)
    (laid : laidOutB C.prog = true) (hres : fn.resultTypes = #[tb]) (hbool : C.prog.underlying tb = some .bool) (hvars : s.vars = []) (hparams : (fn.params.toList.all fun t => C.prog.readableRec t && decide (t < C.prog.types.size)) = true)
    (hspec : ∀ ds : List (DataW H), ds.length = fn.params.toList.length → s.fn H ds = { results := [.lit (.bool true)], args := ds })
    (witness : ∃ (w : World) (tape : Tape) (i : Input), w.os = os ∧ (w.forCall tape i).Shaped C.prog ∧ i.vars = [] ∧ Input.okWide C.prog (w.forCall tape i) .any w.heap.size f i ∧
      s.pre6 enc C.prog fn [] false (w.forCall tape i).memory i.args ∧ ({} : Assume).holds C.prog (lone (Frame.enter C.prog f i.args .normal) [] (w.forCall tape i)))
    (law : ∀ (W : World) (base : Nat) (args : Array Value) (ds : List (DataW H)) (ps : List MemPlace), (∀ (j : Nat) t v, fn.params[j]? = some t → args[j]? = some v → Value.okWide C.prog W .any base t v) →
      DataW.TrodAll enc C.prog W 0 (fun _ => true) true fn.params.toList args.toList ds ps → Spec C.prog (World.fr W) f args.toList [] (fun u _ => u = .bool true)) :
    ReturnsInHanded {} C os f .any (s.pre6 enc C.prog fn [] false) (s.post enc C.prog fn false true false false) := by
  refine returnsInHanded_of_change own started noInit hfn witness ?_
  intro W base args ds gs before hval hW _ _
  have hW' := hW
  obtain ⟨p, q, hA, hV, rfl, _, _⟩ := hW
  rw [hvars] at hV
  obtain ⟨rfl, rfl⟩ := trodVars_none hV
  have hA' : DataW.TrodAll enc C.prog W 0 (fun _ => true) true fn.params.toList args.toList ds p := hA
  have hlen := trodAll_length _ _ _ _ hA'
  have hlt : ∀ x ∈ p, x.block < W.heap.size := fun x hx => by simpa using hW'.lt x (by simpa using hx)
  have := law_calls (law W base args ds p hval hA')
  rw [Array.toArray_toList] at this
  refine this.mono fun e W' ⟨he, hb⟩ => ⟨_, he, ds, [], p ++ [], [], p, [], hW', ?_, ?_, ?_, hb.frame _, by intro h; cases h⟩
  · rw [List.append_nil, hspec ds hlen, hres]
    exact trodAll_mk1 (shut_bool hbool true)
  · rw [List.append_nil, hspec ds hlen]
    exact trodAll_below laid hb _ _ _ _ (fun t ht => by simpa using List.all_eq_true.1 hparams t ht) hlt hA'
  · rw [hvars, List.append_nil, hspec ds hlen]
    rfl

theorem HCell.of_cell {w : World} {a : Addr} {u : Value} (h : w.cell? a = some u) : HCell (hp w) a u := by
  unfold World.cell? at h
  split at h
  · rename_i c T fz hb
    cases hs : a.spot with
    | some s => rw [hs] at h; simp at h
    | none => rw [hs] at h; exact ⟨hs, c, T, fz, hb, by simpa using h⟩
  · cases h

/-- A slice of bytes, read. -/
theorem open_bytes {w : World} {base b0 : Nat} {spare : Nat → Bool} {held : Bool} {r : Reach} {t e : TypeId} {v : Value} {d : DataW H} {p : List MemPlace} (ht : P.underlying t = some (.slice e)) (he : P.underlying e = some (.int .u8)) (hc : P.cellsOf e = 1)
    (hv : Value.okWide P w r b0 t v) (h : DataW.Trod enc P w base spare held t v d p) (hsp : ∀ b, spare b = true) : ∃ bs : List UInt8, SlR (hp w) v 1 bs.length (u8s bs) := by
  obtain ⟨a0, len, cap, rfl⟩ := okWide_slice ht hv
  obtain ⟨fuel, hf⟩ := h
  rcases open_ints ht he hc hf with ⟨hcs, _⟩ | ⟨a, len', cap', zs, hcs, _, hl, hm, hz, _, hcell, hwz⟩
  · simp [Value.cells] at hcs
    obtain ⟨rfl, rfl, rfl⟩ := hcs
    exact ⟨[], SlR.nil _ _⟩
  · simp [Value.cells] at hcs
    obtain ⟨rfl, rfl, rfl⟩ := hcs
    rw [hsp, if_pos rfl] at hz
    have hn : (zs.take len).length = len := by simp; omega
    have hbl : ((zs.take len).map fun z => UInt8.ofNat z.toNat).length = len := by rw [List.length_map]; exact hn
    refine ⟨(zs.take len).map fun z => UInt8.ofNat z.toNat, ?_⟩
    rw [hbl]
    refine ⟨⟨some a, cap, rfl, hl, hm, (by intro h; cases h), ?_⟩, by rw [u8s_len, hbl, Nat.mul_one], u8s_one _⟩
    intro a' ha i u hu
    obtain rfl := Option.some.inj ha
    simp only [u8s, List.map_map, List.getElem?_map] at hu
    cases hzi : (zs.take len)[i]? with
    | none => rw [hzi] at hu; cases hu
    | some z =>
      rw [hzi] at hu
      have hu' := Option.some.inj hu
      subst hu'
      have hil : i < len := by
        have := (List.getElem?_eq_some_iff.1 hzi).1
        omega
      rw [List.getElem?_take, if_pos hil] at hzi
      have h1 := hcell i (by omega)
      have h2 := hwz z (List.mem_of_getElem? hzi)
      refine HCell.of_cell ?_
      rw [h1]
      have h3 : zs.getD i 0 = z := by simp [List.getD, hzi]
      rw [h3]
      simp only [Lit.wf, Bool.and_eq_true, decide_eq_true_eq] at h2
      have h4 : IntKind.u8.min = 0 := rfl
      have h5 : IntKind.u8.max = 255 := rfl
      simp only [Function.comp_apply]
      congr 2
      have : (UInt8.ofNat z.toNat).toNat = z.toNat := by rw [UInt8.toNat_ofNat_of_lt']; show z.toNat < 256; omega
      omega
end
end Go.Proofs.Ytjlimnckdblkhaa
