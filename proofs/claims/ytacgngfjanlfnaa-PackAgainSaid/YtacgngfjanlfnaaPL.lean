/- Arguments that are fields and records, opened. No condition. -/
import Derived.Test.YtacgngfjanlfnaaPK
namespace Go.Proofs.Ytacgngfjanlfnaa
open Go Go.ChangeShapes Go.WideShapes Go.ChangeAt Go.RowKit

section
variable {H : Type} {enc : TypeId × Value → H} {P : Program} {w : World} {base : Nat} {spare : Nat → Bool} {held : Bool}
theorem int_n {t : TypeId} {k : IntKind} {n : Nat} (ht : P.underlying t = some (.int k)) {cs : List Value} {x : DataW H × List MemPlace} (h : DataW.trod enc P w base spare held n t cs = some x) : ∃ z, cs = [.int k z] ∧ (Lit.int k z).wf = true := OpenAt.int ht _ _ _ h
theorem struct_n {t : TypeId} {fs : Array Field} {n : Nat} (ht : P.underlying t = some (.struct fs)) {cs : List Value} {x : DataW H × List MemPlace} (h : DataW.trod enc P w base spare held (n + 1) t cs = some x) :
    cs.length = P.cellsOf t ∧ ∀ (i : Nat) (f : Field), fs[i]? = some f → ∃ y, DataW.trod enc P w base spare held n f.type ((cs.drop f.offset).take (P.cellsOf f.type)) = some y := by
  obtain ⟨xs, m, hm, _, hl, hlen, hf⟩ := DataW.trod_struct ht h
  obtain rfl : m = n := by omega
  refine ⟨hl, fun i f hi => ?_⟩
  have hlt : i < xs.length := by rw [hlen]; exact (Array.getElem?_eq_some_iff.1 hi).1
  have := hf i f hi
  rw [List.getElem?_eq_getElem hlt] at this
  exact ⟨_, this⟩
theorem field_n {fs : Array Field} {cs : List Value} {n : Nat} (h : ∀ (i : Nat) (f : Field), fs[i]? = some f → ∃ y, DataW.trod enc P w base spare held n f.type ((cs.drop f.offset).take (P.cellsOf f.type)) = some y)
    (i : Nat) {t : TypeId} {o m : Nat} (hc : P.cellsOf t = m) {f : Field} (hi : fs[i]? = some f) (ht : f.type = t) (ho : f.offset = o) : ∃ y, DataW.trod enc P w base spare held n t ((cs.drop o).take m) = some y := by
  subst ht ho hc
  exact h i f hi
theorem slice_n {t e : TypeId} {sz n : Nat} {Q : List Value → Prop} (ht : P.underlying t = some (.slice e)) (hc : P.cellsOf e = sz) (he : ∀ cs x, DataW.trod enc P w base spare held n e cs = some x → Q cs) (h1 : ∀ r, Q r → One r)
    {cs : List Value} {x : DataW H × List MemPlace} (h : DataW.trod enc P w base spare held (n + 1) t cs = some x) : ∃ v rows, cs = [v] ∧ RowsAt w (fun r => Q r ∧ r.length = sz) sz v rows := by
  rcases DataW.trod_slice ht h with ⟨h0, _⟩ | ⟨a, len, cap, elems, rest, m, hn, hcs, _, hb, hl, hm, hlen, hel, _, _⟩
  · exact ⟨_, [], h0, SlR.nil _ _, by simp⟩
  · obtain rfl : m = n := by omega
    have hrow : ∀ i, i < len → ∃ r, w.cells? base (a.add (i * sz)) sz = some r ∧ Q r := fun i hi => by
      have h2 := hel i hi
      rw [List.getElem?_eq_getElem (by omega : i < elems.length), hc, Option.bind_eq_some_iff] at h2
      obtain ⟨r, hr, hx⟩ := h2
      exact ⟨r, hr, he r _ hx⟩
    let row (i : Nat) : List Value := (w.cells? base (a.add (i * sz)) sz).getD []
    have hr : ∀ i, i < len → w.cells? base (a.add (i * sz)) sz = some (row i) ∧ Q (row i) := fun i hi => by
      obtain ⟨r, h1, h2⟩ := hrow i hi
      have : row i = r := by simp only [row, h1, Option.getD_some]
      rw [this]
      exact ⟨h1, h2⟩
    let rows := (List.range len).map row
    have hmem : ∀ r ∈ rows, Q r ∧ r.length = sz := fun r hm => by
      obtain ⟨i, hi, rfl⟩ := List.mem_map.1 hm
      have hi := List.mem_range.1 hi
      exact ⟨(hr i hi).2, (cells_get (hr i hi).1).1⟩
    have hrl : rows.length = len := by simp [rows]
    refine ⟨_, rows, hcs, ⟨?_, hmem⟩⟩
    rw [hrl]
    refine ⟨⟨some a, cap, rfl, hl, hm, (by intro h; cases h), ?_⟩, by rw [flat_len fun r h => (hmem r h).2, hrl], ?_⟩
    · intro a' ha i u hu
      obtain rfl := Option.some.inj ha
      obtain ⟨k, j, r, rfl, hk, hj⟩ := flat_get (fun r h => (hmem r h).2) hu
      have hkl : k < len := by have := (List.getElem?_eq_some_iff.1 hk).1; omega
      have hrk : r = row k := by
        simp only [rows, List.getElem?_map] at hk
        rw [List.getElem?_range hkl] at hk
        exact (Option.some.inj hk).symm
      subst hrk
      have := (cells_get (hr k hkl).1).2 j u hj
      rw [Addr.add_add] at this
      exact HCell.of_cell this
    · intro u hu
      obtain ⟨r, hr, hu⟩ := List.mem_flatten.1 hu
      exact h1 r (hmem r hr).1 u hu
theorem w64_n {t : TypeId} {n : Nat} (ht : P.underlying t = some (.int .u64)) {cs : List Value} {x : DataW H × List MemPlace} (h : DataW.trod enc P w base spare held n t cs = some x) : ∃ c : UInt64, cs = [W64 c] := by
  obtain ⟨z, rfl, hw⟩ := int_n ht h
  have h1 := wf_u hw
  have h2 : IntKind.u64.min = 0 := rfl
  have h3 : IntKind.u64.max = 18446744073709551615 := rfl
  refine ⟨UInt64.ofNat z.toNat, ?_⟩
  congr 2
  rw [UInt64.toNat_ofNat']
  omega
theorem bytes_n {t e : TypeId} {n : Nat} (ht : P.underlying t = some (.slice e)) (he : P.underlying e = some (.int .u8)) (hc : P.cellsOf e = 1) {cs : List Value} {x : DataW H × List MemPlace} (h : DataW.trod enc P w base spare held n t cs = some x) :
    ∃ v, ∃ bs : List UInt8, cs = [v] ∧ SlR (hp w) v 1 bs.length (u8s bs) := OpenAt.bytes ht he hc _ _ _ h
theorem FldR.one {h : Hp} {f : Fld} {cs : List Value} (x : FldR h f cs) : One cs := by
  cases f
  rw [FldR] at x
  obtain ⟨v, rfl, ocs, hs, _⟩ := x
  exact One.cons rfl (One.cons rfl (One.cons rfl (One.cons hs.sl.one One.nil)))
theorem rows_flds {h : Hp} : ∀ {rows : List (List Value)}, (∀ r ∈ rows, (∃ f, FldR h f r) ∧ r.length = 4) → ∃ fs, FldsR h fs rows.flatten ∧ fs.length = rows.length
  | [], _ => ⟨[], by rw [FldsR]; rfl, rfl⟩
  | r :: rows, hr => by
    obtain ⟨⟨f, hf⟩, _⟩ := hr r (List.mem_cons_self ..)
    obtain ⟨fs, h1, h2⟩ := rows_flds fun q hq => hr q (List.mem_cons_of_mem _ hq)
    exact ⟨f :: fs, by rw [FldsR]; exact ⟨r, rows.flatten, rfl, hf, h1⟩, by simp [h2]⟩
theorem ValR.one {h : Hp} {f : Val} {cs : List Value} (x : ValR h f cs) : One cs := by
  cases f
  rw [ValR] at x
  obtain ⟨bv, lv, rfl, hs, rows, hl, _⟩ := x
  exact One.cons rfl (One.cons hs.sl.one (One.cons hl.sl.one One.nil))
theorem rows_vals {h : Hp} : ∀ {rows : List (List Value)}, (∀ r ∈ rows, (∃ f, ValR h f r) ∧ r.length = 3) → ∃ fs, ValsR h fs rows.flatten ∧ fs.length = rows.length
  | [], _ => ⟨[], by rw [ValsR]; rfl, rfl⟩
  | r :: rows, hr => by
    obtain ⟨⟨f, hf⟩, _⟩ := hr r (List.mem_cons_self ..)
    obtain ⟨fs, h1, h2⟩ := rows_vals fun q hq => hr q (List.mem_cons_of_mem _ hq)
    exact ⟨f :: fs, by rw [ValsR]; exact ⟨r, rows.flatten, rfl, hf, h1⟩, by simp [h2]⟩
/-- A record's slice. -/
def RecR (h : Hp) (v : Value) (vs : List Val) : Prop := ∃ ws, SlR h v 3 vs.length ws ∧ ValsR h vs ws
theorem rows_recs {h : Hp} : ∀ {rows : List (List Value)}, (∀ r ∈ rows, (∃ v, r = [v] ∧ ∃ vs, RecR h v vs) ∧ r.length = 1) → ∃ fs, RecsR h fs rows.flatten ∧ fs.length = rows.length
  | [], _ => ⟨[], by rw [RecsR]; rfl, rfl⟩
  | r :: rows, hr => by
    obtain ⟨⟨v, rfl, vs, ws, h3, h4⟩, _⟩ := hr r (List.mem_cons_self ..)
    obtain ⟨fs, h1, h2⟩ := rows_recs fun q hq => hr q (List.mem_cons_of_mem _ hq)
    exact ⟨vs :: fs, by rw [RecsR]; exact ⟨v, ws, rows.flatten, rfl, h3, h4, h1⟩, by simp [h2]⟩
end

section
variable {H : Type} {enc : TypeId × Value → H} {w : World} {base b0 : Nat} {spare : Nat → Bool} {held : Bool}
theorem fld_n : ∀ (n : Nat) (cs : List Value) (x : DataW H × List MemPlace), DataW.trod enc Try.prog w base spare held n 37 cs = some x → ∃ f, FldR (hp w) f cs
  | 0, cs, x, h => by simp [DataW.trod] at h
  | 1, cs, x, h => by
    obtain ⟨_, hf⟩ := struct_n Try.underlying37 h
    obtain ⟨y, hy⟩ := field_n hf 0 (t := 3) (o := 0) (m := 1) (by kernel_rfl) rfl rfl rfl
    simp [DataW.trod] at hy
  | n + 2, cs, x, h => by
    obtain ⟨hl, hf⟩ := struct_n Try.underlying37 h
    have hl4 : cs.length = 4 := hl.trans (by kernel_rfl)
    obtain ⟨y0, h0⟩ := field_n hf 0 (t := 3) (o := 0) (m := 1) (by kernel_rfl) rfl rfl rfl
    obtain ⟨y1, h1⟩ := field_n hf 1 (t := 35) (o := 1) (m := 1) (by kernel_rfl) rfl rfl rfl
    obtain ⟨y2, h2⟩ := field_n hf 2 (t := 35) (o := 2) (m := 1) (by kernel_rfl) rfl rfl rfl
    obtain ⟨y3, h3⟩ := field_n hf 3 (t := 22) (o := 3) (m := 1) (by kernel_rfl) rfl rfl rfl
    obtain ⟨k, e0, _⟩ := int_n Try.underlying3 h0
    obtain ⟨mn, e1⟩ := w64_n Try.underlying35 h1
    obtain ⟨mx, e2⟩ := w64_n Try.underlying35 h2
    obtain ⟨v, rows, e3, hrows⟩ := slice_n (sz := 4) (Q := fun r => ∃ f, FldR (hp w) f r) Try.underlying22 (by kernel_rfl) (fld_n n) (fun r ⟨f, hf⟩ => hf.one) h3
    obtain ⟨of, ho, hol⟩ := rows_flds hrows.each
    refine ⟨.mk k mn mx of, ?_⟩
    rw [FldR]
    refine ⟨v, ?_, rows.flatten, by rw [hol]; exact hrows.sl, ho⟩
    match cs, hl4 with
    | [c0, c1, c2, c3], _ =>
      simp at e0 e1 e2 e3
      rw [e0, e1, e2, e3]
theorem val_n : ∀ (n : Nat) (cs : List Value) (x : DataW H × List MemPlace), DataW.trod enc Try.prog w base spare held n 40 cs = some x → ∃ f, ValR (hp w) f cs
  | 0, cs, x, h => by simp [DataW.trod] at h
  | 1, cs, x, h => by
    obtain ⟨_, hf⟩ := struct_n Try.underlying40 h
    obtain ⟨y, hy⟩ := field_n hf 0 (t := 35) (o := 0) (m := 1) (by kernel_rfl) rfl rfl rfl
    simp [DataW.trod] at hy
  | 2, cs, x, h => by
    obtain ⟨hl, hf⟩ := struct_n Try.underlying40 h
    have hl3 : cs.length = 3 := hl.trans (by kernel_rfl)
    obtain ⟨y0, h0⟩ := field_n hf 0 (t := 35) (o := 0) (m := 1) (by kernel_rfl) rfl rfl rfl
    obtain ⟨y1, h1⟩ := field_n hf 1 (t := 26) (o := 1) (m := 1) (by kernel_rfl) rfl rfl rfl
    obtain ⟨y2, h2⟩ := field_n hf 2 (t := 38) (o := 2) (m := 1) (by kernel_rfl) rfl rfl rfl
    obtain ⟨n, e0⟩ := w64_n Try.underlying35 h0
    obtain ⟨bv, b, e1, hb⟩ := bytes_n Try.underlying26 Try.underlying5 (by kernel_rfl) h1
    obtain ⟨lv, rows, e2, hrows⟩ := slice_n (n := 0) (sz := 1) (Q := fun _ => False) Try.underlying38 (by kernel_rfl) (fun cs x h => by simp [DataW.trod] at h) (fun r h => h.elim) h2
    have hrn : rows = [] := by cases rows with | nil => rfl | cons r _ => exact (hrows.each r (List.mem_cons_self ..)).1.elim
    subst hrn
    refine ⟨.mk n b [], ?_⟩
    rw [ValR]
    refine ⟨bv, lv, ?_, hb, [], hrows.sl, by rw [RecsR]⟩
    match cs, hl3 with
    | [c0, c1, c2], _ =>
      simp at e0 e1 e2
      rw [e0, e1, e2]
  | n + 3, cs, x, h => by
    obtain ⟨hl, hf⟩ := struct_n Try.underlying40 h
    have hl3 : cs.length = 3 := hl.trans (by kernel_rfl)
    obtain ⟨y0, h0⟩ := field_n hf 0 (t := 35) (o := 0) (m := 1) (by kernel_rfl) rfl rfl rfl
    obtain ⟨y1, h1⟩ := field_n hf 1 (t := 26) (o := 1) (m := 1) (by kernel_rfl) rfl rfl rfl
    obtain ⟨y2, h2⟩ := field_n hf 2 (t := 38) (o := 2) (m := 1) (by kernel_rfl) rfl rfl rfl
    obtain ⟨k, e0⟩ := w64_n Try.underlying35 h0
    obtain ⟨bv, b, e1, hb⟩ := bytes_n Try.underlying26 Try.underlying5 (by kernel_rfl) h1
    obtain ⟨lv, rows, e2, hrows⟩ := slice_n (sz := 1) (Q := fun r => ∃ v, r = [v] ∧ ∃ vs, RecR (hp w) v vs) Try.underlying38 (by kernel_rfl) (fun cs x h => by
      obtain ⟨v, rows, e, hr⟩ := slice_n (sz := 3) (Q := fun r => ∃ f, ValR (hp w) f r) Try.underlying23 (by kernel_rfl) (val_n n) (fun r ⟨f, hf⟩ => hf.one) h
      obtain ⟨vs, h1, h2⟩ := rows_vals hr.each
      exact ⟨v, e, vs, rows.flatten, by rw [h2]; exact hr.sl, h1⟩) (fun r ⟨v, e, vs, ws, hs, _⟩ => by subst e; exact One.cons hs.sl.one One.nil) h2
    obtain ⟨l, hq, hql⟩ := rows_recs hrows.each
    refine ⟨.mk k b l, ?_⟩
    rw [ValR]
    refine ⟨bv, lv, ?_, hb, rows.flatten, by rw [hql]; exact hrows.sl, hq⟩
    match cs, hl3 with
    | [c0, c1, c2], _ =>
      simp at e0 e1 e2
      rw [e0, e1, e2]
variable {r : Reach} {v : Value} {d : DataW H} {p : List MemPlace}
/-- Arguments. -/
theorem open_flds (hv : Value.okWide Try.prog w r b0 22 v) (h : DataW.Trod enc Try.prog w base spare held 22 v d p) : ∃ fs cs, SlR (hp w) v 4 (fs : List Fld).length cs ∧ FldsR (hp w) fs cs := by
  obtain ⟨a0, len, cap, rfl⟩ := okWide_slice Try.underlying22 hv
  obtain ⟨fuel, hf⟩ := h
  have h1 := OpenAt.slice (enc := enc) (w := w) (base := base) (spare := spare) (held := held) (sz := 4) (Q := fun r => ∃ f, FldR (hp w) f r) Try.underlying22 (by kernel_rfl) fld_n (fun r ⟨f, hf⟩ => hf.one) fuel _ _ hf
  obtain ⟨v', rows, hcs, hrows⟩ := h1
  have e4 : Value.slice a0 len cap = v' := by simpa [Value.cells] using hcs
  subst e4
  obtain ⟨fs, h1, h2⟩ := rows_flds hrows.each
  exact ⟨fs, rows.flatten, by rw [h2]; exact hrows.sl, h1⟩
theorem open_vals (hv : Value.okWide Try.prog w r b0 23 v) (h : DataW.Trod enc Try.prog w base spare held 23 v d p) : ∃ vs ws, SlR (hp w) v 3 (vs : List Val).length ws ∧ ValsR (hp w) vs ws := by
  obtain ⟨a0, len, cap, rfl⟩ := okWide_slice Try.underlying23 hv
  obtain ⟨fuel, hf⟩ := h
  have h1 := OpenAt.slice (enc := enc) (w := w) (base := base) (spare := spare) (held := held) (sz := 3) (Q := fun r => ∃ f, ValR (hp w) f r) Try.underlying23 (by kernel_rfl) val_n (fun r ⟨f, hf⟩ => hf.one) fuel _ _ hf
  obtain ⟨v', rows, hcs, hrows⟩ := h1
  have e4 : Value.slice a0 len cap = v' := by simpa [Value.cells] using hcs
  subst e4
  obtain ⟨fs, h1, h2⟩ := rows_vals hrows.each
  exact ⟨fs, rows.flatten, by rw [h2]; exact hrows.sl, h1⟩
end

section
variable {F : Fr} {lv vv : Value} {cs ws : List Value} {fs : List Fld} {vs : List Val}
/-- Whether any fields may be, and how many bytes their records have at most. -/
theorem packFields_any (hr : SlR F.hf lv 4 fs.length cs) (hc : FldsR F.hf fs cs) : Spec Try.prog F 5 [lv] [] (fun u _ => u = .bool true) := by
  refine Spec.body Try.func5 rfl Try.ntmps5 rfl ?_
  refine Cod.seq ?_
  refine Cod.region ?_
  refine Ops.st (.assign rfl) rfl rfl rfl ?_
  refine Ops.nil ?_
  refine Ext.seq ?_
  refine Cod.seq ?_
  refine Cod.region ?_
  refine Ops.call ⟨Try.call11⟩ rfl rfl rfl (by repeat' first | exact Takes.nil _ | exact TakeP.here _ | apply TakeP.there | apply Takes.cons) (fun F' hF => awake_any) rfl rfl rfl ?_
  rintro _ _ ⟨rfl, rfl⟩
  refine Ops.st (.assign rfl) rfl rfl rfl ?_
  refine Ops.nil ?_
  refine Ext.seq ?_
  refine Cod.seq ?_
  refine Cod.region ?_
  refine Ops.st (.move rfl) rfl rfl rfl ?_
  refine Ops.call ⟨Try.call16⟩ rfl rfl rfl (by repeat' first | exact Takes.nil _ | exact TakeP.here _ | apply TakeP.there | apply Takes.cons) (fun F' hF => fields_any 6 1 rfl (hr.mono hF.hf) (hc.mono hF.hf fs)) rfl rfl rfl ?_
  rintro _ _ ⟨⟨b, rfl⟩, rfl⟩
  refine Ops.st (.assign rfl) rfl rfl rfl ?_
  refine Ops.nil ?_
  refine Ext.seq ?_
  refine Cod.seq ?_
  refine Cod.seq ?_
  refine Cod.region ?_
  refine Ops.st (.move rfl) rfl rfl rfl ?_
  refine Ops.st (.notB rfl) rfl rfl rfl ?_
  refine Ops.st (.move rfl) rfl rfl rfl ?_
  refine Ops.stG rfl rfl rfl rfl (.move rfl) rfl rfl ?_
  refine Ops.stG rfl rfl rfl rfl (.notB rfl) rfl rfl ?_
  refine Ops.st (.pickF rfl rfl rfl) rfl rfl rfl ?_
  refine Ops.nil ?_
  refine Ext.seq ?_
  refine Cod.cond rfl (fun h1 => ?_) (fun h1 => ?_)
  ·
    refine Cod.seq ?_
    refine Cod.region ?_
    refine Ops.st (.move rfl) rfl rfl rfl ?_
    refine Ops.st (.assign rfl) rfl rfl rfl ?_
    refine Ops.nil ?_
    refine Ext.seq ?_
    exact Cod.ret (Ext.seqR (Ext.ret rfl rfl rfl))
  ·
    refine Cod.skip ?_
    refine Ext.seq ?_
    refine Cod.seq ?_
    refine Cod.region ?_
    refine Ops.st (.move rfl) rfl rfl rfl ?_
    refine Ops.call ⟨Try.call17⟩ rfl rfl rfl (by repeat' first | exact Takes.nil _ | exact TakeP.here _ | apply TakeP.there | apply Takes.cons) (fun F' hF => right_any (hr.mono hF.hf) (hc.mono hF.hf fs)) rfl rfl rfl ?_
    rintro _ _ ⟨rfl, rfl⟩
    refine Ops.st (.move rfl) rfl rfl rfl ?_
    refine Ops.call ⟨Try.call18⟩ rfl rfl rfl (by repeat' first | exact Takes.nil _ | exact TakeP.here _ | apply TakeP.there | apply Takes.cons) (fun F' hF => refRight_any (hr.mono hF.hf) (hc.mono hF.hf fs)) rfl rfl rfl ?_
    rintro _ _ ⟨rfl, rfl⟩
    refine Ops.st (.eqB rfl rfl Try.underlying4) rfl rfl rfl ?_
    refine Ops.st (.move rfl) rfl rfl rfl ?_
    refine Ops.stG rfl rfl rfl (by simp) (.move rfl) rfl rfl ?_
    refine Ops.callG rfl rfl rfl (by simp) ⟨Try.call19⟩ rfl rfl rfl (by repeat' first | exact Takes.nil _ | exact TakeP.here _ | apply TakeP.there | apply Takes.cons) (fun F' hF => packMost_any (hr.mono hF.hf) (hc.mono hF.hf fs)) rfl rfl ?_
    rintro _ _ ⟨rfl, rfl⟩
    refine Ops.stG rfl rfl rfl (by simp) (.move rfl) rfl rfl ?_
    refine Ops.callG rfl rfl rfl (by simp) ⟨Try.call20⟩ rfl rfl rfl (by repeat' first | exact Takes.nil _ | exact TakeP.here _ | apply TakeP.there | apply Takes.cons) (fun F' hF => refMostA_any (hr.mono hF.hf) (hc.mono hF.hf fs)) rfl rfl ?_
    rintro _ _ ⟨rfl, rfl⟩
    refine Ops.stG rfl rfl rfl (by simp) (.eql rfl rfl) rfl rfl ?_
    refine Ops.st (.pickT rfl (by simp) rfl) rfl rfl rfl ?_
    refine Ops.st (.assign rfl) rfl rfl rfl ?_
    refine Ops.nil ?_
    refine Ext.seq ?_
    exact Cod.ret (Ext.ret rfl rfl (by simp))
/-- Any record of any fields as bytes. -/
theorem packEncodes_any (hr : SlR F.hf lv 4 fs.length cs) (hc : FldsR F.hf fs cs) (hs : SlR F.hf vv 3 vs.length ws) (hw : ValsR F.hf vs ws) : Spec Try.prog F 3 [lv, vv] [] (fun u _ => u = .bool true) := by
  refine Spec.body Try.func3 rfl Try.ntmps3 rfl ?_
  refine Cod.seq ?_
  refine Cod.region ?_
  refine Ops.st (.assign rfl) rfl rfl rfl ?_
  refine Ops.nil ?_
  refine Ext.seq ?_
  refine Cod.seq ?_
  refine Cod.region ?_
  refine Ops.call ⟨Try.call11⟩ rfl rfl rfl (by repeat' first | exact Takes.nil _ | exact TakeP.here _ | apply TakeP.there | apply Takes.cons) (fun F' hF => awake_any) rfl rfl rfl ?_
  rintro _ _ ⟨rfl, rfl⟩
  refine Ops.st (.assign rfl) rfl rfl rfl ?_
  refine Ops.nil ?_
  refine Ext.seq ?_
  refine Cod.seq ?_
  refine Cod.region ?_
  refine Ops.st (.move rfl) rfl rfl rfl ?_
  refine Ops.st (.move rfl) rfl rfl rfl ?_
  refine Ops.call ⟨Try.call12⟩ rfl rfl rfl (by repeat' first | exact Takes.nil _ | exact TakeP.here _ | apply TakeP.there | apply Takes.cons) (fun F' hF => few_any (hr.mono hF.hf) (hc.mono hF.hf fs) (hs.mono hF.hf) (hw.mono hF.hf vs)) rfl rfl rfl ?_
  rintro _ _ ⟨⟨b, rfl, hwt⟩, rfl⟩
  refine Ops.st (.assign rfl) rfl rfl rfl ?_
  refine Ops.nil ?_
  refine Ext.seq ?_
  refine Cod.seq ?_
  refine Cod.seq ?_
  refine Cod.region ?_
  refine Ops.st (.move rfl) rfl rfl rfl ?_
  refine Ops.st (.notB rfl) rfl rfl rfl ?_
  refine Ops.st (.move rfl) rfl rfl rfl ?_
  refine Ops.stG rfl rfl rfl rfl (.move rfl) rfl rfl ?_
  refine Ops.stG rfl rfl rfl rfl (.notB rfl) rfl rfl ?_
  refine Ops.st (.pickF rfl rfl rfl) rfl rfl rfl ?_
  refine Ops.nil ?_
  refine Ext.seq ?_
  refine Cod.cond rfl (fun h1 => ?_) (fun h1 => ?_)
  ·
    refine Cod.seq ?_
    refine Cod.region ?_
    refine Ops.st (.move rfl) rfl rfl rfl ?_
    refine Ops.st (.assign rfl) rfl rfl rfl ?_
    refine Ops.nil ?_
    refine Ext.seq ?_
    exact Cod.ret (Ext.seqR (Ext.ret rfl rfl rfl))
  ·
    refine Cod.skip ?_
    refine Ext.seq ?_
    refine Cod.seq ?_
    refine Cod.region ?_
    have hwt2 : wtR vs ≤ 70368744177664 := hwt (by cases b; cases h1; rfl)
    refine Ops.st (.move rfl) rfl rfl rfl ?_
    refine Ops.st (.move rfl) rfl rfl rfl ?_
    refine Ops.call ⟨Try.call13⟩ rfl rfl rfl (by repeat' first | exact Takes.nil _ | exact TakeP.here _ | apply TakeP.there | apply Takes.cons) (fun F' hF => encode_any (hr.mono hF.hf) (hc.mono hF.hf fs) (hs.mono hF.hf) (hw.mono hF.hf vs) hwt2) rfl rfl rfl ?_
    rintro _ _ ⟨b1, rfl, hb1, rfl⟩
    refine Ops.st (.move rfl) rfl rfl rfl ?_
    refine Ops.st (.extract rfl rfl) rfl rfl rfl ?_
    refine Ops.st (.extract rfl rfl) rfl rfl rfl ?_
    refine Ops.st (.assign rfl) rfl rfl rfl ?_
    refine Ops.st (.assign rfl) rfl rfl rfl ?_
    refine Ops.nil ?_
    refine Ext.seq ?_
    refine Cod.seq ?_
    refine Cod.region ?_
    refine Ops.st (.move rfl) rfl rfl rfl ?_
    refine Ops.st (.move rfl) rfl rfl rfl ?_
    refine Ops.call ⟨Try.call14⟩ rfl rfl rfl (by repeat' first | exact Takes.nil _ | exact TakeP.here _ | apply TakeP.there | apply Takes.cons) (fun F' hF => refEncode_any (hr.mono hF.hf) (hc.mono hF.hf fs) (hs.mono hF.hf) (hw.mono hF.hf vs)) rfl rfl rfl ?_
    rintro _ _ ⟨b2, rfl, hb2, rfl⟩
    refine Ops.st (.move rfl) rfl rfl rfl ?_
    refine Ops.st (.extract rfl rfl) rfl rfl rfl ?_
    refine Ops.st (.extract rfl rfl) rfl rfl rfl ?_
    refine Ops.st (.assign rfl) rfl rfl rfl ?_
    refine Ops.st (.assign rfl) rfl rfl rfl ?_
    refine Ops.nil ?_
    refine Ext.seq ?_
    refine Cod.seq ?_
    refine Cod.region ?_
    refine Ops.st (.move rfl) rfl rfl rfl ?_
    refine Ops.st (.toStr rfl (Rd.vec (v := b1) (by repeat first | exact TakeP.here _ | apply TakeP.there)) Try.underlying26 Try.underlying5 Try.underlying9) rfl rfl rfl ?_
    refine Ops.st (.move rfl) rfl rfl rfl ?_
    refine Ops.st (.toStr rfl (Rd.vec (v := b2) (by repeat first | exact TakeP.here _ | apply TakeP.there)) Try.underlying26 Try.underlying5 Try.underlying9) rfl rfl rfl ?_
    refine Ops.st (.eqStr rfl rfl) rfl rfl rfl ?_
    refine Ops.st (.move rfl) rfl rfl rfl ?_
    refine Ops.stG rfl rfl rfl (decide_eq_true rfl) (.move rfl) rfl rfl ?_
    refine Ops.stG rfl rfl rfl (decide_eq_true rfl) (.move rfl) rfl rfl ?_
    refine Ops.stG rfl rfl rfl (decide_eq_true rfl) (.eql rfl rfl) rfl rfl ?_
    refine Ops.st (.pickT rfl (decide_eq_true rfl) rfl) rfl rfl rfl ?_
    refine Ops.st (.assign rfl) rfl rfl rfl ?_
    refine Ops.nil ?_
    refine Ext.seq ?_
    exact Cod.ret (Ext.ret rfl rfl (by simp))
end
end Go.Proofs.Ytacgngfjanlfnaa
