/- How many bytes a number needs, and a record at most: the program and the reference. No condition. -/
import Derived.Test.YtacgngfjanlfnaaPC
namespace Go.Proofs.Ytacgngfjanlfnaa
open Go

theorem row_at {xs ds : List Value} {o n : Nat} (h : (xs.drop o).take n = ds) (j : Nat) (u : Value) (hu : ds[j]? = some u) : xs[o + j]? = some u := by
  subst h
  rw [List.getElem?_take] at hu
  split at hu
  · rw [List.getElem?_drop] at hu; exact hu
  · cases hu
def eachF (d : Nat) (k : Int) (of : List Fld) : Option Nat := if k = 1 then (if of = [] then some 0 else none) else if k = 2 then (if of = [] then some 1 else none) else if k = 3 then mostR (d + 1) of else none
theorem mostF_eq (d : Nat) (k : Int) (mn mx : UInt64) (of : List Fld) : mostF d (.mk k mn mx of) = match eachF d k of with | none => none | some e => if mx < mn ∨ (k ≠ 1 ∧ mx.toNat > 65536) then none else some (wid (mx - mn).toNat + (if k ≠ 1 then mx.toNat * e else 0)) := by rw [mostF]; rfl
theorem emp_dec {of : List Fld} {n : Nat} : decide ((of.length : Int) = 0) = (if of = [] then some n else none : Option Nat).isSome := by cases of <;> simp <;> omega
theorem mostR_le {d : Nat} {fs : List Fld} {n : Nat} (h : mostR d fs = some n) : n ≤ 1048576 := by
  rw [mostR] at h
  split at h
  · cases h
  · exact (mostL_le _ _ _ _ h).2 (by omega)
theorem eachF_le {d : Nat} {k : Int} {of : List Fld} {e : Nat} (h : eachF d k of = some e) : e ≤ 1048576 := by
  unfold eachF at h
  split at h
  · split at h <;> simp at h; omega
  · split at h
    · split at h <;> simp at h; omega
    · split at h
      · exact mostR_le h
      · cases h
theorem mostR_far {d : Nat} {fs : List Fld} (h1 : ¬ fs.length < 1) (h2 : ¬ fs.length > 16) (h3 : ¬ d > 4) : mostR d fs = mostL d fs 0 := by rw [mostR, if_neg (by omega)]
theorem mostR_no {d : Nat} {fs : List Fld} (h : fs.length < 1 ∨ fs.length > 16 ∨ d > 4) : mostR d fs = none := by rw [mostR, if_pos h]
theorem gtW {a b : UInt64} : decide ((a.toNat : Int) > (b.toNat : Int)) = decide (b < a) := by
  rw [decide_eq_decide, UInt64.lt_iff_toNat_lt]; omega

theorem width_any {F : Fr} {k : Int} {mn mx : UInt64} {v : Value} (hv : Sl v) : Spec Try.prog F 36 [.agg #[.int .i64 k, W64 mn, W64 mx, v]] [] (fun u hs' => u = .int .i64 (wid (mx - mn).toNat) ∧ hs' = []) := by
  refine Spec.body Try.func36 rfl Try.ntmps36 rfl ?_
  refine Cod.seq ?_
  refine Cod.region ?_
  refine Ops.ef (.box (cs := [.int .i64 k, W64 mn, W64 mx, v]) rfl (by obtain ⟨a, l, c, rfl⟩ := hv; rfl)) rfl rfl rfl ?_
  rintro b _ ⟨b, rfl, rfl⟩
  refine Ops.st (.assign rfl) rfl rfl rfl ?_
  refine Ops.nil ?_
  refine Ext.seq ?_
  refine Cod.seq ?_
  refine Cod.region ?_
  refine Ops.st (.fieldAddr rfl fa63_2) rfl rfl rfl ?_
  refine Ops.st (.loadP rfl (by repeat first | exact TakeP.here _ | apply TakeP.there) Try.isAgg35 rfl) rfl rfl rfl ?_
  refine Ops.st (.fieldAddr rfl fa63_1) rfl rfl rfl ?_
  refine Ops.st (.loadP rfl (by repeat first | exact TakeP.here _ | apply TakeP.there) Try.isAgg35 rfl) rfl rfl rfl ?_
  refine Ops.st (.subW64 rfl rfl) rfl rfl rfl ?_
  refine Ops.call ⟨Try.call41⟩ rfl rfl rfl (by repeat' first | exact Takes.nil _ | exact TakeP.here _ | apply TakeP.there | apply Takes.cons) (fun F' hF => len64_any) rfl rfl rfl ?_
  rintro _ _ ⟨⟨j, rfl, hj, hw⟩, rfl⟩
  refine Ops.st (.add rfl rfl (by first | exact IntWalk.i64_in _ (by omega) | rfl)) rfl rfl rfl ?_
  refine Ops.st (.quo (r := (((j + 7) / 8 : Nat) : Int)) rfl rfl (by decide) (by rw [IntWalk.i64_quo _ _ (by omega)]; omega)) rfl rfl rfl ?_
  refine Ops.st (.max_ rfl rfl) rfl rfl rfl ?_
  refine Ops.st (.assign rfl) rfl rfl rfl ?_
  refine Ops.nil ?_
  refine Ext.seq ?_
  exact Cod.ret (Ext.retE rfl rfl (Ent.nil _) (⟨by rw [← hw]; exact congrArg (Value.int .i64) (by omega), rfl⟩))
theorem has_any {F : Fr} {k : Int} {mn mx n : UInt64} {v : Value} (hv : Sl v) : Spec Try.prog F 40 [.agg #[.int .i64 k, W64 mn, W64 mx, v], W64 n] [] (fun u hs' => u = .bool (decide (mn ≤ n) && decide (n ≤ mx)) ∧ hs' = []) := by
  refine Spec.body Try.func40 rfl Try.ntmps40 rfl ?_
  refine Cod.seq ?_
  refine Cod.region ?_
  refine Ops.ef (.box (cs := [.int .i64 k, W64 mn, W64 mx, v]) rfl (by obtain ⟨a, l, c, rfl⟩ := hv; rfl)) rfl rfl rfl ?_
  rintro b _ ⟨b, rfl, rfl⟩
  refine Ops.st (.assign rfl) rfl rfl rfl ?_
  refine Ops.nil ?_
  refine Ext.seq ?_
  refine Cod.seq ?_
  refine Cod.region ?_
  refine Ops.st (.move rfl) rfl rfl rfl ?_
  refine Ops.st (.fieldAddr rfl fa63_1) rfl rfl rfl ?_
  refine Ops.st (.loadP rfl (by repeat first | exact TakeP.here _ | apply TakeP.there) Try.isAgg35 rfl) rfl rfl rfl ?_
  refine Ops.st (.geq rfl rfl) rfl rfl rfl ?_
  refine Ops.st (.move rfl) rfl rfl rfl ?_
  refine Ops.splitD (t := 9) rfl (fun h => ?_) (fun h => ?_)
  ·
    refine Ops.stG rfl rfl rfl (decide_eq_true h) (.move rfl) rfl rfl ?_
    refine Ops.stG rfl rfl rfl (decide_eq_true h) (.fieldAddr rfl fa63_2) rfl rfl ?_
    refine Ops.stG rfl rfl rfl (decide_eq_true h) (.loadP rfl (by repeat first | exact TakeP.here _ | apply TakeP.there) Try.isAgg35 rfl) rfl rfl ?_
    refine Ops.stG rfl rfl rfl (decide_eq_true h) (.leq rfl rfl) rfl rfl ?_
    refine Ops.st (.pickT rfl (decide_eq_true h) rfl) rfl rfl rfl ?_
    refine Ops.st (.assign rfl) rfl rfl rfl ?_
    refine Ops.nil ?_
    refine Ext.seq ?_
    exact Cod.ret (Ext.retE rfl rfl (Ent.nil _) (⟨by congr 1; rw [decide_eq_true (le_nat.2 (by omega : mn.toNat ≤ n.toNat)), Bool.true_and, decide_eq_decide, le_nat]; omega, rfl⟩))
  ·
    refine Ops.skipG rfl rfl rfl (decide_eq_false h) rfl rfl ?_
    refine Ops.skipG rfl rfl rfl (decide_eq_false h) rfl rfl ?_
    refine Ops.skipG rfl rfl rfl (decide_eq_false h) rfl rfl ?_
    refine Ops.skipG rfl rfl rfl (decide_eq_false h) rfl rfl ?_
    refine Ops.st (.pickF rfl (decide_eq_false h) rfl) rfl rfl rfl ?_
    refine Ops.st (.assign rfl) rfl rfl rfl ?_
    refine Ops.nil ?_
    refine Ext.seq ?_
    exact Cod.ret (Ext.retE rfl rfl (Ent.nil _) (⟨by congr 1; rw [decide_eq_false (fun x => h (by have := le_nat.1 x; omega))]; rfl, rfl⟩))
theorem wid_step (n : Nat) (h : 256 ≤ n) (hn : n < 18446744073709551616) : wid n = wid (n / 256) + 1 := by unfold wid; (repeat' split) <;> omega
theorem refWidth_any {F : Fr} {n : UInt64} : Spec Try.prog F 34 [W64 n] [] (fun u hs' => u = .int .i64 (wid n.toNat) ∧ hs' = []) := by
  have hn := n.toNat_lt
  have hw := wid_le n.toNat
  refine Spec.body Try.func34 rfl Try.ntmps34 rfl ?_
  refine Cod.seq ?_
  refine Cod.region ?_
  refine Ops.st (.assign rfl) rfl rfl rfl ?_
  refine Ops.nil ?_
  refine Ext.seq ?_
  refine Cod.seq ?_
  refine Cod.region ?_
  refine Ops.st (.assign rfl) rfl rfl rfl ?_
  refine Ops.nil ?_
  refine Ext.seq ?_
  refine Cod.seq ?_
  refine Cod.block ?_
  refine Cod.loop (fun g : UInt64 × Nat => ⟨1 ≤ g.2 ∧ wid g.1.toNat + g.2 = wid n.toNat + 1, [(0, W64 g.1), (3, .int .i64 g.2)], []⟩) (fun g => g.1.toNat) (n, 1) ⟨Nat.le_refl _, rfl⟩ ⟨rfl, rfl, trivial⟩ (Ent.nil _) ?_
  rintro ⟨x, k⟩ ⟨hk, hx⟩
  dsimp only
  refine Cod.seq ?_
  refine Cod.seq ?_
  refine Cod.region ?_
  dsimp only at hk hx
  have hxl := x.toNat_lt
  have hx1 := wid_pos x.toNat
  refine Ops.st (.move rfl) rfl rfl rfl ?_
  refine Ops.st (.geq rfl rfl) rfl rfl rfl ?_
  refine Ops.nil ?_
  refine Ext.seq ?_
  refine Cod.condD rfl (fun h => ?_) (fun h => ?_)
  ·
    refine Cod.skip ?_
    refine Ext.seq ?_
    refine Cod.block ?_
    refine Cod.seq ?_
    refine Cod.region ?_
    refine Ops.st (.move rfl) rfl rfl rfl ?_
    refine Ops.st (.quoW64 rfl (show _ = some (W64 256) from rfl) (by decide)) rfl rfl rfl ?_
    refine Ops.st (.assign rfl) rfl rfl rfl ?_
    refine Ops.nil ?_
    refine Ext.seq ?_
    refine Cod.region ?_
    refine Ops.st (.move rfl) rfl rfl rfl ?_
    refine Ops.st (.add rfl rfl (by first | exact IntWalk.i64_in _ (by omega) | rfl)) rfl rfl rfl ?_
    refine Ops.st (.assign rfl) rfl rfl rfl ?_
    refine Ops.nil ?_
    refine Ext.block ?_
    exact Ext.back (x / 256, k + 1) (by dsimp only; rw [UInt64.toNat_div, show (256 : UInt64).toNat = 256 from rfl]; omega) ⟨by dsimp only; omega, by dsimp only; have := wid_step x.toNat (by omega) hxl; rw [UInt64.toNat_div, show (256 : UInt64).toNat = 256 from rfl]; omega⟩ ⟨rfl, rfl, trivial⟩ (Ent.nil _)
  ·
    refine Cod.exit (Ext.seqX (Ext.stopX (Ext.hit ?_)))
    refine Ext.seq ?_
    refine Cod.seq ?_
    refine Cod.region ?_
    have hx2 : wid x.toNat = 1 := by unfold wid; rw [if_pos (by omega)]
    rw [show (k : Int) = (wid n.toNat : Int) by omega]
    refine Ops.st (.move rfl) rfl rfl rfl ?_
    refine Ops.st (.assign rfl) rfl rfl rfl ?_
    refine Ops.nil ?_
    refine Ext.seq ?_
    exact Cod.ret (Ext.ret rfl rfl ⟨rfl, rfl⟩)

theorem most_step {d : Nat} (ih : d ≤ 4 → ∀ {F : Fr} {v : Value} {cs : List Value} {fs : List Fld}, SlR F.hf v 4 fs.length cs → FldsR F.hf fs cs → Spec Try.prog F 29 [v, .int .i64 ((d + 1 : Nat) : Int)] [] (fun u hs' => u = .tuple #[.int .i64 ((mostR (d + 1) fs).getD 0 : Nat), .bool (mostR (d + 1) fs).isSome] ∧ hs' = []))
    {F : Fr} {v : Value} {cs : List Value} {fs : List Fld} (hr : SlR F.hf v 4 fs.length cs) (hc : FldsR F.hf fs cs) :
    Spec Try.prog F 29 [v, .int .i64 (d : Int)] [] (fun u hs' => u = .tuple #[.int .i64 ((mostR d fs).getD 0 : Nat), .bool (mostR d fs).isSome] ∧ hs' = []) := by
  refine Spec.body Try.func29 rfl Try.ntmps29 rfl ?_
  refine Cod.seq ?_
  refine Cod.region ?_
  refine Ops.st (.assign rfl) rfl rfl rfl ?_
  refine Ops.st (.assign rfl) rfl rfl rfl ?_
  refine Ops.nil ?_
  refine Ext.seq ?_
  refine Cod.seq ?_
  refine Cod.seq ?_
  refine Cod.region ?_
  refine Ops.st (.move rfl) rfl rfl rfl ?_
  refine Ops.st (.len rfl (Rd.ro hr) Try.runUnderlying22) rfl rfl rfl ?_
  refine Ops.st (.lss rfl rfl) rfl rfl rfl ?_
  refine Ops.st (.move rfl) rfl rfl rfl ?_
  refine Ops.splitD (t := 14) rfl (fun h1 => ?_) (fun h1 => ?_)
  ·
    refine Ops.skipG rfl rfl rfl (decide_eq_true h1) rfl rfl ?_
    refine Ops.skipG rfl rfl rfl (decide_eq_true h1) rfl rfl ?_
    refine Ops.skipG rfl rfl rfl (decide_eq_true h1) rfl rfl ?_
    refine Ops.st (.pickT rfl (decide_eq_true h1) rfl) rfl rfl rfl ?_
    refine Ops.st (.move rfl) rfl rfl rfl ?_
    refine Ops.skipG rfl rfl rfl rfl rfl rfl ?_
    refine Ops.skipG rfl rfl rfl rfl rfl rfl ?_
    refine Ops.st (.pickT rfl rfl rfl) rfl rfl rfl ?_
    refine Ops.nil ?_
    refine Ext.seq ?_
    refine Cod.condT rfl (by simp) ?_
    refine Cod.seq ?_
    refine Cod.region ?_
    refine Ops.st (.assign rfl) rfl rfl rfl ?_
    refine Ops.st (.assign rfl) rfl rfl rfl ?_
    refine Ops.nil ?_
    refine Ext.seq ?_
    exact Cod.ret (Ext.seqR (Ext.ret2 rfl rfl rfl ⟨by rw [mostR_no (.inl (by omega))]; rfl, rfl⟩))
  ·
    refine Ops.stG rfl rfl rfl (decide_eq_false h1) (.move rfl) rfl rfl ?_
    refine Ops.stG rfl rfl rfl (decide_eq_false h1) (.len rfl (Rd.ro hr) Try.runUnderlying22) rfl rfl ?_
    refine Ops.stG rfl rfl rfl (decide_eq_false h1) (.gtr rfl rfl) rfl rfl ?_
    refine Ops.st (.pickF rfl (decide_eq_false h1) rfl) rfl rfl rfl ?_
    refine Ops.st (.move rfl) rfl rfl rfl ?_
    refine Ops.splitD (t := 19) rfl (fun h2 => ?_) (fun h2 => ?_)
    ·
      refine Ops.skipG rfl rfl rfl (decide_eq_true h2) rfl rfl ?_
      refine Ops.skipG rfl rfl rfl (decide_eq_true h2) rfl rfl ?_
      refine Ops.st (.pickT rfl (decide_eq_true h2) rfl) rfl rfl rfl ?_
      refine Ops.nil ?_
      refine Ext.seq ?_
      refine Cod.condT rfl (by simp) ?_
      refine Cod.seq ?_
      refine Cod.region ?_
      refine Ops.st (.assign rfl) rfl rfl rfl ?_
      refine Ops.st (.assign rfl) rfl rfl rfl ?_
      refine Ops.nil ?_
      refine Ext.seq ?_
      exact Cod.ret (Ext.seqR (Ext.ret2 rfl rfl rfl ⟨by rw [mostR_no (.inr (.inl (by omega)))]; rfl, rfl⟩))
    ·
      refine Ops.stG rfl rfl rfl (decide_eq_false h2) (.move rfl) rfl rfl ?_
      refine Ops.stG rfl rfl rfl (decide_eq_false h2) (.gtr rfl rfl) rfl rfl ?_
      refine Ops.st (.pickF rfl (decide_eq_false h2) rfl) rfl rfl rfl ?_
      refine Ops.nil ?_
      refine Ext.seq ?_
      refine Cod.condD rfl (fun h3 => ?_) (fun h3 => ?_)
      ·
        refine Cod.seq ?_
        refine Cod.region ?_
        refine Ops.st (.assign rfl) rfl rfl rfl ?_
        refine Ops.st (.assign rfl) rfl rfl rfl ?_
        refine Ops.nil ?_
        refine Ext.seq ?_
        exact Cod.ret (Ext.seqR (Ext.ret2 rfl rfl rfl ⟨by rw [mostR_no (.inr (.inr (by omega)))]; rfl, rfl⟩))
      ·
        refine Cod.skip ?_
        refine Ext.seq ?_
        refine Cod.seq ?_
        refine Cod.region ?_
        rw [mostR_far (by omega) (by omega) (by omega : ¬ d > 4)]
        refine Ops.st (.assign rfl) rfl rfl rfl ?_
        refine Ops.nil ?_
        refine Ext.seq ?_
        refine Cod.seq ?_
        refine Cod.seq ?_
        refine Cod.region ?_
        refine Ops.st (.move rfl) rfl rfl rfl ?_
        refine Ops.st (.len rfl (Rd.ro hr) Try.runUnderlying22) rfl rfl rfl ?_
        refine Ops.st (.move rfl) rfl rfl rfl ?_
        refine Ops.nil ?_
        refine Ext.seq ?_
        refine Cod.block ?_
        refine Cod.loop (fun g : Nat × Nat => ⟨g.1 ≤ fs.length ∧ g.2 ≤ 1048576 ∧ mostL d (fs.drop g.1) g.2 = mostL d fs 0, [(1, .int .i64 d), (6, .int .i64 g.2), (23, v), (24, .int .i64 fs.length), (25, .int .i64 g.1)], []⟩) (fun g => fs.length - g.1) (0, 0) ⟨Nat.zero_le _, Nat.zero_le _, rfl⟩ ⟨rfl, rfl, rfl, rfl, rfl, trivial⟩ (Ent.nil _) ?_
        rintro ⟨i, s⟩ ⟨hi, hs, hm⟩
        dsimp only
        refine Cod.seq ?_
        refine Cod.region ?_
        dsimp only at hi hs hm
        refine Ops.st (.lss rfl rfl) rfl rfl rfl ?_
        refine Ops.nil ?_
        refine Ext.seq ?_
        refine Cod.seq ?_
        refine Cod.condD rfl (fun h4 => ?_) (fun h4 => ?_)
        ·
          refine Cod.skip ?_
          refine Ext.seq ?_
          refine Cod.seq ?_
          refine Cod.block ?_
          refine Cod.seq ?_
          refine Cod.region ?_
          obtain ⟨k, mn, mx, of, hf⟩ : ∃ k mn mx of, fs[i]? = some (.mk k mn mx of) := by rcases he : fs[i]'(by omega) with ⟨k, mn, mx, of⟩; exact ⟨k, mn, mx, of, by rw [List.getElem?_eq_getElem (by omega), he]⟩
          obtain ⟨ov, ocs, hrow, hor, hoc⟩ := hc.get hf
          have hov := hor.sl
          have hol := hor.small
          rw [drop_get hf, mostL, mostF_eq] at hm
          refine Ops.st (.indexAddr (j := i) (off := i * 4) rfl rfl (Rd.ro hr) Try.runUnderlying22 Try.sizeOf37 rfl (by omega) rfl) rfl rfl rfl ?_
          refine Ops.st (.load_elemA (ds := [.int .i64 k, W64 mn, W64 mx, ov]) rfl (Rd.ro hr) Try.isAgg37 Try.sizeOf37 (by omega) rfl (row_at hrow)) rfl rfl rfl ?_
          refine Ops.ef (.alloc Try.zeroValue37 rfl) rfl rfl rfl ?_
          rintro b _ ⟨b, rfl, rfl⟩
          refine Ops.ef10 (.storeA (vs := [.int .i64 k, W64 mn, W64 mx, ov]) (cs' := [.int .i64 k, W64 mn, W64 mx, ov]) rfl rfl (by repeat first | exact TakeP.here _ | apply TakeP.there) Try.sizeOf37 rfl (by decide) (by exact One.cons rfl (One.cons rfl (One.cons rfl (One.cons hov.one One.nil)))) rfl) rfl rfl ?_
          refine Ops.nil ?_
          refine Ext.seq ?_
          refine Cod.seq ?_
          refine Cod.regionA mixed (by kernel_rfl) (listed := #[false, false, false, false, false, false]) ?_
          refine As.take 0 rfl (by kernel_rfl) (by kernel_rfl) (by kernel_rfl) rfl rfl rfl (fun F hs => .fieldAddr rfl fa37_3) (by kernel_rfl) (listed' := #[true, false, false, false, false, false]) ?_
          refine As.take 4 rfl (by kernel_rfl) (by kernel_rfl) (by kernel_rfl) rfl rfl rfl (fun F hs => .assign rfl) (by kernel_rfl) (listed' := #[true, false, false, false, true, false]) ?_
          refine As.one (i := 1) (by kernel_rfl) ?_
          refine Ao.st rfl (.loadP rfl (by repeat first | exact TakeP.here _ | apply TakeP.there) Try.isAgg22 rfl) rfl rfl rfl (by kernel_rfl) (listed' := #[true, true, false, false, true, false]) ?_
          refine As.one (i := 2) (by kernel_rfl) ?_
          refine Ao.st rfl (.len rfl (Rd.ro hor) Try.runUnderlying22) rfl rfl rfl (by kernel_rfl) (listed' := #[true, true, true, false, true, false]) ?_
          refine As.take 3 rfl (by kernel_rfl) (by kernel_rfl) (by kernel_rfl) rfl rfl rfl (fun F hs => .eql rfl rfl) (by kernel_rfl) (listed' := #[true, true, true, true, true, false]) ?_
          refine As.take 5 rfl (by kernel_rfl) (by kernel_rfl) (by kernel_rfl) rfl rfl rfl (fun F hs => .assign rfl) (by kernel_rfl) (listed' := #[true, true, true, true, true, true]) ?_
          refine As.done (by kernel_rfl) ?_
          refine Ext.seq ?_
          refine Cod.seq ?_
          refine Cod.cutK (fun n : Nat => ⟨n ≤ 1048576 ∧ (eachF d k of = none ∨ eachF d k of = some n), [(1, .int .i64 d), (6, .int .i64 s), (23, v), (24, .int .i64 fs.length), (25, .int .i64 i), (8, .pointer (some ⟨b, 0, none⟩)), (9, .int .i64 n), (10, .bool (eachF d k of).isSome)], [pt b 37 [.int .i64 k, W64 mn, W64 mx, ov]]⟩) ?_ ?_
          ·
            refine Cod.seq ?_
            refine Cod.region ?_
            refine Ops.st (.fieldAddr rfl fa37_0) rfl rfl rfl ?_
            refine Ops.st (.loadP rfl (by repeat first | exact TakeP.here _ | apply TakeP.there) Try.isAgg3 rfl) rfl rfl rfl ?_
            refine Ops.nil ?_
            refine Ext.seq ?_
            refine Cod.block ?_
            refine Cod.seq ?_
            refine Cod.region ?_
            refine Ops.st (.eql rfl rfl) rfl rfl rfl ?_
            refine Ops.st (.assign rfl) rfl rfl rfl ?_
            refine Ops.nil ?_
            refine Ext.seq ?_
            refine Cod.condD rfl (fun k1 => ?_) (fun k1 => ?_)
            ·
              refine Cod.skip ?_
              refine Ext.block ?_
              exact Ext.at_ 0 ⟨by omega, by rw [eachF, if_pos k1]; by_cases ho : of = []; simp [ho]; simp [ho]⟩ ⟨rfl, rfl, rfl, rfl, rfl, rfl, rfl, by rw [eachF, if_pos k1]; exact congrArg (fun z => some (Value.bool z)) emp_dec, trivial⟩ (Ent.take (by repeat' first | exact Takes.nil _ | exact TakeP.here _ | apply TakeP.there | apply Takes.cons))
            ·
              refine Cod.seq ?_
              refine Cod.region ?_
              refine Ops.st (.eql rfl rfl) rfl rfl rfl ?_
              refine Ops.st (.assign rfl) rfl rfl rfl ?_
              refine Ops.nil ?_
              refine Ext.seq ?_
              refine Cod.condD rfl (fun k2 => ?_) (fun k2 => ?_)
              ·
                refine Cod.region ?_
                refine Ops.st (.assign rfl) rfl rfl rfl ?_
                refine Ops.nil ?_
                refine Ext.block ?_
                exact Ext.at_ 1 ⟨by omega, by rw [eachF, if_neg k1, if_pos k2]; by_cases ho : of = []; simp [ho]; simp [ho]⟩ ⟨rfl, rfl, rfl, rfl, rfl, rfl, rfl, by rw [eachF, if_neg k1, if_pos k2]; exact congrArg (fun z => some (Value.bool z)) emp_dec, trivial⟩ (Ent.take (by repeat' first | exact Takes.nil _ | exact TakeP.here _ | apply TakeP.there | apply Takes.cons))
              ·
                refine Cod.seq ?_
                refine Cod.region ?_
                refine Ops.st (.eql rfl rfl) rfl rfl rfl ?_
                refine Ops.st (.assign rfl) rfl rfl rfl ?_
                refine Ops.nil ?_
                refine Ext.seq ?_
                refine Cod.condD rfl (fun k3 => ?_) (fun k3 => ?_)
                ·
                  refine Cod.region ?_
                  refine Ops.st (.fieldAddr rfl fa37_3) rfl rfl rfl ?_
                  refine Ops.st (.loadP rfl (by repeat first | exact TakeP.here _ | apply TakeP.there) Try.isAgg22 rfl) rfl rfl rfl ?_
                  refine Ops.st (.move rfl) rfl rfl rfl ?_
                  refine Ops.st (.add rfl rfl (by first | exact IntWalk.i64_in _ (by omega) | rfl)) rfl rfl rfl ?_
                  refine Ops.call ⟨Try.call29⟩ rfl rfl rfl (by repeat' first | exact Takes.nil _ | exact TakeP.here _ | apply TakeP.there | apply Takes.cons) (fun F' hF => ih (by omega) (hor.mono hF.hf) (hoc.mono hF.hf of)) rfl rfl rfl ?_
                  rintro _ _ ⟨rfl, rfl⟩
                  refine Ops.st (.move rfl) rfl rfl rfl ?_
                  refine Ops.st (.extract rfl rfl) rfl rfl rfl ?_
                  refine Ops.st (.extract rfl rfl) rfl rfl rfl ?_
                  refine Ops.st (.assign rfl) rfl rfl rfl ?_
                  refine Ops.st (.assign rfl) rfl rfl rfl ?_
                  refine Ops.nil ?_
                  refine Ext.block ?_
                  exact Ext.at_ ((mostR (d + 1) of).getD 0) ⟨by cases hq : mostR (d + 1) of; exact Nat.zero_le _; exact mostR_le hq, by rw [eachF, if_neg k1, if_neg k2, if_pos k3]; cases mostR (d + 1) of <;> simp⟩ ⟨rfl, rfl, rfl, rfl, rfl, rfl, rfl, by rw [eachF, if_neg k1, if_neg k2, if_pos k3]; rfl, trivial⟩ (Ent.take (by repeat' first | exact Takes.nil _ | exact TakeP.here _ | apply TakeP.there | apply Takes.cons))
                ·
                  refine Cod.region ?_
                  refine Ops.st (.assign rfl) rfl rfl rfl ?_
                  refine Ops.nil ?_
                  refine Ext.block ?_
                  exact Ext.at_ 0 ⟨by omega, by rw [eachF, if_neg k1, if_neg k2, if_neg k3]; exact .inl rfl⟩ ⟨rfl, rfl, rfl, rfl, rfl, rfl, rfl, by rw [eachF, if_neg k1, if_neg k2, if_neg k3]; rfl, trivial⟩ (Ent.take (by repeat' first | exact Takes.nil _ | exact TakeP.here _ | apply TakeP.there | apply Takes.cons))
          ·
            rintro n ⟨hn, he⟩
            dsimp only
            refine Cod.seq ?_
            refine Cod.cutK (fun _ : Unit => ⟨eachF d k of = some n ∧ ¬ (mx < mn ∨ (k ≠ 1 ∧ mx.toNat > 65536)), [(1, .int .i64 d), (6, .int .i64 s), (23, v), (24, .int .i64 fs.length), (25, .int .i64 i), (8, .pointer (some ⟨b, 0, none⟩)), (9, .int .i64 n)], [pt b 37 [.int .i64 k, W64 mn, W64 mx, ov]]⟩) ?_ ?_
            ·
              refine Cod.seq ?_
              refine Cod.region ?_
              refine Ops.st (.move rfl) rfl rfl rfl ?_
              refine Ops.st (.notB rfl) rfl rfl rfl ?_
              refine Ops.st (.move rfl) rfl rfl rfl ?_
              refine Ops.splitB (t := 51) rfl (fun e1 => ?_) (fun e1 => ?_)
              ·
                refine Ops.skipG rfl rfl rfl e1 rfl rfl ?_
                refine Ops.skipG rfl rfl rfl e1 rfl rfl ?_
                refine Ops.skipG rfl rfl rfl e1 rfl rfl ?_
                refine Ops.skipG rfl rfl rfl e1 rfl rfl ?_
                refine Ops.skipG rfl rfl rfl e1 rfl rfl ?_
                refine Ops.st (.pickT rfl e1 rfl) rfl rfl rfl ?_
                refine Ops.st (.move rfl) rfl rfl rfl ?_
                refine Ops.skipG rfl rfl rfl rfl rfl rfl ?_
                refine Ops.skipG rfl rfl rfl rfl rfl rfl ?_
                refine Ops.skipG rfl rfl rfl rfl rfl rfl ?_
                refine Ops.skipG rfl rfl rfl rfl rfl rfl ?_
                refine Ops.skipU rfl rfl rfl rfl rfl ?_
                refine Ops.skipU rfl rfl rfl rfl rfl ?_
                refine Ops.skipU rfl rfl rfl rfl rfl ?_
                refine Ops.skipG rfl rfl rfl rfl rfl rfl ?_
                refine Ops.st (.pickT rfl rfl rfl) rfl rfl rfl ?_
                refine Ops.nil ?_
                refine Ext.seq ?_
                refine Cod.condT rfl (by simp) ?_
                refine Cod.seq ?_
                refine Cod.region ?_
                refine Ops.st (.assign rfl) rfl rfl rfl ?_
                refine Ops.st (.assign rfl) rfl rfl rfl ?_
                refine Ops.nil ?_
                refine Ext.seq ?_
                exact Cod.ret (Ext.stopR (Ext.blockR (Ext.seqR (Ext.stopR (Ext.blockR (Ext.seqR (Ext.ret2E rfl rfl rfl (Ent.nil _) (⟨by have h0 : eachF d k of = none := (by cases hq : eachF d k of; rfl; rw [hq] at e1; cases e1); rw [h0] at hm; rw [← hm]; rfl, rfl⟩))))))))
              ·
                refine Ops.stG rfl rfl rfl e1 (.fieldAddr rfl fa37_1) rfl rfl ?_
                refine Ops.stG rfl rfl rfl e1 (.loadP rfl (by repeat first | exact TakeP.here _ | apply TakeP.there) Try.isAgg35 rfl) rfl rfl ?_
                refine Ops.stG rfl rfl rfl e1 (.fieldAddr rfl fa37_2) rfl rfl ?_
                refine Ops.stG rfl rfl rfl e1 (.loadP rfl (by repeat first | exact TakeP.here _ | apply TakeP.there) Try.isAgg35 rfl) rfl rfl ?_
                refine Ops.stG rfl rfl rfl e1 (.gtr rfl rfl) rfl rfl ?_
                refine Ops.st (.pickF rfl e1 rfl) rfl rfl rfl ?_
                refine Ops.st (.move rfl) rfl rfl rfl ?_
                refine Ops.splitD (t := 58) rfl (fun e2 => ?_) (fun e2 => ?_)
                ·
                  refine Ops.skipG rfl rfl rfl (decide_eq_true e2) rfl rfl ?_
                  refine Ops.skipG rfl rfl rfl (decide_eq_true e2) rfl rfl ?_
                  refine Ops.skipG rfl rfl rfl (decide_eq_true e2) rfl rfl ?_
                  refine Ops.skipG rfl rfl rfl (decide_eq_true e2) rfl rfl ?_
                  refine Ops.skipU rfl rfl rfl rfl rfl ?_
                  refine Ops.skipU rfl rfl rfl rfl rfl ?_
                  refine Ops.skipU rfl rfl rfl rfl rfl ?_
                  refine Ops.skipG rfl rfl rfl (decide_eq_true e2) rfl rfl ?_
                  refine Ops.st (.pickT rfl (decide_eq_true e2) rfl) rfl rfl rfl ?_
                  refine Ops.nil ?_
                  refine Ext.seq ?_
                  refine Cod.condT rfl (by simp) ?_
                  refine Cod.seq ?_
                  refine Cod.region ?_
                  refine Ops.st (.assign rfl) rfl rfl rfl ?_
                  refine Ops.st (.assign rfl) rfl rfl rfl ?_
                  refine Ops.nil ?_
                  refine Ext.seq ?_
                  exact Cod.ret (Ext.stopR (Ext.blockR (Ext.seqR (Ext.stopR (Ext.blockR (Ext.seqR (Ext.ret2E rfl rfl rfl (Ent.nil _) (⟨by have h9 : mx < mn := UInt64.lt_iff_toNat_lt.2 (by omega); rcases he with h0 | h0; rw [h0] at hm; rw [← hm]; rfl; rw [h0] at hm; simp only at hm; rw [if_pos (.inl h9)] at hm; rw [← hm]; rfl, rfl⟩))))))))
                ·
                  refine Ops.stG rfl rfl rfl (decide_eq_false e2) (.fieldAddr rfl fa37_0) rfl rfl ?_
                  refine Ops.stG rfl rfl rfl (decide_eq_false e2) (.loadP rfl (by repeat first | exact TakeP.here _ | apply TakeP.there) Try.isAgg3 rfl) rfl rfl ?_
                  refine Ops.stG rfl rfl rfl (decide_eq_false e2) (.neq rfl rfl) rfl rfl ?_
                  refine Ops.stG rfl rfl rfl (decide_eq_false e2) (.move rfl) rfl rfl ?_
                  refine Ops.splitD (t := 62) rfl (fun e3 => ?_) (fun e3 => ?_)
                  ·
                    refine Ops.stG rfl rfl rfl (decide_eq_true e3) (.fieldAddr rfl fa37_2) rfl rfl ?_
                    refine Ops.stG rfl rfl rfl (decide_eq_true e3) (.loadP rfl (by repeat first | exact TakeP.here _ | apply TakeP.there) Try.isAgg35 rfl) rfl rfl ?_
                    refine Ops.stG rfl rfl rfl (decide_eq_true e3) (.gtr rfl rfl) rfl rfl ?_
                    refine Ops.stG rfl rfl rfl (decide_eq_false e2) (.pickT rfl (decide_eq_true e3) rfl) rfl rfl ?_
                    refine Ops.st (.pickF rfl (decide_eq_false e2) rfl) rfl rfl rfl ?_
                    refine Ops.nil ?_
                    refine Ext.seq ?_
                    refine Cod.condD rfl (fun e4 => ?_) (fun e4 => ?_)
                    ·
                      refine Cod.seq ?_
                      refine Cod.region ?_
                      refine Ops.st (.assign rfl) rfl rfl rfl ?_
                      refine Ops.st (.assign rfl) rfl rfl rfl ?_
                      refine Ops.nil ?_
                      refine Ext.seq ?_
                      exact Cod.ret (Ext.stopR (Ext.blockR (Ext.seqR (Ext.stopR (Ext.blockR (Ext.seqR (Ext.ret2E rfl rfl rfl (Ent.nil _) (⟨by rcases he with h0 | h0; rw [h0] at hm; rw [← hm]; rfl; rw [h0] at hm; simp only at hm; rw [if_pos (.inr ⟨e3, by omega⟩)] at hm; rw [← hm]; rfl, rfl⟩))))))))
                    ·
                      refine Cod.skip ?_
                      exact Ext.at_ () ⟨by rcases he with h0 | h0; rw [h0] at e1; cases e1; exact h0, by rw [UInt64.lt_iff_toNat_lt]; omega⟩ ⟨rfl, rfl, rfl, rfl, rfl, rfl, rfl, trivial⟩ (Ent.take (by repeat' first | exact Takes.nil _ | exact TakeP.here _ | apply TakeP.there | apply Takes.cons))
                  ·
                    refine Ops.skipG rfl rfl rfl (decide_eq_false e3) rfl rfl ?_
                    refine Ops.skipG rfl rfl rfl (decide_eq_false e3) rfl rfl ?_
                    refine Ops.skipG rfl rfl rfl (decide_eq_false e3) rfl rfl ?_
                    refine Ops.stG rfl rfl rfl (decide_eq_false e2) (.pickF rfl (decide_eq_false e3) rfl) rfl rfl ?_
                    refine Ops.st (.pickF rfl (decide_eq_false e2) rfl) rfl rfl rfl ?_
                    refine Ops.nil ?_
                    refine Ext.seq ?_
                    refine Cod.condF rfl (by simp) ?_
                    refine Cod.skip ?_
                    exact Ext.at_ () ⟨by rcases he with h0 | h0; rw [h0] at e1; cases e1; exact h0, by rw [UInt64.lt_iff_toNat_lt]; omega⟩ ⟨rfl, rfl, rfl, rfl, rfl, rfl, rfl, trivial⟩ (Ent.take (by repeat' first | exact Takes.nil _ | exact TakeP.here _ | apply TakeP.there | apply Takes.cons))
            ·
              rintro _ ⟨he2, hno⟩
              dsimp only
              refine Cod.seq ?_
              refine Cod.region ?_
              rw [he2] at hm
              simp only at hm
              rw [if_neg hno] at hm
              generalize hw2 : wid (mx - mn).toNat + (if k ≠ 1 then mx.toNat * n else 0) = w2 at hm
              simp only at hm
              have hwl := wid_le (mx - mn).toNat
              refine Ops.st (.move rfl) rfl rfl rfl ?_
              refine Ops.st (.loadPA rfl (by repeat first | exact TakeP.here _ | apply TakeP.there) Try.isAgg37 Try.sizeOf37 rfl rfl) rfl rfl rfl ?_
              refine Ops.call ⟨Try.call36⟩ rfl rfl rfl (by repeat' first | exact Takes.nil _ | exact TakeP.here _ | apply TakeP.there | apply Takes.cons) (fun F' hF => width_any hov) rfl rfl rfl ?_
              rintro _ _ ⟨rfl, rfl⟩
              refine Ops.st (.add rfl rfl (by first | exact IntWalk.i64_in _ (by omega) | rfl)) rfl rfl rfl ?_
              refine Ops.st (.assign rfl) rfl rfl rfl ?_
              refine Ops.nil ?_
              refine Ext.seq ?_
              refine Cod.seq ?_
              refine Cod.cutK (fun _ : Unit => ⟨True, [(1, .int .i64 d), (6, .int .i64 ((s + w2 : Nat) : Int)), (23, v), (24, .int .i64 fs.length), (25, .int .i64 i)], []⟩) ?_ ?_
              ·
                refine Cod.seq ?_
                refine Cod.region ?_
                refine Ops.st (.fieldAddr rfl fa37_0) rfl rfl rfl ?_
                refine Ops.st (.loadP rfl (by repeat first | exact TakeP.here _ | apply TakeP.there) Try.isAgg3 rfl) rfl rfl rfl ?_
                refine Ops.st (.neq rfl rfl) rfl rfl rfl ?_
                refine Ops.nil ?_
                refine Ext.seq ?_
                refine Cod.condD rfl (fun k4 => ?_) (fun k4 => ?_)
                ·
                  have hmn : mx.toNat * n ≤ 65536 * 1048576 := Nat.mul_le_mul (by omega) hn
                  refine Cod.region ?_
                  refine Ops.st (.move rfl) rfl rfl rfl ?_
                  refine Ops.st (.fieldAddr rfl fa37_2) rfl rfl rfl ?_
                  refine Ops.st (.loadP rfl (by repeat first | exact TakeP.here _ | apply TakeP.there) Try.isAgg35 rfl) rfl rfl rfl ?_
                  refine Ops.st (.conv rfl Try.runUnderlying35 Try.runUnderlying3 (by first | exact IntWalk.i64_in _ (by omega) | rfl)) rfl rfl rfl ?_
                  refine Ops.st (.move rfl) rfl rfl rfl ?_
                  refine Ops.st (.mul (r := ((mx.toNat * n : Nat) : Int)) rfl rfl (by rw [IntWalk.i64_in _ (by rw [← Int.natCast_mul]; omega)]; exact (Int.natCast_mul ..).symm)) rfl rfl rfl ?_
                  refine Ops.st (.add rfl rfl (by first | exact IntWalk.i64_in _ (by omega) | rfl)) rfl rfl rfl ?_
                  refine Ops.st (.assign rfl) rfl rfl rfl ?_
                  refine Ops.nil ?_
                  exact Ext.at_ () trivial ⟨rfl, by rw [← hw2, if_pos k4]; exact congrArg (fun z => some (Value.int .i64 z)) (by omega), rfl, rfl, rfl, trivial⟩ (Ent.nil _)
                ·
                  refine Cod.skip ?_
                  exact Ext.at_ () trivial ⟨rfl, by rw [← hw2, if_neg k4]; exact congrArg (fun z => some (Value.int .i64 z)) (by omega), rfl, rfl, rfl, trivial⟩ (Ent.nil _)
              ·
                rintro _ _
                dsimp only
                refine Cod.seq ?_
                refine Cod.region ?_
                refine Ops.st (.move rfl) rfl rfl rfl ?_
                refine Ops.st (.gtr rfl rfl) rfl rfl rfl ?_
                refine Ops.nil ?_
                refine Ext.seq ?_
                refine Cod.condD rfl (fun e5 => ?_) (fun e5 => ?_)
                ·
                  refine Cod.seq ?_
                  refine Cod.region ?_
                  refine Ops.st (.assign rfl) rfl rfl rfl ?_
                  refine Ops.st (.assign rfl) rfl rfl rfl ?_
                  refine Ops.nil ?_
                  refine Ext.seq ?_
                  exact Cod.ret (Ext.blockR (Ext.seqR (Ext.stopR (Ext.blockR (Ext.seqR (Ext.ret2E rfl rfl rfl (Ent.nil _) (⟨by rw [if_pos (by omega)] at hm; rw [← hm]; rfl, rfl⟩)))))))
                ·
                  refine Cod.skip ?_
                  refine Ext.block ?_
                  refine Ext.seq ?_
                  refine Cod.region ?_
                  rw [if_neg (by omega)] at hm
                  refine Ops.st (.add rfl rfl (by first | exact IntWalk.i64_in _ (by omega) | rfl)) rfl rfl rfl ?_
                  refine Ops.st (.move rfl) rfl rfl rfl ?_
                  refine Ops.nil ?_
                  exact Ext.back (i + 1, s + w2) (by dsimp only; omega) ⟨by dsimp only; omega, by dsimp only; omega, hm⟩ ⟨rfl, rfl, rfl, rfl, rfl, trivial⟩ (Ent.nil _)
        ·
          refine Cod.exit (Ext.seqX (Ext.stopX (Ext.hit ?_)))
          refine Ext.seq ?_
          refine Cod.seq ?_
          refine Cod.region ?_
          obtain rfl : i = fs.length := by omega
          rw [List.drop_length, mostL] at hm
          rw [← hm]
          refine Ops.st (.move rfl) rfl rfl rfl ?_
          refine Ops.st (.assign rfl) rfl rfl rfl ?_
          refine Ops.st (.assign rfl) rfl rfl rfl ?_
          refine Ops.nil ?_
          refine Ext.seq ?_
          exact Cod.ret (Ext.ret2 rfl rfl rfl ⟨rfl, rfl⟩)
theorem most_any : ∀ (n d : Nat), d + n = 5 → ∀ {F : Fr} {v : Value} {cs : List Value} {fs : List Fld}, SlR F.hf v 4 fs.length cs → FldsR F.hf fs cs →
    Spec Try.prog F 29 [v, .int .i64 (d : Int)] [] (fun u hs' => u = .tuple #[.int .i64 ((mostR d fs).getD 0 : Nat), .bool (mostR d fs).isSome] ∧ hs' = [])
  | 0, d, h, F, v, cs, fs, hr, hc => most_step (fun h4 => absurd h4 (by omega)) hr hc
  | n + 1, d, h, F, v, cs, fs, hr, hc => most_step (fun _ {F v cs fs} hr hc => most_any n (d + 1) (by omega) hr hc) hr hc
end Go.Proofs.Ytacgngfjanlfnaa
