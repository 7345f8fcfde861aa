/- The reference: does a record fit, and its bytes. No condition. -/
import Derived.Test.YtacgngfjanlfnaaPG
namespace Go.Proofs.Ytacgngfjanlfnaa
open Go

theorem fitE1 {k : Int} {mn mx n : UInt64} {of : List Fld} {b : List UInt8} {l : List (List Val)} (hk : k = 1) : fitF (.mk k mn mx of) (.mk n b l) = (b.isEmpty && (l.isEmpty && inS mn mx n)) := by
  subst hk
  rw [fitF, if_pos rfl, nil0]; rfl
theorem fitE2 {k : Int} {mn mx n : UInt64} {of : List Fld} {b : List UInt8} {l : List (List Val)} (hk : k = 2) (hb : b.length < 18446744073709551616) : fitF (.mk k mn mx of) (.mk n b l) = (decide (n = 0) && (l.isEmpty && inS mn mx (UInt64.ofNat b.length))) := by
  subst hk
  rw [fitF, if_neg (by decide), if_pos rfl, inS_nat hb]
theorem fitE3 {k : Int} {mn mx n : UInt64} {of : List Fld} {b : List UInt8} {l : List (List Val)} (hk : k = 3) (hl : l.length < 18446744073709551616) : fitF (.mk k mn mx of) (.mk n b l) = (decide (n = 0) && (b.isEmpty && (inS mn mx (UInt64.ofNat l.length) && l.all fun r => fitR of r))) := by
  subst hk
  rw [fitF, if_neg (by decide), if_neg (by decide), inS_nat hl, nil0]
theorem inS_lo {mn mx n : UInt64} (h : (n.toNat : Int) < mn.toNat) : inS mn mx n = false := by unfold inS; rw [decide_eq_false (fun x => by have := le_nat.1 x; omega)]; rfl
theorem inS_hi {mn mx n : UInt64} (h : (mx.toNat : Int) < n.toNat) : inS mn mx n = false := by unfold inS; rw [decide_eq_false (p := n ≤ mx) (fun x => by have := le_nat.1 x; omega), Bool.and_false]
theorem inS_in {mn mx n : UInt64} (h : ¬ (n.toNat : Int) < mn.toNat) (h' : ¬ (mx.toNat : Int) < n.toNat) : inS mn mx n = true := by unfold inS; rw [decide_eq_true (le_nat.2 (by omega)), decide_eq_true (le_nat.2 (by omega))]; rfl
theorem emp_of {α : Type} {l : List α} (h : ¬ (0 : Int) < l.length) : l = [] := List.eq_nil_of_length_eq_zero (by omega)
theorem ne_of {α : Type} {l : List α} (h : (0 : Int) < l.length) : l.isEmpty = false := by cases l; simp at h; rfl

theorem fits_step {d : Nat} (ih : d ≤ 4 → ∀ {F : Fr} {lv vv : Value} {cs ws : List Value} {fs : List Fld} {vs : List Val} {m : Nat}, SlR F.hf lv 4 fs.length cs → FldsR F.hf fs cs → SlR F.hf vv 3 vs.length ws → ValsR F.hf vs ws → mostR (d + 1) fs = some m →
      Spec Try.prog F 27 [lv, vv] [] (fun u hs' => u = .bool (fitR fs vs) ∧ hs' = []))
    {F : Fr} {lv vv : Value} {cs ws : List Value} {fs : List Fld} {vs : List Val} {m : Nat} (hr : SlR F.hf lv 4 fs.length cs) (hc : FldsR F.hf fs cs) (hs : SlR F.hf vv 3 vs.length ws) (hw : ValsR F.hf vs ws) (hm : mostR d fs = some m) :
    Spec Try.prog F 27 [lv, vv] [] (fun u hs' => u = .bool (fitR fs vs) ∧ hs' = []) := by
  have hfl := hr.small
  refine Spec.body Try.func27 rfl Try.ntmps27 rfl ?_
  refine Cod.seq ?_
  refine Cod.region ?_
  refine Ops.st (.assign rfl) rfl rfl rfl ?_
  refine Ops.nil ?_
  refine Ext.seq ?_
  refine Cod.seq ?_
  refine Cod.seq ?_
  refine Cod.region ?_
  refine Ops.st (.move rfl) rfl rfl rfl ?_
  refine Ops.st (.len rfl (Rd.ro hr) Try.runUnderlying22) rfl rfl rfl ?_
  refine Ops.st (.move rfl) rfl rfl rfl ?_
  refine Ops.st (.len rfl (Rd.ro hs) Try.runUnderlying23) rfl rfl rfl ?_
  refine Ops.st (.neq rfl rfl) rfl rfl rfl ?_
  refine Ops.nil ?_
  refine Ext.seq ?_
  refine Cod.condD rfl (fun h0 => ?_) (fun h0 => ?_)
  ·
    refine Cod.seq ?_
    refine Cod.region ?_
    refine Ops.st (.assign rfl) rfl rfl rfl ?_
    refine Ops.nil ?_
    refine Ext.seq ?_
    exact Cod.ret (Ext.seqR (Ext.ret rfl rfl ⟨by rw [fitR_len' (by omega)], rfl⟩))
  ·
    refine Cod.skip ?_
    refine Ext.seq ?_
    refine Cod.seq ?_
    refine Cod.seq ?_
    refine Cod.region ?_
    have hln : fs.length = vs.length := by omega
    refine Ops.st (.assign rfl) rfl rfl rfl ?_
    refine Ops.nil ?_
    refine Ext.seq ?_
    refine Cod.block ?_
    refine Cod.loop (fun i : Nat => ⟨i ≤ fs.length ∧ fitR fs vs = fitR (fs.drop i) (vs.drop i), [(0, lv), (1, vv), (5, .int .i64 i)], []⟩) (fun i => fs.length - i) 0 ⟨Nat.zero_le _, rfl⟩ ⟨rfl, rfl, rfl, trivial⟩ (Ent.nil _) ?_
    rintro i ⟨hi, hf1⟩
    dsimp only
    refine Cod.seq ?_
    refine Cod.seq ?_
    refine Cod.region ?_
    refine Ops.st (.move rfl) rfl rfl rfl ?_
    refine Ops.st (.move rfl) rfl rfl rfl ?_
    refine Ops.st (.len rfl (Rd.ro hr) Try.runUnderlying22) rfl rfl rfl ?_
    refine Ops.st (.lss rfl rfl) rfl rfl rfl ?_
    refine Ops.nil ?_
    refine Ext.seq ?_
    refine Cod.condD rfl (fun h4 => ?_) (fun h4 => ?_)
    ·
      refine Cod.skip ?_
      refine Ext.seq ?_
      refine Cod.seq ?_
      refine Cod.block ?_
      refine Cod.seq ?_
      refine Cod.region ?_
      obtain ⟨k, mn, mx, of, hf⟩ : ∃ k mn mx of, fs[i]? = some (.mk k mn mx of) := by rcases he : fs[i]'(by omega) with ⟨k, mn, mx, of⟩; exact ⟨k, mn, mx, of, by rw [List.getElem?_eq_getElem (by omega), he]⟩
      obtain ⟨n, b, l, hv⟩ : ∃ n b l, vs[i]? = some (.mk n b l) := by rcases he : vs[i]'(by omega) with ⟨n, b, l⟩; exact ⟨n, b, l, by rw [List.getElem?_eq_getElem (by omega), he]⟩
      obtain ⟨ov, ocs, hrow, hor, hoc⟩ := hc.get hf
      obtain ⟨xv, yv, rows, hvrow, hxr, hyr, hrs⟩ := hw.get hv
      obtain ⟨hk, hd4, hsub⟩ := mostR_sub hm hf
      have hov := hor.sl
      have hxv := hxr.sl
      have hyv := hyr.sl
      have hbl := hxr.small
      have hll := hyr.small
      rw [drop_get hf, drop_get hv, fitR] at hf1
      refine Ops.st (.move rfl) rfl rfl rfl ?_
      refine Ops.st (.move rfl) rfl rfl rfl ?_
      refine Ops.st (.indexAddr (j := i) (off := i * 4) rfl rfl (Rd.ro hr) Try.runUnderlying22 Try.sizeOf37 rfl (by omega) rfl) rfl rfl rfl ?_
      refine Ops.st (.load_elemA (ds := [.int .i64 k, W64 mn, W64 mx, ov]) rfl (Rd.ro hr) Try.isAgg37 Try.sizeOf37 (by omega) rfl (row_at hrow)) rfl rfl rfl ?_
      refine Ops.ef (.alloc Try.zeroValue37 rfl) rfl rfl rfl ?_
      rintro fb _ ⟨fb, rfl, rfl⟩
      refine Ops.ef10 (.storeA (vs := [.int .i64 k, W64 mn, W64 mx, ov]) (cs' := [.int .i64 k, W64 mn, W64 mx, ov]) rfl rfl (by repeat first | exact TakeP.here _ | apply TakeP.there) Try.sizeOf37 rfl (by decide) (by exact One.cons rfl (One.cons rfl (One.cons rfl (One.cons hov.one One.nil)))) rfl) rfl rfl ?_
      refine Ops.nil ?_
      refine Ext.seq ?_
      refine Cod.seq ?_
      refine Cod.region ?_
      refine Ops.st (.move rfl) rfl rfl rfl ?_
      refine Ops.st (.move rfl) rfl rfl rfl ?_
      refine Ops.st (.indexAddr (j := i) (off := i * 3) rfl rfl (Rd.ro hs) Try.runUnderlying23 Try.sizeOf40 rfl (by omega) rfl) rfl rfl rfl ?_
      refine Ops.st (.load_elemA (ds := [W64 n, xv, yv]) rfl (Rd.ro hs) Try.isAgg40 Try.sizeOf40 (by omega) rfl (row_at hvrow)) rfl rfl rfl ?_
      refine Ops.ef (.alloc Try.zeroValue40 rfl) rfl rfl rfl ?_
      rintro xb _ ⟨xb, rfl, rfl⟩
      refine Ops.ef10 (.storeA (vs := [W64 n, xv, yv]) (cs' := [W64 n, xv, yv]) rfl rfl (by repeat first | exact TakeP.here _ | apply TakeP.there) Try.sizeOf40 rfl (by decide) (by exact One.cons rfl (One.cons hxv.one (One.cons hyv.one One.nil))) rfl) rfl rfl ?_
      refine Ops.nil ?_
      refine Ext.seq ?_
      refine Cod.seq ?_
      refine Cod.region ?_
      refine Ops.st (.fieldAddr rfl fa40_0) rfl rfl rfl ?_
      refine Ops.st (.loadP rfl (by repeat first | exact TakeP.here _ | apply TakeP.there) Try.isAgg35 rfl) rfl rfl rfl ?_
      refine Ops.st (.assign rfl) rfl rfl rfl ?_
      refine Ops.nil ?_
      refine Ext.seq ?_
      refine Cod.seq ?_
      refine Cod.cutK (fun n' : UInt64 => ⟨fitF (.mk k mn mx of) (.mk n b l) = (inS mn mx n' && l.all fun r => fitR of r) ∧ (l ≠ [] → k = 3), [(0, lv), (1, vv), (5, .int .i64 i), (6, .pointer (some ⟨fb, 0, none⟩)), (7, .pointer (some ⟨xb, 0, none⟩)), (8, W64 n')], [pt fb 37 [.int .i64 k, W64 mn, W64 mx, ov], pt xb 40 [W64 n, xv, yv]]⟩) ?_ ?_
      ·
        refine Cod.seq ?_
        refine Cod.region ?_
        refine Ops.st (.fieldAddr rfl fa37_0) rfl rfl rfl ?_
        refine Ops.st (.loadP rfl (by repeat first | exact TakeP.here _ | apply TakeP.there) Try.isAgg3 rfl) rfl rfl rfl ?_
        refine Ops.nil ?_
        refine Ext.seq ?_
        refine Cod.block ?_
        refine Cod.seq ?_
        refine Cod.region ?_
        refine Ops.st (.eql rfl rfl) rfl rfl rfl ?_
        refine Ops.st (.assign rfl) rfl rfl rfl ?_
        refine Ops.nil ?_
        refine Ext.seq ?_
        refine Cod.condD rfl (fun k1 => ?_) (fun k1 => ?_)
        ·
          refine Cod.seq ?_
          refine Cod.region ?_
          refine Ops.st (.fieldAddr rfl fa40_1) rfl rfl rfl ?_
          refine Ops.st (.loadP rfl (by repeat first | exact TakeP.here _ | apply TakeP.there) Try.isAgg26 rfl) rfl rfl rfl ?_
          refine Ops.st (.len rfl (Rd.ro hxr) Try.runUnderlying26) rfl rfl rfl ?_
          refine Ops.st (.gtr rfl rfl) rfl rfl rfl ?_
          refine Ops.st (.move rfl) rfl rfl rfl ?_
          refine Ops.splitD (t := 40) rfl (fun e1 => ?_) (fun e1 => ?_)
          ·
            refine Ops.skipG rfl rfl rfl (decide_eq_true e1) rfl rfl ?_
            refine Ops.skipG rfl rfl rfl (decide_eq_true e1) rfl rfl ?_
            refine Ops.skipG rfl rfl rfl (decide_eq_true e1) rfl rfl ?_
            refine Ops.skipG rfl rfl rfl (decide_eq_true e1) rfl rfl ?_
            refine Ops.st (.pickT rfl (decide_eq_true e1) rfl) rfl rfl rfl ?_
            refine Ops.nil ?_
            refine Ext.seq ?_
            refine Cod.condT rfl (by simp) ?_
            refine Cod.seq ?_
            refine Cod.region ?_
            refine Ops.st (.assign rfl) rfl rfl rfl ?_
            refine Ops.nil ?_
            refine Ext.seq ?_
            exact Cod.ret (Ext.blockR (Ext.stopR (Ext.blockR (Ext.seqR (Ext.stopR (Ext.blockR (Ext.seqR (Ext.retE rfl rfl (Ent.nil _) (⟨by rw [hf1, fitE1 k1, ne_of e1]; rfl, rfl⟩)))))))))
          ·
            refine Ops.stG rfl rfl rfl (decide_eq_false e1) (.fieldAddr rfl fa40_2) rfl rfl ?_
            refine Ops.stG rfl rfl rfl (decide_eq_false e1) (.loadP rfl (by repeat first | exact TakeP.here _ | apply TakeP.there) Try.isAgg38 rfl) rfl rfl ?_
            refine Ops.stG rfl rfl rfl (decide_eq_false e1) (.len rfl (Rd.ro hyr) Try.runUnderlying38) rfl rfl ?_
            refine Ops.stG rfl rfl rfl (decide_eq_false e1) (.gtr rfl rfl) rfl rfl ?_
            refine Ops.st (.pickF rfl (decide_eq_false e1) rfl) rfl rfl rfl ?_
            refine Ops.nil ?_
            refine Ext.seq ?_
            refine Cod.condD rfl (fun e2 => ?_) (fun e2 => ?_)
            ·
              refine Cod.seq ?_
              refine Cod.region ?_
              refine Ops.st (.assign rfl) rfl rfl rfl ?_
              refine Ops.nil ?_
              refine Ext.seq ?_
              exact Cod.ret (Ext.blockR (Ext.stopR (Ext.blockR (Ext.seqR (Ext.stopR (Ext.blockR (Ext.seqR (Ext.retE rfl rfl (Ent.nil _) (⟨by rw [hf1, fitE1 k1, ne_of e2, Bool.false_and, Bool.and_false]; rfl, rfl⟩)))))))))
            ·
              refine Cod.skip ?_
              refine Ext.block ?_
              exact Ext.at_ n ⟨by rw [fitE1 k1, emp_of e1, emp_of e2]; simp, fun h => absurd (emp_of e2) h⟩ ⟨rfl, rfl, rfl, rfl, rfl, rfl, trivial⟩ (Ent.take (by repeat' first | exact Takes.nil _ | exact TakeP.here _ | apply TakeP.there | apply Takes.cons))
        ·
          refine Cod.seq ?_
          refine Cod.region ?_
          refine Ops.st (.eql rfl rfl) rfl rfl rfl ?_
          refine Ops.st (.assign rfl) rfl rfl rfl ?_
          refine Ops.nil ?_
          refine Ext.seq ?_
          refine Cod.condD rfl (fun k2 => ?_) (fun k2 => ?_)
          ·
            refine Cod.seq ?_
            refine Cod.region ?_
            refine Ops.st (.fieldAddr rfl fa40_1) rfl rfl rfl ?_
            refine Ops.st (.loadP rfl (by repeat first | exact TakeP.here _ | apply TakeP.there) Try.isAgg26 rfl) rfl rfl rfl ?_
            refine Ops.st (.len rfl (Rd.ro hxr) Try.runUnderlying26) rfl rfl rfl ?_
            refine Ops.st (.convI_64 rfl rfl Try.underlying3 Try.underlying35) rfl rfl rfl ?_
            refine Ops.st (.assign rfl) rfl rfl rfl ?_
            refine Ops.nil ?_
            refine Ext.seq ?_
            refine Cod.seq ?_
            refine Cod.region ?_
            refine Ops.st (.fieldAddr rfl fa40_0) rfl rfl rfl ?_
            refine Ops.st (.loadP rfl (by repeat first | exact TakeP.here _ | apply TakeP.there) Try.isAgg35 rfl) rfl rfl rfl ?_
            refine Ops.st (.neqW64 rfl (show _ = some (W64 0) from rfl)) rfl rfl rfl ?_
            refine Ops.st (.move rfl) rfl rfl rfl ?_
            refine Ops.splitD (t := 55) rfl (fun e1 => ?_) (fun e1 => ?_)
            ·
              refine Ops.skipG rfl rfl rfl (decide_eq_true e1) rfl rfl ?_
              refine Ops.skipG rfl rfl rfl (decide_eq_true e1) rfl rfl ?_
              refine Ops.skipG rfl rfl rfl (decide_eq_true e1) rfl rfl ?_
              refine Ops.skipG rfl rfl rfl (decide_eq_true e1) rfl rfl ?_
              refine Ops.st (.pickT rfl (decide_eq_true e1) rfl) rfl rfl rfl ?_
              refine Ops.nil ?_
              refine Ext.seq ?_
              refine Cod.condT rfl (by simp) ?_
              refine Cod.seq ?_
              refine Cod.region ?_
              refine Ops.st (.assign rfl) rfl rfl rfl ?_
              refine Ops.nil ?_
              refine Ext.seq ?_
              exact Cod.ret (Ext.blockR (Ext.stopR (Ext.blockR (Ext.seqR (Ext.stopR (Ext.blockR (Ext.seqR (Ext.retE rfl rfl (Ent.nil _) (⟨by rw [hf1, fitE2 k2 (by omega), decide_eq_false e1]; rfl, rfl⟩)))))))))
            ·
              refine Ops.stG rfl rfl rfl (decide_eq_false e1) (.fieldAddr rfl fa40_2) rfl rfl ?_
              refine Ops.stG rfl rfl rfl (decide_eq_false e1) (.loadP rfl (by repeat first | exact TakeP.here _ | apply TakeP.there) Try.isAgg38 rfl) rfl rfl ?_
              refine Ops.stG rfl rfl rfl (decide_eq_false e1) (.len rfl (Rd.ro hyr) Try.runUnderlying38) rfl rfl ?_
              refine Ops.stG rfl rfl rfl (decide_eq_false e1) (.gtr rfl rfl) rfl rfl ?_
              refine Ops.st (.pickF rfl (decide_eq_false e1) rfl) rfl rfl rfl ?_
              refine Ops.nil ?_
              refine Ext.seq ?_
              refine Cod.condD rfl (fun e2 => ?_) (fun e2 => ?_)
              ·
                refine Cod.seq ?_
                refine Cod.region ?_
                refine Ops.st (.assign rfl) rfl rfl rfl ?_
                refine Ops.nil ?_
                refine Ext.seq ?_
                exact Cod.ret (Ext.blockR (Ext.stopR (Ext.blockR (Ext.seqR (Ext.stopR (Ext.blockR (Ext.seqR (Ext.retE rfl rfl (Ent.nil _) (⟨by rw [hf1, fitE2 k2 (by omega), ne_of e2, Bool.false_and, Bool.and_false]; rfl, rfl⟩)))))))))
              ·
                refine Cod.skip ?_
                refine Ext.block ?_
                exact Ext.at_ (UInt64.ofNat b.length) ⟨by rw [fitE2 k2 (by omega), decide_eq_true (Decidable.of_not_not e1), emp_of e2]; simp, fun h => absurd (emp_of e2) h⟩ ⟨rfl, rfl, rfl, rfl, rfl, rfl, trivial⟩ (Ent.take (by repeat' first | exact Takes.nil _ | exact TakeP.here _ | apply TakeP.there | apply Takes.cons))
          ·
            refine Cod.seq ?_
            refine Cod.region ?_
            refine Ops.st (.eql rfl rfl) rfl rfl rfl ?_
            refine Ops.st (.assign rfl) rfl rfl rfl ?_
            refine Ops.nil ?_
            refine Ext.seq ?_
            refine Cod.condT rfl (decide_eq_true (by omega)) ?_
            refine Cod.seq ?_
            refine Cod.region ?_
            refine Ops.st (.fieldAddr rfl fa40_2) rfl rfl rfl ?_
            refine Ops.st (.loadP rfl (by repeat first | exact TakeP.here _ | apply TakeP.there) Try.isAgg38 rfl) rfl rfl rfl ?_
            refine Ops.st (.len rfl (Rd.ro hyr) Try.runUnderlying38) rfl rfl rfl ?_
            refine Ops.st (.convI_64 rfl rfl Try.underlying3 Try.underlying35) rfl rfl rfl ?_
            refine Ops.st (.assign rfl) rfl rfl rfl ?_
            refine Ops.nil ?_
            refine Ext.seq ?_
            refine Cod.seq ?_
            refine Cod.region ?_
            refine Ops.st (.fieldAddr rfl fa40_0) rfl rfl rfl ?_
            refine Ops.st (.loadP rfl (by repeat first | exact TakeP.here _ | apply TakeP.there) Try.isAgg35 rfl) rfl rfl rfl ?_
            refine Ops.st (.neqW64 rfl (show _ = some (W64 0) from rfl)) rfl rfl rfl ?_
            refine Ops.st (.move rfl) rfl rfl rfl ?_
            refine Ops.splitD (t := 70) rfl (fun e1 => ?_) (fun e1 => ?_)
            ·
              refine Ops.skipG rfl rfl rfl (decide_eq_true e1) rfl rfl ?_
              refine Ops.skipG rfl rfl rfl (decide_eq_true e1) rfl rfl ?_
              refine Ops.skipG rfl rfl rfl (decide_eq_true e1) rfl rfl ?_
              refine Ops.skipG rfl rfl rfl (decide_eq_true e1) rfl rfl ?_
              refine Ops.st (.pickT rfl (decide_eq_true e1) rfl) rfl rfl rfl ?_
              refine Ops.nil ?_
              refine Ext.seq ?_
              refine Cod.condT rfl (by simp) ?_
              refine Cod.seq ?_
              refine Cod.region ?_
              refine Ops.st (.assign rfl) rfl rfl rfl ?_
              refine Ops.nil ?_
              refine Ext.seq ?_
              exact Cod.ret (Ext.blockR (Ext.stopR (Ext.blockR (Ext.seqR (Ext.stopR (Ext.blockR (Ext.seqR (Ext.retE rfl rfl (Ent.nil _) (⟨by rw [hf1, fitE3 (by omega) (by omega), decide_eq_false e1]; rfl, rfl⟩)))))))))
            ·
              refine Ops.stG rfl rfl rfl (decide_eq_false e1) (.fieldAddr rfl fa40_1) rfl rfl ?_
              refine Ops.stG rfl rfl rfl (decide_eq_false e1) (.loadP rfl (by repeat first | exact TakeP.here _ | apply TakeP.there) Try.isAgg26 rfl) rfl rfl ?_
              refine Ops.stG rfl rfl rfl (decide_eq_false e1) (.len rfl (Rd.ro hxr) Try.runUnderlying26) rfl rfl ?_
              refine Ops.stG rfl rfl rfl (decide_eq_false e1) (.gtr rfl rfl) rfl rfl ?_
              refine Ops.st (.pickF rfl (decide_eq_false e1) rfl) rfl rfl rfl ?_
              refine Ops.nil ?_
              refine Ext.seq ?_
              refine Cod.condD rfl (fun e2 => ?_) (fun e2 => ?_)
              ·
                refine Cod.seq ?_
                refine Cod.region ?_
                refine Ops.st (.assign rfl) rfl rfl rfl ?_
                refine Ops.nil ?_
                refine Ext.seq ?_
                exact Cod.ret (Ext.blockR (Ext.stopR (Ext.blockR (Ext.seqR (Ext.stopR (Ext.blockR (Ext.seqR (Ext.retE rfl rfl (Ent.nil _) (⟨by rw [hf1, fitE3 (by omega) (by omega), ne_of e2, Bool.false_and, Bool.and_false]; rfl, rfl⟩)))))))))
              ·
                refine Cod.skip ?_
                refine Ext.block ?_
                exact Ext.at_ (UInt64.ofNat l.length) ⟨by rw [fitE3 (by omega) (by omega), decide_eq_true (Decidable.of_not_not e1), emp_of e2]; simp, fun _ => by omega⟩ ⟨rfl, rfl, rfl, rfl, rfl, rfl, trivial⟩ (Ent.take (by repeat' first | exact Takes.nil _ | exact TakeP.here _ | apply TakeP.there | apply Takes.cons))
      ·
        rintro n' ⟨hF, hl3⟩
        dsimp only
        refine Cod.seq ?_
        refine Cod.seq ?_
        refine Cod.region ?_
        refine Ops.st (.move rfl) rfl rfl rfl ?_
        refine Ops.st (.fieldAddr rfl fa37_1) rfl rfl rfl ?_
        refine Ops.st (.loadP rfl (by repeat first | exact TakeP.here _ | apply TakeP.there) Try.isAgg35 rfl) rfl rfl rfl ?_
        refine Ops.st (.lss rfl rfl) rfl rfl rfl ?_
        refine Ops.st (.move rfl) rfl rfl rfl ?_
        refine Ops.splitD (t := 80) rfl (fun e1 => ?_) (fun e1 => ?_)
        ·
          refine Ops.skipG rfl rfl rfl (decide_eq_true e1) rfl rfl ?_
          refine Ops.skipG rfl rfl rfl (decide_eq_true e1) rfl rfl ?_
          refine Ops.skipG rfl rfl rfl (decide_eq_true e1) rfl rfl ?_
          refine Ops.skipG rfl rfl rfl (decide_eq_true e1) rfl rfl ?_
          refine Ops.st (.pickT rfl (decide_eq_true e1) rfl) rfl rfl rfl ?_
          refine Ops.nil ?_
          refine Ext.seq ?_
          refine Cod.condT rfl (by simp) ?_
          refine Cod.seq ?_
          refine Cod.region ?_
          refine Ops.st (.assign rfl) rfl rfl rfl ?_
          refine Ops.nil ?_
          refine Ext.seq ?_
          exact Cod.ret (Ext.seqR (Ext.blockR (Ext.seqR (Ext.stopR (Ext.blockR (Ext.seqR (Ext.retE rfl rfl (Ent.nil _) (⟨by rw [hf1, hF, inS_lo e1]; rfl, rfl⟩))))))))
        ·
          refine Ops.stG rfl rfl rfl (decide_eq_false e1) (.move rfl) rfl rfl ?_
          refine Ops.stG rfl rfl rfl (decide_eq_false e1) (.fieldAddr rfl fa37_2) rfl rfl ?_
          refine Ops.stG rfl rfl rfl (decide_eq_false e1) (.loadP rfl (by repeat first | exact TakeP.here _ | apply TakeP.there) Try.isAgg35 rfl) rfl rfl ?_
          refine Ops.stG rfl rfl rfl (decide_eq_false e1) (.gtr rfl rfl) rfl rfl ?_
          refine Ops.st (.pickF rfl (decide_eq_false e1) rfl) rfl rfl rfl ?_
          refine Ops.nil ?_
          refine Ext.seq ?_
          refine Cod.condD rfl (fun e2 => ?_) (fun e2 => ?_)
          ·
            refine Cod.seq ?_
            refine Cod.region ?_
            refine Ops.st (.assign rfl) rfl rfl rfl ?_
            refine Ops.nil ?_
            refine Ext.seq ?_
            exact Cod.ret (Ext.seqR (Ext.blockR (Ext.seqR (Ext.stopR (Ext.blockR (Ext.seqR (Ext.retE rfl rfl (Ent.nil _) (⟨by rw [hf1, hF, inS_hi e2]; rfl, rfl⟩))))))))
          ·
            refine Cod.skip ?_
            refine Ext.seq ?_
            refine Cod.seq ?_
            refine Cod.region ?_
            rw [inS_in e1 e2, Bool.true_and] at hF
            refine Ops.st (.assign rfl) rfl rfl rfl ?_
            refine Ops.nil ?_
            refine Ext.seq ?_
            refine Cod.block ?_
            refine Cod.loop (fun j : Nat => ⟨j ≤ l.length ∧ ((l.take j).all fun r => fitR of r) = true, [(0, lv), (1, vv), (5, .int .i64 i), (6, .pointer (some ⟨fb, 0, none⟩)), (7, .pointer (some ⟨xb, 0, none⟩)), (9, .int .i64 j)], [pt fb 37 [.int .i64 k, W64 mn, W64 mx, ov], pt xb 40 [W64 n, xv, yv]]⟩) (fun j => l.length - j) 0 ⟨Nat.zero_le _, rfl⟩ ⟨rfl, rfl, rfl, rfl, rfl, rfl, trivial⟩ (Ent.take (by repeat' first | exact Takes.nil _ | exact TakeP.here _ | apply TakeP.there | apply Takes.cons)) ?_
            rintro j ⟨hj, hja⟩
            dsimp only
            refine Cod.seq ?_
            refine Cod.seq ?_
            refine Cod.region ?_
            refine Ops.st (.move rfl) rfl rfl rfl ?_
            refine Ops.st (.fieldAddr rfl fa40_2) rfl rfl rfl ?_
            refine Ops.st (.loadP rfl (by repeat first | exact TakeP.here _ | apply TakeP.there) Try.isAgg38 rfl) rfl rfl rfl ?_
            refine Ops.st (.len rfl (Rd.ro hyr) Try.runUnderlying38) rfl rfl rfl ?_
            refine Ops.st (.lss rfl rfl) rfl rfl rfl ?_
            refine Ops.nil ?_
            refine Ext.seq ?_
            refine Cod.condD rfl (fun h6 => ?_) (fun h6 => ?_)
            ·
              refine Cod.skip ?_
              refine Ext.seq ?_
              refine Cod.seq ?_
              refine Cod.block ?_
              refine Cod.seq ?_
              obtain ⟨r, hrj⟩ : ∃ r, l[j]? = some r := ⟨l[j]'(by omega), List.getElem?_eq_getElem (by omega)⟩
              obtain ⟨rv, rcs, hrv, hrr, hrq⟩ := hrs.get hrj
              obtain ⟨m2, hm2⟩ := hsub (hl3 (by intro h; rw [h] at h6; simp at h6; omega))
              refine Cod.regionT 7 mixed (by kernel_rfl) ?_
              refine Ss.st (.fieldAddr rfl fa37_3) rfl rfl rfl ?_
              refine Ss.st (.loadP rfl (by repeat first | exact TakeP.here _ | apply TakeP.there) Try.isAgg22 rfl) rfl rfl rfl ?_
              refine Ss.st (.fieldAddr rfl fa40_2) rfl rfl rfl ?_
              refine Ss.st (.loadP rfl (by repeat first | exact TakeP.here _ | apply TakeP.there) Try.isAgg38 rfl) rfl rfl rfl ?_
              refine Ss.st (.move rfl) rfl rfl rfl ?_
              refine Ss.st (.indexAddr (j := j) (off := j) rfl rfl (Rd.ro hyr) Try.runUnderlying38 Try.sizeOf23 rfl (by omega) (by omega)) rfl rfl rfl ?_
              refine Ss.st (.load_elem rfl (Rd.ro hyr) Try.isAgg23 hrv) rfl rfl rfl ?_
              refine Ss.nil ?_
              refine Ops.call ⟨Try.call27⟩ rfl rfl rfl (by repeat' first | exact Takes.nil _ | exact TakeP.here _ | apply TakeP.there | apply Takes.cons) (fun F' hF => ih hd4 (hor.mono hF.hf) (hoc.mono hF.hf of) (hrr.mono hF.hf) (hrq.mono hF.hf r) hm2) rfl rfl rfl ?_
              rintro _ _ ⟨rfl, rfl⟩
              refine Ops.st (.assign rfl) rfl rfl rfl ?_
              refine Ops.nil ?_
              refine Ext.seq ?_
              refine Cod.seq ?_
              refine Cod.region ?_
              refine Ops.st (.move rfl) rfl rfl rfl ?_
              refine Ops.st (.notB rfl) rfl rfl rfl ?_
              refine Ops.nil ?_
              refine Ext.seq ?_
              refine Cod.cond rfl (fun h7 => ?_) (fun h7 => ?_)
              ·
                refine Cod.seq ?_
                refine Cod.region ?_
                refine Ops.st (.assign rfl) rfl rfl rfl ?_
                refine Ops.nil ?_
                refine Ext.seq ?_
                exact Cod.ret (Ext.blockR (Ext.seqR (Ext.stopR (Ext.blockR (Ext.blockR (Ext.seqR (Ext.stopR (Ext.blockR (Ext.seqR (Ext.retE rfl rfl (Ent.nil _) (⟨by have h8 : fitR of r = false := (by cases hq : fitR of r; rfl; rw [hq] at h7; cases h7); have h9 : (l.all fun r => fitR of r) = false := (by cases hq : (l.all fun r => fitR of r); rfl; rw [List.all_eq_true.1 hq r (List.mem_of_getElem? hrj)] at h8; cases h8); rw [hf1, hF, h9]; rfl, rfl⟩)))))))))))
              ·
                refine Cod.skip ?_
                refine Ext.block ?_
                refine Ext.seq ?_
                refine Cod.region ?_
                refine Ops.st (.move rfl) rfl rfl rfl ?_
                refine Ops.st (.add rfl rfl (by first | exact IntWalk.i64_in _ (by omega) | rfl)) rfl rfl rfl ?_
                refine Ops.st (.assign rfl) rfl rfl rfl ?_
                refine Ops.nil ?_
                exact Ext.back (j + 1) (by omega) ⟨by omega, by have h8 : fitR of r = true := (by cases hq : fitR of r; rw [hq] at h7; cases h7; rfl); rw [List.take_add_one, hrj, List.all_append, hja]; simp [h8]⟩ ⟨rfl, rfl, rfl, rfl, rfl, rfl, trivial⟩ (Ent.take (by repeat' first | exact Takes.nil _ | exact TakeP.here _ | apply TakeP.there | apply Takes.cons))
            ·
              refine Cod.exit (Ext.seqX (Ext.stopX (Ext.hit ?_)))
              refine Ext.block ?_
              refine Ext.seq ?_
              refine Cod.region ?_
              rw [List.take_of_length_le (by omega)] at hja
              refine Ops.st (.move rfl) rfl rfl rfl ?_
              refine Ops.st (.add rfl rfl (by first | exact IntWalk.i64_in _ (by omega) | rfl)) rfl rfl rfl ?_
              refine Ops.st (.assign rfl) rfl rfl rfl ?_
              refine Ops.nil ?_
              exact Ext.back (i + 1) (by omega) ⟨by omega, by rw [hf1, hF, hja, Bool.true_and]⟩ ⟨rfl, rfl, rfl, trivial⟩ (Ent.nil _)
    ·
      refine Cod.exit (Ext.seqX (Ext.stopX (Ext.hit ?_)))
      refine Ext.seq ?_
      refine Cod.seq ?_
      refine Cod.region ?_
      obtain rfl : i = fs.length := by omega
      rw [List.drop_length, hln, List.drop_length, fitR] at hf1
      refine Ops.st (.assign rfl) rfl rfl rfl ?_
      refine Ops.nil ?_
      refine Ext.seq ?_
      exact Cod.ret (Ext.ret rfl rfl ⟨by rw [hf1], rfl⟩)
theorem fits_any : ∀ (q d : Nat), d + q = 5 → ∀ {F : Fr} {lv vv : Value} {cs ws : List Value} {fs : List Fld} {vs : List Val} {m : Nat}, SlR F.hf lv 4 fs.length cs → FldsR F.hf fs cs → SlR F.hf vv 3 vs.length ws → ValsR F.hf vs ws → mostR d fs = some m →
      Spec Try.prog F 27 [lv, vv] [] (fun u hs' => u = .bool (fitR fs vs) ∧ hs' = [])
  | 0, d, h, _, _, _, _, _, _, _, _, hr, hc, hs, hw, hm => fits_step (fun h4 => absurd h4 (by omega)) hr hc hs hw hm
  | q + 1, d, h, _, _, _, _, _, _, _, _, hr, hc, hs, hw, hm => fits_step (fun _ {F lv vv cs ws fs vs m} => fits_any q (d + 1) (by omega)) hr hc hs hw hm
end Go.Proofs.Ytacgngfjanlfnaa
