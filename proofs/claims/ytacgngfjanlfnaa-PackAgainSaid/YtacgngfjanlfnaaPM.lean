/- Same: are two records the same. No condition. -/
import Derived.Test.YtacgngfjanlfnaaPL
namespace Go.Proofs.Ytacgngfjanlfnaa
open Go

theorem eq_cons {α : Type} {a b : List α} {i : Nat} {x y : α} (hx : a[i]? = some x) (hy : b[i]? = some y) (h : a = b ↔ a.drop i = b.drop i) : a = b ↔ x = y ∧ a.drop (i + 1) = b.drop (i + 1) := by
  rw [h, drop_get hx, drop_get hy, List.cons.injEq]

theorem same_step {N : Nat} (ih : ∀ {F : Fr} {av bv : Value} {ws us : List Value} {vs vs2 : List Val}, wtR vs < N → SlR F.hf av 3 vs.length ws → ValsR F.hf vs ws → SlR F.hf bv 3 vs2.length us → ValsR F.hf vs2 us →
      Spec Try.prog F 15 [av, bv] [] (fun u hs' => (∃ b, u = .bool b ∧ (b = true ↔ vs = vs2)) ∧ hs' = []))
    {F : Fr} {av bv : Value} {ws us : List Value} {vs vs2 : List Val} (hN : wtR vs < N + 1) (hs : SlR F.hf av 3 vs.length ws) (hw : ValsR F.hf vs ws) (hs2 : SlR F.hf bv 3 vs2.length us) (hw2 : ValsR F.hf vs2 us) :
    Spec Try.prog F 15 [av, bv] [] (fun u hs' => (∃ b, u = .bool b ∧ (b = true ↔ vs = vs2)) ∧ hs' = []) := by
  have hvl := hs.small
  refine Spec.body Try.func15 rfl Try.ntmps15 rfl ?_
  refine Cod.seq ?_
  refine Cod.region ?_
  refine Ops.st (.assign rfl) rfl rfl rfl ?_
  refine Ops.nil ?_
  refine Ext.seq ?_
  refine Cod.seq ?_
  refine Cod.seq ?_
  refine Cod.region ?_
  refine Ops.st (.move rfl) rfl rfl rfl ?_
  refine Ops.st (.len rfl (Rd.ro hs) Try.runUnderlying23) rfl rfl rfl ?_
  refine Ops.st (.move rfl) rfl rfl rfl ?_
  refine Ops.st (.len rfl (Rd.ro hs2) Try.runUnderlying23) rfl rfl rfl ?_
  refine Ops.st (.neq rfl rfl) rfl rfl rfl ?_
  refine Ops.nil ?_
  refine Ext.seq ?_
  refine Cod.condD rfl (fun h0 => ?_) (fun h0 => ?_)
  ·
    refine Cod.seq ?_
    refine Cod.region ?_
    refine Ops.st (.assign rfl) rfl rfl rfl ?_
    refine Ops.nil ?_
    refine Ext.seq ?_
    exact Cod.ret (Ext.seqR (Ext.ret rfl rfl ⟨⟨_, rfl, by constructor; intro h; cases h; intro h; exact absurd (congrArg List.length h) (by omega)⟩, rfl⟩))
  ·
    refine Cod.skip ?_
    refine Ext.seq ?_
    refine Cod.seq ?_
    refine Cod.seq ?_
    refine Cod.region ?_
    have hln : vs.length = vs2.length := by omega
    refine Ops.st (.assign rfl) rfl rfl rfl ?_
    refine Ops.nil ?_
    refine Ext.seq ?_
    refine Cod.block ?_
    refine Cod.loop (fun i : Nat => ⟨i ≤ vs.length ∧ (vs = vs2 ↔ vs.drop i = vs2.drop i), [(0, av), (1, bv), (5, .int .i64 i)], []⟩) (fun i => vs.length - i) 0 ⟨Nat.zero_le _, Iff.rfl⟩ ⟨rfl, rfl, rfl, trivial⟩ (Ent.nil _) ?_
    rintro i ⟨hi, hq⟩
    dsimp only
    refine Cod.seq ?_
    refine Cod.seq ?_
    refine Cod.region ?_
    refine Ops.st (.move rfl) rfl rfl rfl ?_
    refine Ops.st (.move rfl) rfl rfl rfl ?_
    refine Ops.st (.len rfl (Rd.ro hs) Try.runUnderlying23) rfl rfl rfl ?_
    refine Ops.st (.lss rfl rfl) rfl rfl rfl ?_
    refine Ops.nil ?_
    refine Ext.seq ?_
    refine Cod.condD rfl (fun h1 => ?_) (fun h1 => ?_)
    ·
      refine Cod.skip ?_
      refine Ext.seq ?_
      refine Cod.seq ?_
      refine Cod.block ?_
      refine Cod.seq ?_
      refine Cod.seq ?_
      obtain ⟨n, b, l, hv⟩ : ∃ n b l, vs[i]? = some (.mk n b l) := by rcases he : vs[i]'(by omega) with ⟨n, b, l⟩; exact ⟨n, b, l, by rw [List.getElem?_eq_getElem (by omega), he]⟩
      obtain ⟨n2, b2, l2, hv2⟩ : ∃ n b l, vs2[i]? = some (.mk n b l) := by rcases he : vs2[i]'(by omega) with ⟨n, b, l⟩; exact ⟨n, b, l, by rw [List.getElem?_eq_getElem (by omega), he]⟩
      obtain ⟨xv, yv, rows, hvrow, hxr, hyr, hrs⟩ := hw.get hv
      obtain ⟨xv2, yv2, rows2, hvrow2, hxr2, hyr2, hrs2⟩ := hw2.get hv2
      have hll := hyr.small
      have hwt := wtR_get hv
      have hwd := wtR_drop vs i
      replace hq := eq_cons hv hv2 hq
      refine Cod.regionQ mixed (by kernel_rfl) ?_
      refine Qs.st (.move rfl) rfl rfl rfl ?_
      refine Qs.st (.move rfl) rfl rfl rfl ?_
      refine Qs.st (.indexAddr (j := i) (off := i * 3) rfl rfl (Rd.ro hs) Try.runUnderlying23 Try.sizeOf40 rfl (by omega) rfl) rfl rfl rfl ?_
      refine Qs.st (.fieldAddr_elem (j := i * 3 + 0) rfl (Rd.ro hs) fa40_0 (by omega) rfl) rfl rfl rfl ?_
      refine Qs.st (.load_elem rfl (Rd.ro hs) Try.isAgg35 (row_at hvrow 0 _ rfl)) rfl rfl rfl ?_
      refine Qs.st (.move rfl) rfl rfl rfl ?_
      refine Qs.st (.move rfl) rfl rfl rfl ?_
      refine Qs.st (.indexAddr (j := i) (off := i * 3) rfl rfl (Rd.ro hs2) Try.runUnderlying23 Try.sizeOf40 rfl (by omega) rfl) rfl rfl rfl ?_
      refine Qs.st (.fieldAddr_elem (j := i * 3 + 0) rfl (Rd.ro hs2) fa40_0 (by omega) rfl) rfl rfl rfl ?_
      refine Qs.st (.load_elem rfl (Rd.ro hs2) Try.isAgg35 (row_at hvrow2 0 _ rfl)) rfl rfl rfl ?_
      refine Qs.st (.neqW64 rfl rfl) rfl rfl rfl ?_
      refine Qs.st (.move rfl) rfl rfl rfl ?_
      refine Qs.splitD (t := 30) rfl (fun e1 => ?_) (fun e1 => ?_)
      ·
        refine Qs.skipG rfl rfl rfl (decide_eq_true e1) rfl rfl ?_
        refine Qs.skipG rfl rfl rfl (decide_eq_true e1) rfl rfl ?_
        refine Qs.skipG rfl rfl rfl (decide_eq_true e1) rfl rfl ?_
        refine Qs.skipG rfl rfl rfl (decide_eq_true e1) rfl rfl ?_
        refine Qs.skipG rfl rfl rfl (decide_eq_true e1) rfl rfl ?_
        refine Qs.skipG rfl rfl rfl (decide_eq_true e1) rfl rfl ?_
        refine Qs.skipG rfl rfl rfl (decide_eq_true e1) rfl rfl ?_
        refine Qs.skipG rfl rfl rfl (decide_eq_true e1) rfl rfl ?_
        refine Qs.skipG rfl rfl rfl (decide_eq_true e1) rfl rfl ?_
        refine Qs.skipG rfl rfl rfl (decide_eq_true e1) rfl rfl ?_
        refine Qs.skipG rfl rfl rfl (decide_eq_true e1) rfl rfl ?_
        refine Qs.skipG rfl rfl rfl (decide_eq_true e1) rfl rfl ?_
        refine Qs.skipG rfl rfl rfl (decide_eq_true e1) rfl rfl ?_
        refine Qs.st (.pickT rfl (decide_eq_true e1) rfl) rfl rfl rfl ?_
        refine Qs.st (.move rfl) rfl rfl rfl ?_
        refine Qs.skipG rfl rfl rfl rfl rfl rfl ?_
        refine Qs.skipG rfl rfl rfl rfl rfl rfl ?_
        refine Qs.skipG rfl rfl rfl rfl rfl rfl ?_
        refine Qs.skipG rfl rfl rfl rfl rfl rfl ?_
        refine Qs.skipG rfl rfl rfl rfl rfl rfl ?_
        refine Qs.skipG rfl rfl rfl rfl rfl rfl ?_
        refine Qs.skipG rfl rfl rfl rfl rfl rfl ?_
        refine Qs.skipG rfl rfl rfl rfl rfl rfl ?_
        refine Qs.skipG rfl rfl rfl rfl rfl rfl ?_
        refine Qs.skipG rfl rfl rfl rfl rfl rfl ?_
        refine Qs.skipG rfl rfl rfl rfl rfl rfl ?_
        refine Qs.skipG rfl rfl rfl rfl rfl rfl ?_
        refine Qs.skipG rfl rfl rfl rfl rfl rfl ?_
        refine Qs.st (.pickT rfl rfl rfl) rfl rfl rfl ?_
        refine Qs.nil ?_
        refine Ext.seq ?_
        refine Cod.condT rfl (by simp) ?_
        refine Cod.seq ?_
        refine Cod.region ?_
        refine Ops.st (.assign rfl) rfl rfl rfl ?_
        refine Ops.nil ?_
        refine Ext.seq ?_
        exact Cod.ret (Ext.seqR (Ext.blockR (Ext.seqR (Ext.stopR (Ext.blockR (Ext.seqR (Ext.ret rfl rfl ⟨⟨_, rfl, by rw [hq, Val.mk.injEq]; constructor; intro h; cases h; intro h; exact absurd h.1.1 e1⟩, rfl⟩)))))))
      ·
        refine Qs.stG rfl rfl rfl (decide_eq_false e1) (.move rfl) rfl rfl ?_
        refine Qs.stG rfl rfl rfl (decide_eq_false e1) (.move rfl) rfl rfl ?_
        refine Qs.stG rfl rfl rfl (decide_eq_false e1) (.indexAddr (j := i) (off := i * 3) rfl rfl (Rd.ro hs) Try.runUnderlying23 Try.sizeOf40 rfl (by omega) rfl) rfl rfl ?_
        refine Qs.stG rfl rfl rfl (decide_eq_false e1) (.fieldAddr_elem (j := i * 3 + 1) rfl (Rd.ro hs) fa40_1 (by omega) rfl) rfl rfl ?_
        refine Qs.stG rfl rfl rfl (decide_eq_false e1) (.load_elem rfl (Rd.ro hs) Try.isAgg26 (row_at hvrow 1 _ rfl)) rfl rfl ?_
        refine Qs.stG rfl rfl rfl (decide_eq_false e1) (.toStr rfl (Rd.ro hxr) Try.underlying26 Try.underlying5 Try.underlying9) rfl rfl ?_
        refine Qs.stG rfl rfl rfl (decide_eq_false e1) (.move rfl) rfl rfl ?_
        refine Qs.stG rfl rfl rfl (decide_eq_false e1) (.move rfl) rfl rfl ?_
        refine Qs.stG rfl rfl rfl (decide_eq_false e1) (.indexAddr (j := i) (off := i * 3) rfl rfl (Rd.ro hs2) Try.runUnderlying23 Try.sizeOf40 rfl (by omega) rfl) rfl rfl ?_
        refine Qs.stG rfl rfl rfl (decide_eq_false e1) (.fieldAddr_elem (j := i * 3 + 1) rfl (Rd.ro hs2) fa40_1 (by omega) rfl) rfl rfl ?_
        refine Qs.stG rfl rfl rfl (decide_eq_false e1) (.load_elem rfl (Rd.ro hs2) Try.isAgg26 (row_at hvrow2 1 _ rfl)) rfl rfl ?_
        refine Qs.stG rfl rfl rfl (decide_eq_false e1) (.toStr rfl (Rd.ro hxr2) Try.underlying26 Try.underlying5 Try.underlying9) rfl rfl ?_
        refine Qs.stG rfl rfl rfl (decide_eq_false e1) (.neStr rfl rfl) rfl rfl ?_
        refine Qs.st (.pickF rfl (decide_eq_false e1) rfl) rfl rfl rfl ?_
        refine Qs.st (.move rfl) rfl rfl rfl ?_
        refine Qs.splitB (t := 45) rfl (fun e2 => ?_) (fun e2 => ?_)
        ·
          refine Qs.skipG rfl rfl rfl e2 rfl rfl ?_
          refine Qs.skipG rfl rfl rfl e2 rfl rfl ?_
          refine Qs.skipG rfl rfl rfl e2 rfl rfl ?_
          refine Qs.skipG rfl rfl rfl e2 rfl rfl ?_
          refine Qs.skipG rfl rfl rfl e2 rfl rfl ?_
          refine Qs.skipG rfl rfl rfl e2 rfl rfl ?_
          refine Qs.skipG rfl rfl rfl e2 rfl rfl ?_
          refine Qs.skipG rfl rfl rfl e2 rfl rfl ?_
          refine Qs.skipG rfl rfl rfl e2 rfl rfl ?_
          refine Qs.skipG rfl rfl rfl e2 rfl rfl ?_
          refine Qs.skipG rfl rfl rfl e2 rfl rfl ?_
          refine Qs.skipG rfl rfl rfl e2 rfl rfl ?_
          refine Qs.skipG rfl rfl rfl e2 rfl rfl ?_
          refine Qs.st (.pickT rfl e2 rfl) rfl rfl rfl ?_
          refine Qs.nil ?_
          refine Ext.seq ?_
          refine Cod.condT rfl (by simp) ?_
          refine Cod.seq ?_
          refine Cod.region ?_
          refine Ops.st (.assign rfl) rfl rfl rfl ?_
          refine Ops.nil ?_
          refine Ext.seq ?_
          exact Cod.ret (Ext.seqR (Ext.blockR (Ext.seqR (Ext.stopR (Ext.blockR (Ext.seqR (Ext.ret rfl rfl ⟨⟨_, rfl, by rw [hq, Val.mk.injEq]; constructor; intro h; cases h; intro h; rw [decide_eq_true h.1.2.1] at e2; cases e2⟩, rfl⟩)))))))
        ·
          refine Qs.stG rfl rfl rfl e2 (.move rfl) rfl rfl ?_
          refine Qs.stG rfl rfl rfl e2 (.move rfl) rfl rfl ?_
          refine Qs.stG rfl rfl rfl e2 (.indexAddr (j := i) (off := i * 3) rfl rfl (Rd.ro hs) Try.runUnderlying23 Try.sizeOf40 rfl (by omega) rfl) rfl rfl ?_
          refine Qs.stG rfl rfl rfl e2 (.fieldAddr_elem (j := i * 3 + 2) rfl (Rd.ro hs) fa40_2 (by omega) rfl) rfl rfl ?_
          refine Qs.stG rfl rfl rfl e2 (.load_elem rfl (Rd.ro hs) Try.isAgg38 (row_at hvrow 2 _ rfl)) rfl rfl ?_
          refine Qs.stG rfl rfl rfl e2 (.len rfl (Rd.ro hyr) Try.runUnderlying38) rfl rfl ?_
          refine Qs.stG rfl rfl rfl e2 (.move rfl) rfl rfl ?_
          refine Qs.stG rfl rfl rfl e2 (.move rfl) rfl rfl ?_
          refine Qs.stG rfl rfl rfl e2 (.indexAddr (j := i) (off := i * 3) rfl rfl (Rd.ro hs2) Try.runUnderlying23 Try.sizeOf40 rfl (by omega) rfl) rfl rfl ?_
          refine Qs.stG rfl rfl rfl e2 (.fieldAddr_elem (j := i * 3 + 2) rfl (Rd.ro hs2) fa40_2 (by omega) rfl) rfl rfl ?_
          refine Qs.stG rfl rfl rfl e2 (.load_elem rfl (Rd.ro hs2) Try.isAgg38 (row_at hvrow2 2 _ rfl)) rfl rfl ?_
          refine Qs.stG rfl rfl rfl e2 (.len rfl (Rd.ro hyr2) Try.runUnderlying38) rfl rfl ?_
          refine Qs.stG rfl rfl rfl e2 (.neq rfl rfl) rfl rfl ?_
          refine Qs.st (.pickF rfl e2 rfl) rfl rfl rfl ?_
          refine Qs.nil ?_
          refine Ext.seq ?_
          refine Cod.condD rfl (fun e3 => ?_) (fun e3 => ?_)
          ·
            refine Cod.seq ?_
            refine Cod.region ?_
            refine Ops.st (.assign rfl) rfl rfl rfl ?_
            refine Ops.nil ?_
            refine Ext.seq ?_
            exact Cod.ret (Ext.seqR (Ext.blockR (Ext.seqR (Ext.stopR (Ext.blockR (Ext.seqR (Ext.ret rfl rfl ⟨⟨_, rfl, by rw [hq, Val.mk.injEq]; constructor; intro h; cases h; intro h; exact absurd (congrArg List.length h.1.2.2) (by omega)⟩, rfl⟩)))))))
          ·
            refine Cod.skip ?_
            refine Ext.seq ?_
            refine Cod.seq ?_
            refine Cod.region ?_
            have e4 : n = n2 := Decidable.of_not_not e1
            have e5 : b = b2 := by simpa using e2
            have hll2 : l.length = l2.length := by omega
            refine Ops.st (.assign rfl) rfl rfl rfl ?_
            refine Ops.nil ?_
            refine Ext.seq ?_
            refine Cod.block ?_
            refine Cod.loop (fun j : Nat => ⟨j ≤ l.length ∧ (l = l2 ↔ l.drop j = l2.drop j), [(0, av), (1, bv), (5, .int .i64 i), (6, .int .i64 j)], []⟩) (fun j => l.length - j) 0 ⟨Nat.zero_le _, Iff.rfl⟩ ⟨rfl, rfl, rfl, rfl, trivial⟩ (Ent.nil _) ?_
            rintro j ⟨hj, hjq⟩
            dsimp only
            refine Cod.seq ?_
            refine Cod.seq ?_
            refine Cod.region ?_
            refine Ops.st (.move rfl) rfl rfl rfl ?_
            refine Ops.st (.move rfl) rfl rfl rfl ?_
            refine Ops.st (.move rfl) rfl rfl rfl ?_
            refine Ops.st (.indexAddr (j := i) (off := i * 3) rfl rfl (Rd.ro hs) Try.runUnderlying23 Try.sizeOf40 rfl (by omega) rfl) rfl rfl rfl ?_
            refine Ops.st (.fieldAddr_elem (j := i * 3 + 2) rfl (Rd.ro hs) fa40_2 (by omega) rfl) rfl rfl rfl ?_
            refine Ops.st (.load_elem rfl (Rd.ro hs) Try.isAgg38 (row_at hvrow 2 _ rfl)) rfl rfl rfl ?_
            refine Ops.st (.len rfl (Rd.ro hyr) Try.runUnderlying38) rfl rfl rfl ?_
            refine Ops.st (.lss rfl rfl) rfl rfl rfl ?_
            refine Ops.nil ?_
            refine Ext.seq ?_
            refine Cod.condD rfl (fun h5 => ?_) (fun h5 => ?_)
            ·
              refine Cod.skip ?_
              refine Ext.seq ?_
              refine Cod.seq ?_
              refine Cod.block ?_
              refine Cod.seq ?_
              obtain ⟨r, hrj⟩ : ∃ r, l[j]? = some r := ⟨l[j]'(by omega), List.getElem?_eq_getElem (by omega)⟩
              obtain ⟨r2, hrj2⟩ : ∃ r, l2[j]? = some r := ⟨l2[j]'(by omega), List.getElem?_eq_getElem (by omega)⟩
              obtain ⟨rv, rcs, hrv, hrr, hrq⟩ := hrs.get hrj
              obtain ⟨rv2, rcs2, hrv2, hrr2, hrq2⟩ := hrs2.get hrj2
              have hq1 := wtQ_mem hrj
              have hq2 := wtQ_drop l j
              replace hjq := eq_cons hrj hrj2 hjq
              refine Cod.regionT 16 mixed (by kernel_rfl) ?_
              refine Ss.st (.move rfl) rfl rfl rfl ?_
              refine Ss.st (.move rfl) rfl rfl rfl ?_
              refine Ss.st (.indexAddr (j := i) (off := i * 3) rfl rfl (Rd.ro hs) Try.runUnderlying23 Try.sizeOf40 rfl (by omega) rfl) rfl rfl rfl ?_
              refine Ss.st (.fieldAddr_elem (j := i * 3 + 2) rfl (Rd.ro hs) fa40_2 (by omega) rfl) rfl rfl rfl ?_
              refine Ss.st (.load_elem rfl (Rd.ro hs) Try.isAgg38 (row_at hvrow 2 _ rfl)) rfl rfl rfl ?_
              refine Ss.st (.move rfl) rfl rfl rfl ?_
              refine Ss.st (.indexAddr (j := j) (off := j) rfl rfl (Rd.ro hyr) Try.runUnderlying38 Try.sizeOf23 rfl (by omega) (by omega)) rfl rfl rfl ?_
              refine Ss.st (.load_elem rfl (Rd.ro hyr) Try.isAgg23 hrv) rfl rfl rfl ?_
              refine Ss.st (.move rfl) rfl rfl rfl ?_
              refine Ss.st (.move rfl) rfl rfl rfl ?_
              refine Ss.st (.indexAddr (j := i) (off := i * 3) rfl rfl (Rd.ro hs2) Try.runUnderlying23 Try.sizeOf40 rfl (by omega) rfl) rfl rfl rfl ?_
              refine Ss.st (.fieldAddr_elem (j := i * 3 + 2) rfl (Rd.ro hs2) fa40_2 (by omega) rfl) rfl rfl rfl ?_
              refine Ss.st (.load_elem rfl (Rd.ro hs2) Try.isAgg38 (row_at hvrow2 2 _ rfl)) rfl rfl rfl ?_
              refine Ss.st (.move rfl) rfl rfl rfl ?_
              refine Ss.st (.indexAddr (j := j) (off := j) rfl rfl (Rd.ro hyr2) Try.runUnderlying38 Try.sizeOf23 rfl (by omega) (by omega)) rfl rfl rfl ?_
              refine Ss.st (.load_elem rfl (Rd.ro hyr2) Try.isAgg23 hrv2) rfl rfl rfl ?_
              refine Ss.nil ?_
              refine Ops.call ⟨Try.call15⟩ rfl rfl rfl (by repeat' first | exact Takes.nil _ | exact TakeP.here _ | apply TakeP.there | apply Takes.cons) (fun F' hF => ih (by omega) (hrr.mono hF.hf) (hrq.mono hF.hf r) (hrr2.mono hF.hf) (hrq2.mono hF.hf r2)) rfl rfl rfl ?_
              rintro _ _ ⟨⟨ok, rfl, hok⟩, rfl⟩
              refine Ops.st (.assign rfl) rfl rfl rfl ?_
              refine Ops.nil ?_
              refine Ext.seq ?_
              refine Cod.seq ?_
              refine Cod.region ?_
              refine Ops.st (.move rfl) rfl rfl rfl ?_
              refine Ops.st (.notB rfl) rfl rfl rfl ?_
              refine Ops.nil ?_
              refine Ext.seq ?_
              refine Cod.cond rfl (fun h6 => ?_) (fun h6 => ?_)
              ·
                refine Cod.seq ?_
                refine Cod.region ?_
                refine Ops.st (.assign rfl) rfl rfl rfl ?_
                refine Ops.nil ?_
                refine Ext.seq ?_
                exact Cod.ret (Ext.blockR (Ext.seqR (Ext.stopR (Ext.blockR (Ext.blockR (Ext.seqR (Ext.stopR (Ext.blockR (Ext.seqR (Ext.ret rfl rfl ⟨⟨_, rfl, by rw [hq, Val.mk.injEq, hjq]; constructor; intro h; cases h; intro h; have := hok.2 h.1.2.2.1; rw [this] at h6; cases h6⟩, rfl⟩))))))))))
              ·
                refine Cod.skip ?_
                refine Ext.block ?_
                refine Ext.seq ?_
                refine Cod.region ?_
                refine Ops.st (.move rfl) rfl rfl rfl ?_
                refine Ops.st (.add rfl rfl (by first | exact IntWalk.i64_in _ (by omega) | rfl)) rfl rfl rfl ?_
                refine Ops.st (.assign rfl) rfl rfl rfl ?_
                refine Ops.nil ?_
                exact Ext.back (j + 1) (by omega) ⟨by omega, by rw [hjq]; have h7 : ok = true := (by cases ok; cases h6; rfl); exact ⟨fun h => h.2, fun h => ⟨hok.1 h7, h⟩⟩⟩ ⟨rfl, rfl, rfl, rfl, trivial⟩ (Ent.nil _)
            ·
              refine Cod.exit (Ext.seqX (Ext.stopX (Ext.hit ?_)))
              refine Ext.block ?_
              refine Ext.seq ?_
              refine Cod.region ?_
              have h7 : l = l2 := by rw [hjq, List.drop_of_length_le (by omega), List.drop_of_length_le (by omega)]
              refine Ops.st (.move rfl) rfl rfl rfl ?_
              refine Ops.st (.add rfl rfl (by first | exact IntWalk.i64_in _ (by omega) | rfl)) rfl rfl rfl ?_
              refine Ops.st (.assign rfl) rfl rfl rfl ?_
              refine Ops.nil ?_
              exact Ext.back (i + 1) (by omega) ⟨by omega, by rw [hq, Val.mk.injEq]; exact ⟨fun h => h.2, fun h => ⟨⟨e4, e5, h7⟩, h⟩⟩⟩ ⟨rfl, rfl, rfl, trivial⟩ (Ent.nil _)
    ·
      refine Cod.exit (Ext.seqX (Ext.stopX (Ext.hit ?_)))
      refine Ext.seq ?_
      refine Cod.seq ?_
      refine Cod.region ?_
      refine Ops.st (.assign rfl) rfl rfl rfl ?_
      refine Ops.nil ?_
      refine Ext.seq ?_
      exact Cod.ret (Ext.ret rfl rfl ⟨⟨_, rfl, by rw [hq, List.drop_of_length_le (by omega), List.drop_of_length_le (by omega)]; simp⟩, rfl⟩)
theorem same_any : ∀ (N : Nat) {F : Fr} {av bv : Value} {ws us : List Value} {vs vs2 : List Val}, wtR vs < N → SlR F.hf av 3 vs.length ws → ValsR F.hf vs ws → SlR F.hf bv 3 vs2.length us → ValsR F.hf vs2 us →
      Spec Try.prog F 15 [av, bv] [] (fun u hs' => (∃ b, u = .bool b ∧ (b = true ↔ vs = vs2)) ∧ hs' = [])
  | 0, _, _, _, _, _, _, _, h, _, _, _, _ => absurd h (Nat.not_lt_zero _)
  | N + 1, _, _, _, _, _, _, _, h, hs, hw, hs2, hw2 => same_step (fun {F av bv ws us vs vs2} => same_any N) h hs hw hs2 hw2
end Go.Proofs.Ytacgngfjanlfnaa
