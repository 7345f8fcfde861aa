/- The reference's bytes of a record; Encode. No condition. -/
import Derived.Test.YtacgngfjanlfnaaPH
namespace Go.Proofs.Ytacgngfjanlfnaa
open Go

theorem flatM_le {α β : Type} {q : α → List β} {l : List α} {j : Nat} {r : α} (h : l[j]? = some r) : ((l.take j).flatMap q).length + (q r).length ≤ (l.flatMap q).length := by
  have : l.flatMap q = (l.take j).flatMap q ++ (q r ++ (l.drop (j + 1)).flatMap q) := by rw [← List.flatMap_cons, ← drop_get h, ← List.flatMap_append, List.take_append_drop]
  rw [this, List.length_append, List.length_append]
  omega
theorem take_get {α : Type} {l : List α} {i : Nat} {a : α} (h : l[i]? = some a) : l.take (i + 1) = l.take i ++ [a] := by rw [List.take_add_one, h]; rfl
theorem vec_app (v : Value) (T : TypeId) (a b : List UInt8) : vec v T 1 (a ++ b).length (u8s (a ++ b)) = vec v T 1 (a.length + b.length) (u8s a ++ u8s b) := by rw [u8s_app, List.length_append]
theorem putF1 {k : Int} {mn mx n : UInt64} {of : List Fld} {b : List UInt8} {l : List (List Val)} (hk : k = 1) (h : fitF (.mk k mn mx of) (.mk n b l) = true) : mn ≤ n ∧ putF (.mk k mn mx of) (.mk n b l) = leB (n - mn).toNat (wid (mx - mn).toNat) := by
  rw [fitE1 hk, Bool.and_eq_true, Bool.and_eq_true, inS, Bool.and_eq_true, decide_eq_true_eq] at h
  exact ⟨h.2.2.1, by rw [putF, if_pos hk, sub_nat h.2.2.1]⟩
theorem putF2 {k : Int} {mn mx n : UInt64} {of : List Fld} {b : List UInt8} {l : List (List Val)} (hk : k = 2) (hb : b.length < 18446744073709551616) (h : fitF (.mk k mn mx of) (.mk n b l) = true) : putF (.mk k mn mx of) (.mk n b l) = leB (UInt64.ofNat b.length - mn).toNat (wid (mx - mn).toNat) ++ b := by
  rw [fitE2 hk hb, Bool.and_eq_true, Bool.and_eq_true, inS, Bool.and_eq_true, decide_eq_true_eq, decide_eq_true_eq] at h
  rw [putF, if_neg (by omega), if_pos hk, sub_nat h.2.2.1, show (UInt64.ofNat b.length).toNat = b.length by rw [UInt64.toNat_ofNat']; omega]
theorem putF3 {k : Int} {mn mx n : UInt64} {of : List Fld} {b : List UInt8} {l : List (List Val)} (hk : k = 3) (hl : l.length < 18446744073709551616) (h : fitF (.mk k mn mx of) (.mk n b l) = true) : (∀ r ∈ l, fitR of r = true) ∧ putF (.mk k mn mx of) (.mk n b l) = leB (UInt64.ofNat l.length - mn).toNat (wid (mx - mn).toNat) ++ l.flatMap fun r => putR of r := by
  rw [fitE3 hk hl, Bool.and_eq_true, Bool.and_eq_true, Bool.and_eq_true, inS, Bool.and_eq_true, decide_eq_true_eq, decide_eq_true_eq] at h
  exact ⟨fun r hr => List.all_eq_true.1 h.2.2.2 r hr, by rw [putF, if_neg (by omega), if_neg (by omega), sub_nat h.2.2.1.1, show (UInt64.ofNat l.length).toNat = l.length by rw [UInt64.toNat_ofNat']; omega]⟩

theorem put_step {d : Nat} (ih : d ≤ 4 → ∀ {F : Fr} {lv vv : Value} {cs ws : List Value} {fs : List Fld} {vs : List Val} {m : Nat}, SlR F.hf lv 4 fs.length cs → FldsR F.hf fs cs → SlR F.hf vv 3 vs.length ws → ValsR F.hf vs ws → mostR (d + 1) fs = some m → fitR fs vs = true →
      Spec Try.prog F 28 [lv, vv] [] (fun u hs' => Sl u ∧ hs' = [vec u 5 1 (putR fs vs).length (u8s (putR fs vs))]))
    {F : Fr} {lv vv : Value} {cs ws : List Value} {fs : List Fld} {vs : List Val} {m : Nat} (hr : SlR F.hf lv 4 fs.length cs) (hc : FldsR F.hf fs cs) (hs : SlR F.hf vv 3 vs.length ws) (hw : ValsR F.hf vs ws) (hm : mostR d fs = some m) (hfit : fitR fs vs = true) :
    Spec Try.prog F 28 [lv, vv] [] (fun u hs' => Sl u ∧ hs' = [vec u 5 1 (putR fs vs).length (u8s (putR fs vs))]) := by
  have hfl := hr.small
  have hln := fitR_len hfit
  have htot : (putR fs vs).length ≤ 1048576 := Nat.le_trans (mostR_len hm hfit) (mostR_le hm)
  refine Spec.body Try.func28 rfl Try.ntmps28 rfl ?_
  refine Cod.seq ?_
  refine Cod.region ?_
  refine Ops.st (.assign rfl) rfl rfl rfl ?_
  refine Ops.nil ?_
  refine Ext.seq ?_
  refine Cod.seq ?_
  refine Cod.region ?_
  refine Ops.st (.assign rfl) rfl rfl rfl ?_
  refine Ops.nil ?_
  refine Ext.seq ?_
  refine Cod.seq ?_
  refine Cod.seq ?_
  refine Cod.region ?_
  refine Ops.st (.assign rfl) rfl rfl rfl ?_
  refine Ops.nil ?_
  refine Ext.seq ?_
  refine Cod.block ?_
  refine Cod.loop (fun g : Nat × Value × List UInt8 => ⟨g.1 ≤ fs.length ∧ Sl g.2.1 ∧ fitR (fs.drop g.1) (vs.drop g.1) = true ∧ putR fs vs = g.2.2 ++ putR (fs.drop g.1) (vs.drop g.1), [(0, lv), (1, vv), (5, g.2.1), (6, .int .i64 g.1)], [vec g.2.1 5 1 g.2.2.length (u8s g.2.2)]⟩) (fun g => fs.length - g.1) (0, .slice none 0 0, []) ⟨Nat.zero_le _, Sl.nil, hfit, rfl⟩ ⟨rfl, rfl, rfl, rfl, trivial⟩ (Ent.vecNil.trans (Ent.take (by repeat' first | exact Takes.nil _ | exact TakeP.here _ | apply TakeP.there | apply Takes.cons))) ?_
  rintro ⟨i, ou, o⟩ ⟨hi, hou, hf1, hp1⟩
  dsimp only
  refine Cod.seq ?_
  refine Cod.seq ?_
  refine Cod.region ?_
  dsimp only at hi hou hf1 hp1
  refine Ops.st (.move rfl) rfl rfl rfl ?_
  refine Ops.st (.move rfl) rfl rfl rfl ?_
  refine Ops.st (.len rfl (Rd.ro hr) Try.runUnderlying22) rfl rfl rfl ?_
  refine Ops.st (.lss rfl rfl) rfl rfl rfl ?_
  refine Ops.nil ?_
  refine Ext.seq ?_
  refine Cod.condD rfl (fun h4 => ?_) (fun h4 => ?_)
  ·
    refine Cod.skip ?_
    refine Ext.seq ?_
    refine Cod.seq ?_
    refine Cod.block ?_
    refine Cod.seq ?_
    refine Cod.region ?_
    obtain ⟨k, mn, mx, of, hf⟩ : ∃ k mn mx of, fs[i]? = some (.mk k mn mx of) := by rcases he : fs[i]'(by omega) with ⟨k, mn, mx, of⟩; exact ⟨k, mn, mx, of, by rw [List.getElem?_eq_getElem (by omega), he]⟩
    obtain ⟨n, b, l, hv⟩ : ∃ n b l, vs[i]? = some (.mk n b l) := by rcases he : vs[i]'(by omega) with ⟨n, b, l⟩; exact ⟨n, b, l, by rw [List.getElem?_eq_getElem (by omega), he]⟩
    obtain ⟨ov, ocs, hrow, hor, hoc⟩ := hc.get hf
    obtain ⟨xv, yv, rows, hvrow, hxr, hyr, hrs⟩ := hw.get hv
    obtain ⟨hk, hd4, hsub⟩ := mostR_sub hm hf
    have hov := hor.sl
    have hxv := hxr.sl
    have hyv := hyr.sl
    have hbl := hxr.small
    have hll := hyr.small
    have hwl := wid_le (mx - mn).toNat
    rw [drop_get hf, drop_get hv, fitR, Bool.and_eq_true] at hf1
    rw [drop_get hf, drop_get hv, putR] at hp1
    have hsum : o.length + (putF (.mk k mn mx of) (.mk n b l)).length ≤ 1048576 := by rw [hp1, List.length_append, List.length_append] at htot; omega
    refine Ops.st (.move rfl) rfl rfl rfl ?_
    refine Ops.st (.move rfl) rfl rfl rfl ?_
    refine Ops.st (.indexAddr (j := i) (off := i * 4) rfl rfl (Rd.ro hr) Try.runUnderlying22 Try.sizeOf37 rfl (by omega) rfl) rfl rfl rfl ?_
    refine Ops.st (.load_elemA (ds := [.int .i64 k, W64 mn, W64 mx, ov]) rfl (Rd.ro hr) Try.isAgg37 Try.sizeOf37 (by omega) rfl (row_at hrow)) rfl rfl rfl ?_
    refine Ops.ef (.alloc Try.zeroValue37 rfl) rfl rfl rfl ?_
    rintro fb _ ⟨fb, rfl, rfl⟩
    refine Ops.ef10 (.storeA (vs := [.int .i64 k, W64 mn, W64 mx, ov]) (cs' := [.int .i64 k, W64 mn, W64 mx, ov]) rfl rfl (by repeat first | exact TakeP.here _ | apply TakeP.there) Try.sizeOf37 rfl (by decide) (by exact One.cons rfl (One.cons rfl (One.cons rfl (One.cons hov.one One.nil)))) rfl) rfl rfl ?_
    refine Ops.nil ?_
    refine Ext.seq ?_
    refine Cod.seq ?_
    refine Cod.region ?_
    refine Ops.st (.fieldAddr rfl fa37_2) rfl rfl rfl ?_
    refine Ops.st (.loadP rfl (by repeat first | exact TakeP.here _ | apply TakeP.there) Try.isAgg35 rfl) rfl rfl rfl ?_
    refine Ops.st (.fieldAddr rfl fa37_1) rfl rfl rfl ?_
    refine Ops.st (.loadP rfl (by repeat first | exact TakeP.here _ | apply TakeP.there) Try.isAgg35 rfl) rfl rfl rfl ?_
    refine Ops.st (.subW64 rfl rfl) rfl rfl rfl ?_
    refine Ops.call ⟨Try.call34⟩ rfl rfl rfl (by repeat' first | exact Takes.nil _ | exact TakeP.here _ | apply TakeP.there | apply Takes.cons) (fun F' hF => refWidth_any) rfl rfl rfl ?_
    rintro _ _ ⟨rfl, rfl⟩
    refine Ops.st (.assign rfl) rfl rfl rfl ?_
    refine Ops.nil ?_
    refine Ext.seq ?_
    refine Cod.seq ?_
    refine Cod.region ?_
    refine Ops.st (.fieldAddr rfl fa37_0) rfl rfl rfl ?_
    refine Ops.st (.loadP rfl (by repeat first | exact TakeP.here _ | apply TakeP.there) Try.isAgg3 rfl) rfl rfl rfl ?_
    refine Ops.nil ?_
    refine Ext.seq ?_
    refine Cod.block ?_
    refine Cod.seq ?_
    refine Cod.region ?_
    refine Ops.st (.eql rfl rfl) rfl rfl rfl ?_
    refine Ops.st (.assign rfl) rfl rfl rfl ?_
    refine Ops.nil ?_
    refine Ext.seq ?_
    refine Cod.condD rfl (fun k1 => ?_) (fun k1 => ?_)
    ·
      obtain ⟨hmn, hpf⟩ := putF1 k1 hf1.1
      rw [hpf] at hsum
      refine Cod.regionA mixed (by kernel_rfl) (listed := #[false, false, false, false, false, false, false, false, false, false, false, false, false]) ?_
      refine As.take 0 rfl (by kernel_rfl) (by kernel_rfl) (by kernel_rfl) rfl rfl rfl (fun F hs => .move rfl) (by kernel_rfl) (listed' := #[true, false, false, false, false, false, false, false, false, false, false, false, false]) ?_
      refine As.take 1 rfl (by kernel_rfl) (by kernel_rfl) (by kernel_rfl) rfl rfl rfl (fun F hs => .move rfl) (by kernel_rfl) (listed' := #[true, true, false, false, false, false, false, false, false, false, false, false, false]) ?_
      refine As.take 2 rfl (by kernel_rfl) (by kernel_rfl) (by kernel_rfl) rfl rfl rfl (fun F hs => .move rfl) (by kernel_rfl) (listed' := #[true, true, true, false, false, false, false, false, false, false, false, false, false]) ?_
      refine As.take 6 rfl (by kernel_rfl) (by kernel_rfl) (by kernel_rfl) rfl rfl rfl (fun F hs => .fieldAddr rfl fa37_1) (by kernel_rfl) (listed' := #[true, true, true, false, false, false, true, false, false, false, false, false, false]) ?_
      refine As.take 9 rfl (by kernel_rfl) (by kernel_rfl) (by kernel_rfl) rfl rfl rfl (fun F hs => .move rfl) (by kernel_rfl) (listed' := #[true, true, true, false, false, false, true, false, false, true, false, false, false]) ?_
      refine As.quiet [3, 4, 5, 7, 8] 5 3 rfl ?_
      refine Aq.st (i := 3) ⟨rfl, by kernel_rfl, by kernel_rfl, by kernel_rfl, by kernel_rfl, by kernel_rfl⟩ (.indexAddr (j := i) (off := i * 3) rfl rfl (Rd.ro hs) Try.runUnderlying23 Try.sizeOf40 rfl (by omega) rfl) rfl rfl rfl (by kernel_rfl) (listed' := #[true, true, true, true, false, false, true, false, false, true, false, false, false]) ?_
      refine Aq.st (i := 4) ⟨rfl, by kernel_rfl, by kernel_rfl, by kernel_rfl, by kernel_rfl, by kernel_rfl⟩ (.fieldAddr_elem (j := i * 3 + 0) rfl (Rd.ro hs) fa40_0 (by omega) rfl) rfl rfl rfl (by kernel_rfl) (listed' := #[true, true, true, true, true, false, true, false, false, true, false, false, false]) ?_
      refine Aq.st (i := 5) ⟨rfl, by kernel_rfl, by kernel_rfl, by kernel_rfl, by kernel_rfl, by kernel_rfl⟩ (.load_elem rfl (Rd.ro hs) Try.isAgg35 (row_at hvrow 0 _ rfl)) rfl rfl rfl (by kernel_rfl) (listed' := #[true, true, true, true, true, true, true, false, false, true, false, false, false]) ?_
      refine Aq.st (i := 7) ⟨rfl, by kernel_rfl, by kernel_rfl, by kernel_rfl, by kernel_rfl, by kernel_rfl⟩ (.loadP rfl (by repeat first | exact TakeP.here _ | apply TakeP.there) Try.isAgg35 rfl) rfl rfl rfl (by kernel_rfl) (listed' := #[true, true, true, true, true, true, true, true, false, true, false, false, false]) ?_
      refine Aq.st (i := 8) ⟨rfl, by kernel_rfl, by kernel_rfl, by kernel_rfl, by kernel_rfl, by kernel_rfl⟩ (.subW64 rfl rfl) rfl rfl rfl (by kernel_rfl) (listed' := #[true, true, true, true, true, true, true, true, true, true, false, false, false]) ?_
      refine Aq.done (by kernel_rfl) ?_
      refine As.one (i := 10) (by kernel_rfl) ?_
      refine Ao.call rfl ⟨Try.call35⟩ rfl rfl rfl (by repeat' first | exact Takes.nil _ | exact TakeP.here _ | apply TakeP.there | apply Takes.cons) (fun F' hF => refNumber_any hwl) rfl rfl rfl (by kernel_rfl) (listed' := #[true, true, true, true, true, true, true, true, true, true, true, false, false]) ?_
      rintro nu _ ⟨hnu, rfl⟩
      refine As.one (i := 11) (by kernel_rfl) ?_
      refine Ao.ef rfl (.append (v := ou) rfl rfl (by repeat first | exact TakeP.here _ | apply TakeP.there) (Rd.vec (v := nu) (by repeat first | exact TakeP.here _ | apply TakeP.there)) ei26 (by omega) (by simp only [maxLen]; omega)) rfl rfl rfl (by kernel_rfl) (listed' := #[true, true, true, true, true, true, true, true, true, true, true, true, false]) ?_
      rintro ou2 _ ⟨hou2, rfl⟩
      refine As.take 12 rfl (by kernel_rfl) (by kernel_rfl) (by kernel_rfl) rfl rfl rfl (fun F hs => .assign rfl) (by kernel_rfl) (listed' := #[true, true, true, true, true, true, true, true, true, true, true, true, true]) ?_
      refine As.done (by kernel_rfl) ?_
      refine Ext.block ?_
      refine Ext.block ?_
      refine Ext.seq ?_
      refine Cod.region ?_
      refine Ops.st (.move rfl) rfl rfl rfl ?_
      refine Ops.st (.add rfl rfl (by first | exact IntWalk.i64_in _ (by omega) | rfl)) rfl rfl rfl ?_
      refine Ops.st (.assign rfl) rfl rfl rfl ?_
      refine Ops.nil ?_
      exact Ext.back (i + 1, ou2, o ++ leB (n - mn).toNat (wid (mx - mn).toNat)) (by dsimp only; omega) ⟨by dsimp only; omega, hou2, hf1.2, by dsimp only; rw [hp1, hpf, List.append_assoc]⟩ ⟨rfl, rfl, rfl, rfl, trivial⟩ (by dsimp only; rw [vec_app]; exact Ent.take (by repeat' first | exact Takes.nil _ | exact TakeP.here _ | apply TakeP.there | apply Takes.cons))
    ·
      refine Cod.seq ?_
      refine Cod.region ?_
      refine Ops.st (.eql rfl rfl) rfl rfl rfl ?_
      refine Ops.st (.assign rfl) rfl rfl rfl ?_
      refine Ops.nil ?_
      refine Ext.seq ?_
      refine Cod.condD rfl (fun k2 => ?_) (fun k2 => ?_)
      ·
        refine Cod.seq ?_
        have hpf := putF2 k2 (by omega) hf1.1
        rw [hpf, List.length_append] at hsum
        refine Cod.regionA mixed (by kernel_rfl) (listed := #[false, false, false, false, false, false, false, false, false, false, false, false, false, false, false]) ?_
        refine As.take 0 rfl (by kernel_rfl) (by kernel_rfl) (by kernel_rfl) rfl rfl rfl (fun F hs => .move rfl) (by kernel_rfl) (listed' := #[true, false, false, false, false, false, false, false, false, false, false, false, false, false, false]) ?_
        refine As.take 1 rfl (by kernel_rfl) (by kernel_rfl) (by kernel_rfl) rfl rfl rfl (fun F hs => .move rfl) (by kernel_rfl) (listed' := #[true, true, false, false, false, false, false, false, false, false, false, false, false, false, false]) ?_
        refine As.take 2 rfl (by kernel_rfl) (by kernel_rfl) (by kernel_rfl) rfl rfl rfl (fun F hs => .move rfl) (by kernel_rfl) (listed' := #[true, true, true, false, false, false, false, false, false, false, false, false, false, false, false]) ?_
        refine As.take 8 rfl (by kernel_rfl) (by kernel_rfl) (by kernel_rfl) rfl rfl rfl (fun F hs => .fieldAddr rfl fa37_1) (by kernel_rfl) (listed' := #[true, true, true, false, false, false, false, false, true, false, false, false, false, false, false]) ?_
        refine As.take 11 rfl (by kernel_rfl) (by kernel_rfl) (by kernel_rfl) rfl rfl rfl (fun F hs => .move rfl) (by kernel_rfl) (listed' := #[true, true, true, false, false, false, false, false, true, false, false, true, false, false, false]) ?_
        refine As.quiet [3, 4, 5, 6, 7, 9, 10] 7 3 rfl ?_
        refine Aq.st (i := 3) ⟨rfl, by kernel_rfl, by kernel_rfl, by kernel_rfl, by kernel_rfl, by kernel_rfl⟩ (.indexAddr (j := i) (off := i * 3) rfl rfl (Rd.ro hs) Try.runUnderlying23 Try.sizeOf40 rfl (by omega) rfl) rfl rfl rfl (by kernel_rfl) (listed' := #[true, true, true, true, false, false, false, false, true, false, false, true, false, false, false]) ?_
        refine Aq.st (i := 4) ⟨rfl, by kernel_rfl, by kernel_rfl, by kernel_rfl, by kernel_rfl, by kernel_rfl⟩ (.fieldAddr_elem (j := i * 3 + 1) rfl (Rd.ro hs) fa40_1 (by omega) rfl) rfl rfl rfl (by kernel_rfl) (listed' := #[true, true, true, true, true, false, false, false, true, false, false, true, false, false, false]) ?_
        refine Aq.st (i := 5) ⟨rfl, by kernel_rfl, by kernel_rfl, by kernel_rfl, by kernel_rfl, by kernel_rfl⟩ (.load_elem rfl (Rd.ro hs) Try.isAgg26 (row_at hvrow 1 _ rfl)) rfl rfl rfl (by kernel_rfl) (listed' := #[true, true, true, true, true, true, false, false, true, false, false, true, false, false, false]) ?_
        refine Aq.st (i := 6) ⟨rfl, by kernel_rfl, by kernel_rfl, by kernel_rfl, by kernel_rfl, by kernel_rfl⟩ (.len rfl (Rd.ro hxr) Try.runUnderlying26) rfl rfl rfl (by kernel_rfl) (listed' := #[true, true, true, true, true, true, true, false, true, false, false, true, false, false, false]) ?_
        refine Aq.st (i := 7) ⟨rfl, by kernel_rfl, by kernel_rfl, by kernel_rfl, by kernel_rfl, by kernel_rfl⟩ (.convI_64 rfl rfl Try.underlying3 Try.underlying35) rfl rfl rfl (by kernel_rfl) (listed' := #[true, true, true, true, true, true, true, true, true, false, false, true, false, false, false]) ?_
        refine Aq.st (i := 9) ⟨rfl, by kernel_rfl, by kernel_rfl, by kernel_rfl, by kernel_rfl, by kernel_rfl⟩ (.loadP rfl (by repeat first | exact TakeP.here _ | apply TakeP.there) Try.isAgg35 rfl) rfl rfl rfl (by kernel_rfl) (listed' := #[true, true, true, true, true, true, true, true, true, true, false, true, false, false, false]) ?_
        refine Aq.st (i := 10) ⟨rfl, by kernel_rfl, by kernel_rfl, by kernel_rfl, by kernel_rfl, by kernel_rfl⟩ (.subW64 rfl rfl) rfl rfl rfl (by kernel_rfl) (listed' := #[true, true, true, true, true, true, true, true, true, true, true, true, false, false, false]) ?_
        refine Aq.done (by kernel_rfl) ?_
        refine As.one (i := 12) (by kernel_rfl) ?_
        refine Ao.call rfl ⟨Try.call35⟩ rfl rfl rfl (by repeat' first | exact Takes.nil _ | exact TakeP.here _ | apply TakeP.there | apply Takes.cons) (fun F' hF => refNumber_any hwl) rfl rfl rfl (by kernel_rfl) (listed' := #[true, true, true, true, true, true, true, true, true, true, true, true, true, false, false]) ?_
        rintro nu _ ⟨hnu, rfl⟩
        refine As.one (i := 13) (by kernel_rfl) ?_
        refine Ao.ef rfl (.append (v := ou) rfl rfl (by repeat first | exact TakeP.here _ | apply TakeP.there) (Rd.vec (v := nu) (by repeat first | exact TakeP.here _ | apply TakeP.there)) ei26 (by omega) (by simp only [maxLen]; omega)) rfl rfl rfl (by kernel_rfl) (listed' := #[true, true, true, true, true, true, true, true, true, true, true, true, true, true, false]) ?_
        rintro ou2 _ ⟨hou2, rfl⟩
        refine As.take 14 rfl (by kernel_rfl) (by kernel_rfl) (by kernel_rfl) rfl rfl rfl (fun F hs => .assign rfl) (by kernel_rfl) (listed' := #[true, true, true, true, true, true, true, true, true, true, true, true, true, true, true]) ?_
        refine As.done (by kernel_rfl) ?_
        refine Ext.seq ?_
        refine Cod.region ?_
        have hon : (o ++ leB (UInt64.ofNat b.length - mn).toNat (wid (mx - mn).toNat)).length = o.length + (leB (UInt64.ofNat b.length - mn).toNat (wid (mx - mn).toNat)).length := List.length_append
        rw [← vec_app]
        refine Ops.st (.move rfl) rfl rfl rfl ?_
        refine Ops.st (.move rfl) rfl rfl rfl ?_
        refine Ops.st (.move rfl) rfl rfl rfl ?_
        refine Ops.st (.indexAddr (j := i) (off := i * 3) rfl rfl (Rd.ro hs) Try.runUnderlying23 Try.sizeOf40 rfl (by omega) rfl) rfl rfl rfl ?_
        refine Ops.st (.fieldAddr_elem (j := i * 3 + 1) rfl (Rd.ro hs) fa40_1 (by omega) rfl) rfl rfl rfl ?_
        refine Ops.st (.load_elem rfl (Rd.ro hs) Try.isAgg26 (row_at hvrow 1 _ rfl)) rfl rfl rfl ?_
        refine Ops.ef (.append (v := ou2) rfl rfl (by repeat first | exact TakeP.here _ | apply TakeP.there) (Rd.ro hxr) ei26 (by omega) (by simp only [maxLen]; omega)) rfl rfl rfl ?_
        rintro ou3 _ ⟨hou3, rfl⟩
        refine Ops.st (.assign rfl) rfl rfl rfl ?_
        refine Ops.nil ?_
        refine Ext.block ?_
        refine Ext.block ?_
        refine Ext.seq ?_
        refine Cod.region ?_
        refine Ops.st (.move rfl) rfl rfl rfl ?_
        refine Ops.st (.add rfl rfl (by first | exact IntWalk.i64_in _ (by omega) | rfl)) rfl rfl rfl ?_
        refine Ops.st (.assign rfl) rfl rfl rfl ?_
        refine Ops.nil ?_
        exact Ext.back (i + 1, ou3, o ++ leB (UInt64.ofNat b.length - mn).toNat (wid (mx - mn).toNat) ++ b) (by dsimp only; omega) ⟨by dsimp only; omega, hou3, hf1.2, by dsimp only; rw [hp1, hpf, List.append_assoc, List.append_assoc, List.append_assoc]⟩ ⟨rfl, rfl, rfl, rfl, trivial⟩ (by dsimp only; rw [vec_app ou3 5 _ b]; exact Ent.take (by repeat' first | exact Takes.nil _ | exact TakeP.here _ | apply TakeP.there | apply Takes.cons))
      ·
        refine Cod.seq ?_
        refine Cod.region ?_
        refine Ops.st (.eql rfl rfl) rfl rfl rfl ?_
        refine Ops.st (.assign rfl) rfl rfl rfl ?_
        refine Ops.nil ?_
        refine Ext.seq ?_
        refine Cod.condT rfl (decide_eq_true (by omega)) ?_
        refine Cod.seq ?_
        obtain ⟨hall, hpf⟩ := putF3 (by omega) (by omega) hf1.1
        rw [hpf, List.length_append] at hsum
        refine Cod.regionA mixed (by kernel_rfl) (listed := #[false, false, false, false, false, false, false, false, false, false, false, false, false, false, false]) ?_
        refine As.take 0 rfl (by kernel_rfl) (by kernel_rfl) (by kernel_rfl) rfl rfl rfl (fun F hs => .move rfl) (by kernel_rfl) (listed' := #[true, false, false, false, false, false, false, false, false, false, false, false, false, false, false]) ?_
        refine As.take 1 rfl (by kernel_rfl) (by kernel_rfl) (by kernel_rfl) rfl rfl rfl (fun F hs => .move rfl) (by kernel_rfl) (listed' := #[true, true, false, false, false, false, false, false, false, false, false, false, false, false, false]) ?_
        refine As.take 2 rfl (by kernel_rfl) (by kernel_rfl) (by kernel_rfl) rfl rfl rfl (fun F hs => .move rfl) (by kernel_rfl) (listed' := #[true, true, true, false, false, false, false, false, false, false, false, false, false, false, false]) ?_
        refine As.take 8 rfl (by kernel_rfl) (by kernel_rfl) (by kernel_rfl) rfl rfl rfl (fun F hs => .fieldAddr rfl fa37_1) (by kernel_rfl) (listed' := #[true, true, true, false, false, false, false, false, true, false, false, false, false, false, false]) ?_
        refine As.take 11 rfl (by kernel_rfl) (by kernel_rfl) (by kernel_rfl) rfl rfl rfl (fun F hs => .move rfl) (by kernel_rfl) (listed' := #[true, true, true, false, false, false, false, false, true, false, false, true, false, false, false]) ?_
        refine As.quiet [3, 4, 5, 6, 7, 9, 10] 7 3 rfl ?_
        refine Aq.st (i := 3) ⟨rfl, by kernel_rfl, by kernel_rfl, by kernel_rfl, by kernel_rfl, by kernel_rfl⟩ (.indexAddr (j := i) (off := i * 3) rfl rfl (Rd.ro hs) Try.runUnderlying23 Try.sizeOf40 rfl (by omega) rfl) rfl rfl rfl (by kernel_rfl) (listed' := #[true, true, true, true, false, false, false, false, true, false, false, true, false, false, false]) ?_
        refine Aq.st (i := 4) ⟨rfl, by kernel_rfl, by kernel_rfl, by kernel_rfl, by kernel_rfl, by kernel_rfl⟩ (.fieldAddr_elem (j := i * 3 + 2) rfl (Rd.ro hs) fa40_2 (by omega) rfl) rfl rfl rfl (by kernel_rfl) (listed' := #[true, true, true, true, true, false, false, false, true, false, false, true, false, false, false]) ?_
        refine Aq.st (i := 5) ⟨rfl, by kernel_rfl, by kernel_rfl, by kernel_rfl, by kernel_rfl, by kernel_rfl⟩ (.load_elem rfl (Rd.ro hs) Try.isAgg38 (row_at hvrow 2 _ rfl)) rfl rfl rfl (by kernel_rfl) (listed' := #[true, true, true, true, true, true, false, false, true, false, false, true, false, false, false]) ?_
        refine Aq.st (i := 6) ⟨rfl, by kernel_rfl, by kernel_rfl, by kernel_rfl, by kernel_rfl, by kernel_rfl⟩ (.len rfl (Rd.ro hyr) Try.runUnderlying38) rfl rfl rfl (by kernel_rfl) (listed' := #[true, true, true, true, true, true, true, false, true, false, false, true, false, false, false]) ?_
        refine Aq.st (i := 7) ⟨rfl, by kernel_rfl, by kernel_rfl, by kernel_rfl, by kernel_rfl, by kernel_rfl⟩ (.convI_64 rfl rfl Try.underlying3 Try.underlying35) rfl rfl rfl (by kernel_rfl) (listed' := #[true, true, true, true, true, true, true, true, true, false, false, true, false, false, false]) ?_
        refine Aq.st (i := 9) ⟨rfl, by kernel_rfl, by kernel_rfl, by kernel_rfl, by kernel_rfl, by kernel_rfl⟩ (.loadP rfl (by repeat first | exact TakeP.here _ | apply TakeP.there) Try.isAgg35 rfl) rfl rfl rfl (by kernel_rfl) (listed' := #[true, true, true, true, true, true, true, true, true, true, false, true, false, false, false]) ?_
        refine Aq.st (i := 10) ⟨rfl, by kernel_rfl, by kernel_rfl, by kernel_rfl, by kernel_rfl, by kernel_rfl⟩ (.subW64 rfl rfl) rfl rfl rfl (by kernel_rfl) (listed' := #[true, true, true, true, true, true, true, true, true, true, true, true, false, false, false]) ?_
        refine Aq.done (by kernel_rfl) ?_
        refine As.one (i := 12) (by kernel_rfl) ?_
        refine Ao.call rfl ⟨Try.call35⟩ rfl rfl rfl (by repeat' first | exact Takes.nil _ | exact TakeP.here _ | apply TakeP.there | apply Takes.cons) (fun F' hF => refNumber_any hwl) rfl rfl rfl (by kernel_rfl) (listed' := #[true, true, true, true, true, true, true, true, true, true, true, true, true, false, false]) ?_
        rintro nu _ ⟨hnu, rfl⟩
        refine As.one (i := 13) (by kernel_rfl) ?_
        refine Ao.ef rfl (.append (v := ou) rfl rfl (by repeat first | exact TakeP.here _ | apply TakeP.there) (Rd.vec (v := nu) (by repeat first | exact TakeP.here _ | apply TakeP.there)) ei26 (by omega) (by simp only [maxLen]; omega)) rfl rfl rfl (by kernel_rfl) (listed' := #[true, true, true, true, true, true, true, true, true, true, true, true, true, true, false]) ?_
        rintro ou2 _ ⟨hou2, rfl⟩
        refine As.take 14 rfl (by kernel_rfl) (by kernel_rfl) (by kernel_rfl) rfl rfl rfl (fun F hs => .assign rfl) (by kernel_rfl) (listed' := #[true, true, true, true, true, true, true, true, true, true, true, true, true, true, true]) ?_
        refine As.done (by kernel_rfl) ?_
        refine Ext.seq ?_
        refine Cod.seq ?_
        refine Cod.region ?_
        have hon : (o ++ leB (UInt64.ofNat l.length - mn).toNat (wid (mx - mn).toNat)).length = o.length + (leB (UInt64.ofNat l.length - mn).toNat (wid (mx - mn).toNat)).length := List.length_append
        rw [← vec_app]
        generalize ho2 : o ++ leB (UInt64.ofNat l.length - mn).toNat (wid (mx - mn).toNat) = o2 at hon
        refine Ops.st (.assign rfl) rfl rfl rfl ?_
        refine Ops.nil ?_
        refine Ext.seq ?_
        refine Cod.block ?_
        refine Cod.loop (fun g : Nat × Value => ⟨g.1 ≤ l.length ∧ Sl g.2, [(0, lv), (1, vv), (6, .int .i64 i), (7, .pointer (some ⟨fb, 0, none⟩)), (8, .int .i64 (wid (mx - mn).toNat)), (5, g.2), (9, .int .i64 g.1)], [vec g.2 5 1 (o2 ++ (l.take g.1).flatMap fun r => putR of r).length (u8s (o2 ++ (l.take g.1).flatMap fun r => putR of r)), pt fb 37 [.int .i64 k, W64 mn, W64 mx, ov]]⟩) (fun g => l.length - g.1) (0, ou2) ⟨Nat.zero_le _, hou2⟩ ⟨rfl, rfl, rfl, rfl, rfl, rfl, rfl, trivial⟩ (by simp only [List.take_zero, List.flatMap_nil, List.append_nil]; exact Ent.take (by repeat' first | exact Takes.nil _ | exact TakeP.here _ | apply TakeP.there | apply Takes.cons)) ?_
        rintro ⟨j, ou3⟩ ⟨hj, hou3⟩
        dsimp only
        refine Cod.seq ?_
        refine Cod.seq ?_
        refine Cod.region ?_
        dsimp only at hj hou3
        refine Ops.st (.move rfl) rfl rfl rfl ?_
        refine Ops.st (.move rfl) rfl rfl rfl ?_
        refine Ops.st (.move rfl) rfl rfl rfl ?_
        refine Ops.st (.indexAddr (j := i) (off := i * 3) rfl rfl (Rd.ro hs) Try.runUnderlying23 Try.sizeOf40 rfl (by omega) rfl) rfl rfl rfl ?_
        refine Ops.st (.fieldAddr_elem (j := i * 3 + 2) rfl (Rd.ro hs) fa40_2 (by omega) rfl) rfl rfl rfl ?_
        refine Ops.st (.load_elem rfl (Rd.ro hs) Try.isAgg38 (row_at hvrow 2 _ rfl)) rfl rfl rfl ?_
        refine Ops.st (.len rfl (Rd.ro hyr) Try.runUnderlying38) rfl rfl rfl ?_
        refine Ops.st (.lss rfl rfl) rfl rfl rfl ?_
        refine Ops.nil ?_
        refine Ext.seq ?_
        refine Cod.condD rfl (fun h6 => ?_) (fun h6 => ?_)
        ·
          refine Cod.skip ?_
          refine Ext.seq ?_
          refine Cod.seq ?_
          refine Cod.block ?_
          obtain ⟨r, hrj⟩ : ∃ r, l[j]? = some r := ⟨l[j]'(by omega), List.getElem?_eq_getElem (by omega)⟩
          obtain ⟨rv, rcs, hrv, hrr, hrq⟩ := hrs.get hrj
          obtain ⟨m2, hm2⟩ := hsub (by omega)
          have hfl2 := flatM_le (q := fun r => putR of r) hrj
          have hol : (o2 ++ (l.take j).flatMap fun r => putR of r).length = o2.length + ((l.take j).flatMap fun r => putR of r).length := List.length_append
          refine Cod.regionA mixed (by kernel_rfl) (listed := #[false, false, false, false, false, false, false, false, false, false, false, false, false, false]) ?_
          refine As.take 0 rfl (by kernel_rfl) (by kernel_rfl) (by kernel_rfl) rfl rfl rfl (fun F hs => .move rfl) (by kernel_rfl) (listed' := #[true, false, false, false, false, false, false, false, false, false, false, false, false, false]) ?_
          refine As.take 1 rfl (by kernel_rfl) (by kernel_rfl) (by kernel_rfl) rfl rfl rfl (fun F hs => .fieldAddr rfl fa37_3) (by kernel_rfl) (listed' := #[true, true, false, false, false, false, false, false, false, false, false, false, false, false]) ?_
          refine As.take 3 rfl (by kernel_rfl) (by kernel_rfl) (by kernel_rfl) rfl rfl rfl (fun F hs => .move rfl) (by kernel_rfl) (listed' := #[true, true, false, true, false, false, false, false, false, false, false, false, false, false]) ?_
          refine As.take 4 rfl (by kernel_rfl) (by kernel_rfl) (by kernel_rfl) rfl rfl rfl (fun F hs => .move rfl) (by kernel_rfl) (listed' := #[true, true, false, true, true, false, false, false, false, false, false, false, false, false]) ?_
          refine As.take 8 rfl (by kernel_rfl) (by kernel_rfl) (by kernel_rfl) rfl rfl rfl (fun F hs => .move rfl) (by kernel_rfl) (listed' := #[true, true, false, true, true, false, false, false, true, false, false, false, false, false]) ?_
          refine As.quiet [2, 5, 6, 7, 9, 10] 6 3 rfl ?_
          refine Aq.st (i := 2) ⟨rfl, by kernel_rfl, by kernel_rfl, by kernel_rfl, by kernel_rfl, by kernel_rfl⟩ (.loadP rfl (by repeat first | exact TakeP.here _ | apply TakeP.there) Try.isAgg22 rfl) rfl rfl rfl (by kernel_rfl) (listed' := #[true, true, true, true, true, false, false, false, true, false, false, false, false, false]) ?_
          refine Aq.st (i := 5) ⟨rfl, by kernel_rfl, by kernel_rfl, by kernel_rfl, by kernel_rfl, by kernel_rfl⟩ (.indexAddr (j := i) (off := i * 3) rfl rfl (Rd.ro hs) Try.runUnderlying23 Try.sizeOf40 rfl (by omega) rfl) rfl rfl rfl (by kernel_rfl) (listed' := #[true, true, true, true, true, true, false, false, true, false, false, false, false, false]) ?_
          refine Aq.st (i := 6) ⟨rfl, by kernel_rfl, by kernel_rfl, by kernel_rfl, by kernel_rfl, by kernel_rfl⟩ (.fieldAddr_elem (j := i * 3 + 2) rfl (Rd.ro hs) fa40_2 (by omega) rfl) rfl rfl rfl (by kernel_rfl) (listed' := #[true, true, true, true, true, true, true, false, true, false, false, false, false, false]) ?_
          refine Aq.st (i := 7) ⟨rfl, by kernel_rfl, by kernel_rfl, by kernel_rfl, by kernel_rfl, by kernel_rfl⟩ (.load_elem rfl (Rd.ro hs) Try.isAgg38 (row_at hvrow 2 _ rfl)) rfl rfl rfl (by kernel_rfl) (listed' := #[true, true, true, true, true, true, true, true, true, false, false, false, false, false]) ?_
          refine Aq.st (i := 9) ⟨rfl, by kernel_rfl, by kernel_rfl, by kernel_rfl, by kernel_rfl, by kernel_rfl⟩ (.indexAddr (j := j) (off := j) rfl rfl (Rd.ro hyr) Try.runUnderlying38 Try.sizeOf23 rfl (by omega) (by omega)) rfl rfl rfl (by kernel_rfl) (listed' := #[true, true, true, true, true, true, true, true, true, true, false, false, false, false]) ?_
          refine Aq.st (i := 10) ⟨rfl, by kernel_rfl, by kernel_rfl, by kernel_rfl, by kernel_rfl, by kernel_rfl⟩ (.load_elem rfl (Rd.ro hyr) Try.isAgg23 hrv) rfl rfl rfl (by kernel_rfl) (listed' := #[true, true, true, true, true, true, true, true, true, true, true, false, false, false]) ?_
          refine Aq.done (by kernel_rfl) ?_
          refine As.one (i := 11) (by kernel_rfl) ?_
          refine Ao.call rfl ⟨Try.call28⟩ rfl rfl rfl (by repeat' first | exact Takes.nil _ | exact TakeP.here _ | apply TakeP.there | apply Takes.cons) (fun F' hF => ih hd4 (hor.mono hF.hf) (hoc.mono hF.hf of) (hrr.mono hF.hf) (hrq.mono hF.hf r) hm2 (hall r (List.mem_of_getElem? hrj))) rfl rfl rfl (by kernel_rfl) (listed' := #[true, true, true, true, true, true, true, true, true, true, true, true, false, false]) ?_
          rintro ru _ ⟨hru, rfl⟩
          refine As.one (i := 12) (by kernel_rfl) ?_
          refine Ao.ef rfl (.append (v := ou3) rfl rfl (by repeat first | exact TakeP.here _ | apply TakeP.there) (Rd.vec (v := ru) (by repeat first | exact TakeP.here _ | apply TakeP.there)) ei26 (by omega) (by simp only [maxLen]; omega)) rfl rfl rfl (by kernel_rfl) (listed' := #[true, true, true, true, true, true, true, true, true, true, true, true, true, false]) ?_
          rintro ou4 _ ⟨hou4, rfl⟩
          refine As.take 13 rfl (by kernel_rfl) (by kernel_rfl) (by kernel_rfl) rfl rfl rfl (fun F hs => .assign rfl) (by kernel_rfl) (listed' := #[true, true, true, true, true, true, true, true, true, true, true, true, true, true]) ?_
          refine As.done (by kernel_rfl) ?_
          refine Ext.block ?_
          refine Ext.seq ?_
          refine Cod.region ?_
          refine Ops.st (.move rfl) rfl rfl rfl ?_
          refine Ops.st (.add rfl rfl (by first | exact IntWalk.i64_in _ (by omega) | rfl)) rfl rfl rfl ?_
          refine Ops.st (.assign rfl) rfl rfl rfl ?_
          refine Ops.nil ?_
          exact Ext.back (j + 1, ou4) (by dsimp only; omega) ⟨by dsimp only; omega, hou4⟩ ⟨rfl, rfl, rfl, rfl, rfl, rfl, rfl, trivial⟩ (by dsimp only; rw [take_get hrj, List.flatMap_append, List.flatMap_cons, List.flatMap_nil, List.append_nil, ← List.append_assoc, vec_app ou4 5 _ (putR of r)]; exact Ent.take (by repeat' first | exact Takes.nil _ | exact TakeP.here _ | apply TakeP.there | apply Takes.cons))
        ·
          refine Cod.exit (Ext.seqX (Ext.stopX (Ext.hit ?_)))
          refine Ext.block ?_
          refine Ext.block ?_
          refine Ext.seq ?_
          refine Cod.region ?_
          rw [List.take_of_length_le (by omega)]
          refine Ops.st (.move rfl) rfl rfl rfl ?_
          refine Ops.st (.add rfl rfl (by first | exact IntWalk.i64_in _ (by omega) | rfl)) rfl rfl rfl ?_
          refine Ops.st (.assign rfl) rfl rfl rfl ?_
          refine Ops.nil ?_
          exact Ext.back (i + 1, ou3, o2 ++ l.flatMap fun r => putR of r) (by dsimp only; omega) ⟨by dsimp only; omega, hou3, hf1.2, by dsimp only; rw [hp1, hpf, ← ho2, List.append_assoc, List.append_assoc, List.append_assoc]⟩ ⟨rfl, rfl, rfl, rfl, trivial⟩ (by dsimp only; exact Ent.take (by repeat' first | exact Takes.nil _ | exact TakeP.here _ | apply TakeP.there | apply Takes.cons))
  ·
    refine Cod.exit (Ext.seqX (Ext.stopX (Ext.hit ?_)))
    refine Ext.seq ?_
    refine Cod.seq ?_
    refine Cod.region ?_
    obtain rfl : i = fs.length := by omega
    rw [List.drop_length, hln, List.drop_length, putR_nil, List.append_nil] at hp1
    subst hp1
    refine Ops.st (.move rfl) rfl rfl rfl ?_
    refine Ops.st (.assign rfl) rfl rfl rfl ?_
    refine Ops.nil ?_
    refine Ext.seq ?_
    exact Cod.ret (Ext.ret rfl rfl ⟨hou, rfl⟩)
theorem put_any : ∀ (q d : Nat), d + q = 5 → ∀ {F : Fr} {lv vv : Value} {cs ws : List Value} {fs : List Fld} {vs : List Val} {m : Nat}, SlR F.hf lv 4 fs.length cs → FldsR F.hf fs cs → SlR F.hf vv 3 vs.length ws → ValsR F.hf vs ws → mostR d fs = some m → fitR fs vs = true →
      Spec Try.prog F 28 [lv, vv] [] (fun u hs' => Sl u ∧ hs' = [vec u 5 1 (putR fs vs).length (u8s (putR fs vs))])
  | 0, d, h, _, _, _, _, _, _, _, _, hr, hc, hs, hw, hm, hf => put_step (fun h4 => absurd h4 (by omega)) hr hc hs hw hm hf
  | q + 1, d, h, _, _, _, _, _, _, _, _, hr, hc, hs, hw, hm, hf => put_step (fun _ {F lv vv cs ws fs vs m} => put_any q (d + 1) (by omega)) hr hc hs hw hm hf
end Go.Proofs.Ytacgngfjanlfnaa
