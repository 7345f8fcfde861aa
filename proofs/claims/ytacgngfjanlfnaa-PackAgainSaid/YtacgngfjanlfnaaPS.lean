/- A value and a record out of bytes, Decode: the program. No condition. -/
import Derived.Test.YtacgngfjanlfnaaPR
namespace Go.Proofs.Ytacgngfjanlfnaa
open Go

theorem takeM_len (am : Bool) (n : Nat) (bs : List UInt8) : (takeM am n bs).1.length ≤ n := by
  unfold takeM
  split
  · exact Nat.zero_le _
  · rw [List.length_take]; omega
theorem mostR_fld {d : Nat} {fs : List Fld} {m i : Nat} {k : Int} {mn mx : UInt64} {of : List Fld} (h : mostR d fs = some m) (hi : fs[i]? = some (.mk k mn mx of)) : mn ≤ mx ∧ (k ≠ 1 → mx.toNat ≤ 65536) := by
  rw [mostR] at h
  split at h
  · cases h
  · obtain ⟨q, hq⟩ := mostL_mem h (List.mem_of_getElem? hi)
    have := mostF_ok d _ _ hq
    rw [okF] at this
    exact ⟨this.2.1, this.2.2.1⟩
theorem mostR_few {d : Nat} {fs : List Fld} {m : Nat} (h : mostR d fs = some m) : fs.length ≤ 16 := by
  rw [mostR] at h
  split at h
  · cases h
  · omega

theorem value_any {d : Nat} (ih : (∀ {F : Fr} {rb : Nat} {bv lv : Value} {bs : List UInt8} {cs : List Value} {fs : List Fld} {m : Nat} {H h0 : Hp}, Hp.le H F.hf → SlR H bv 1 bs.length (u8s bs) → SlR F.hf lv 4 fs.length cs → FldsR F.hf fs cs → mostR (d + 1) fs = some m → Spec Try.prog F 31 [.pointer (some ⟨rb, 0, none⟩), lv] [pt rb 57 [bv, .bool false], ice h0] (RecP H 57 rb h0 fs bs))) {F : Fr} {rb : Nat} {bv ov : Value} {bs : List UInt8} {ocs : List Value} {k : Int} {mn mx : UInt64} {of : List Fld} {H h0 : Hp} (hH : Hp.le H F.hf) (hb : SlR H bv 1 bs.length (u8s bs)) (hor : SlR F.hf ov 4 of.length ocs) (hoc : FldsR F.hf of ocs)
    (hk : k = 1 ∨ k = 2 ∨ k = 3) (hm : mn ≤ mx) (hmx : k ≠ 1 → mx.toNat ≤ 65536) (hsub : k = 3 → ∃ m', mostR (d + 1) of = some m') :
    Spec Try.prog F 37 [.pointer (some ⟨rb, 0, none⟩), .agg #[.int .i64 k, W64 mn, W64 mx, ov]] [pt rb 57 [bv, .bool false], ice h0] (ValP H 57 rb h0 (.mk k mn mx of) bs) := by
  have hov := hor.sl
  refine Spec.body Try.func37 rfl Try.ntmps37 rfl ?_
  refine Cod.seq ?_
  refine Cod.region ?_
  refine Ops.ef (.box (cs := [.pointer (some ⟨rb, 0, none⟩)]) rfl rfl) rfl rfl rfl ?_
  rintro b2 _ ⟨b2, rfl, rfl⟩
  refine Ops.ef (.box (cs := [.int .i64 k, W64 mn, W64 mx, ov]) rfl (by obtain ⟨a, l, c, rfl⟩ := hov; rfl)) rfl rfl rfl ?_
  rintro b3 _ ⟨b3, rfl, rfl⟩
  refine Ops.ef (.alloc Try.zeroValue40 rfl) rfl rfl rfl ?_
  rintro b4 _ ⟨b4, rfl, rfl⟩
  refine Ops.nil ?_
  refine Ext.seq ?_
  refine Cod.seq ?_
  refine Cod.region ?_
  refine Ops.st (.loadP rfl (by repeat first | exact TakeP.here _ | apply TakeP.there) Try.isAgg56 rfl) rfl rfl rfl ?_
  refine Ops.st (.loadPA rfl (by repeat first | exact TakeP.here _ | apply TakeP.there) Try.isAgg37 Try.sizeOf37 rfl rfl) rfl rfl rfl ?_
  refine Ops.call ⟨Try.call42⟩ rfl rfl rfl (by repeat' first | exact Takes.nil _ | exact TakeP.here _ | apply TakeP.there | apply Takes.cons) (fun F' hF => takeN_any hov hm (Hp.le_tr hH hF.hf) hb) rfl rfl rfl ?_
  rintro _ _ ⟨z, bv1, bs1, rfl, hz, hb1, rfl, hd⟩
  have hzl := le_nat.1 hz
  refine Ops.st (.assign rfl) rfl rfl rfl ?_
  refine Ops.nil ?_
  refine Ext.seq ?_
  refine Cod.seq ?_
  refine Cod.seq ?_
  refine Cod.region ?_
  refine Ops.st (.fieldAddr rfl fa37_0) rfl rfl rfl ?_
  refine Ops.st (.loadP rfl (by repeat first | exact TakeP.here _ | apply TakeP.there) Try.isAgg3 rfl) rfl rfl rfl ?_
  refine Ops.nil ?_
  refine Ext.seq ?_
  refine Cod.block ?_
  refine Cod.seq ?_
  refine Cod.region ?_
  refine Ops.st (.eql rfl rfl) rfl rfl rfl ?_
  refine Ops.st (.assign rfl) rfl rfl rfl ?_
  refine Ops.nil ?_
  refine Ext.seq ?_
  refine Cod.condD rfl (fun k2 => ?_) (fun k2 => ?_)
  ·
    refine Cod.seq ?_
    have hmx2 := hmx (by omega)
    obtain ⟨hf1, hf2⟩ := decF2 (of := of) k2 hm hd
    have htl := takeM_len (numD mn mx bs).isNone z.toNat bs1
    refine Cod.region ?_
    refine Ops.st (.loadP rfl (by repeat first | exact TakeP.here _ | apply TakeP.there) Try.isAgg56 rfl) rfl rfl rfl ?_
    refine Ops.st (.move rfl) rfl rfl rfl ?_
    refine Ops.st (.conv rfl Try.runUnderlying35 Try.runUnderlying3 (by first | exact IntWalk.i64_in _ (by omega) | rfl)) rfl rfl rfl ?_
    refine Ops.call ⟨Try.call44⟩ rfl rfl rfl (by repeat' first | exact Takes.nil _ | exact TakeP.here _ | apply TakeP.there | apply Takes.cons) (fun F' hF => take_any (n := z.toNat) (Hp.le_tr hH hF.hf) hb1) rfl rfl rfl ?_
    rintro tv _ ⟨bv2, htv, hb2, rfl⟩
    refine Ops.call ⟨Try.call43⟩ rfl rfl rfl (by repeat' first | exact Takes.nil _ | exact TakeP.here _ | apply TakeP.there | apply Takes.cons) (fun F' hF => clone_any (htv.mono (Hp.le_tr hH hF.hf)) (by omega)) rfl rfl rfl ?_
    rintro nv _ ⟨hnv, rfl⟩
    refine Ops.freeze (v := nv) (by repeat' first | exact Takes.nil _ | exact TakeP.here _ | apply TakeP.there | apply Takes.cons) fun hd2 hle hsn => ?_
    refine Ops.st (.build1 (os := [1]) (cs := [(.int .u64 0), _, (.slice none 0 0)]) bs40 rfl rfl rfl (by repeat' first | exact One.nil | apply One.cons rfl | (apply One.cons (Sl.one (by assumption)))) rfl) rfl rfl rfl ?_
    refine Ops.ef10 (.storeA (vs := [W64 0, nv, .slice none 0 0]) (cs' := [W64 0, nv, .slice none 0 0]) rfl rfl (by repeat first | exact TakeP.here _ | apply TakeP.there) Try.sizeOf40 rfl (by decide) (by exact One.cons rfl (One.cons hnv.one (One.cons rfl One.nil))) rfl) rfl rfl ?_
    refine Ops.nil ?_
    refine Ext.seq ?_
    exact Cod.ret (Ext.blockR (Ext.seqR (Ext.retCE rfl rfl (by repeat first | exact TakeP.here _ | apply TakeP.there) Try.isAgg40 Try.sizeOf40 (by first | rfl | assumption) (Ent.take (ps := [pt rb 57 [bv2, .bool (takeM (numD mn mx bs).isNone z.toNat bs1).2.2], ice hd2]) (by repeat' first | exact Takes.nil _ | exact TakeP.here _ | apply TakeP.there | apply Takes.cons)) (⟨bv2, _, hd2, 0, nv, .slice none 0 0, .mk 0 _ [], hle, rfl, hb2, by rw [ValR]; exact ⟨_, _, rfl, hsn, [], SlR.nil _ _, by rw [RecsR]⟩, by rw [hf1], hf2⟩))))
  ·
    refine Cod.seq ?_
    refine Cod.region ?_
    refine Ops.st (.eql rfl rfl) rfl rfl rfl ?_
    refine Ops.st (.assign rfl) rfl rfl rfl ?_
    refine Ops.nil ?_
    refine Ext.seq ?_
    refine Cod.condD rfl (fun k3 => ?_) (fun k3 => ?_)
    ·
      refine Cod.seq ?_
      have hmx2 := hmx (by omega)
      obtain ⟨m2, hm2⟩ := hsub k3
      obtain ⟨hf1, hf2⟩ := decF3 (of := of) k3 hm hd
      refine Cod.region ?_
      refine Ops.st (.loadP rfl (by repeat first | exact TakeP.here _ | apply TakeP.there) Try.isAgg56 rfl) rfl rfl rfl ?_
      refine Ops.st (.move rfl) rfl rfl rfl ?_
      refine Ops.st (.makeFunc rfl rfl) rfl rfl rfl ?_
      refine Ops.call ⟨Try.call45⟩ rfl rfl rfl (by repeat' first | exact Takes.nil _ | exact TakeP.here _ | apply TakeP.there | apply Takes.cons) (fun F' hF => list_any ih (by omega) (Hp.le_tr hH hF.hf) hb1 (hor.mono hF.hf) (hoc.mono hF.hf of) hm2) rfl rfl rfl ?_
      rintro yv _ ⟨bv2, bs2, h1, l, rows, hle, hb2, hy, hl, rfl, hd2⟩
      have hys := hy.sl
      refine Ops.st (.build1 (os := [2]) (cs := [(.int .u64 0), (.slice none 0 0), _]) bs40 rfl rfl rfl (by repeat' first | exact One.nil | apply One.cons rfl | (apply One.cons (Sl.one (by assumption)))) rfl) rfl rfl rfl ?_
      refine Ops.ef10 (.storeA (vs := [W64 0, .slice none 0 0, yv]) (cs' := [W64 0, .slice none 0 0, yv]) rfl rfl (by repeat first | exact TakeP.here _ | apply TakeP.there) Try.sizeOf40 rfl (by decide) (by exact One.cons rfl (One.cons rfl (One.cons hys.one One.nil))) rfl) rfl rfl ?_
      refine Ops.nil ?_
      refine Ext.seq ?_
      exact Cod.ret (Ext.blockR (Ext.seqR (Ext.retCE rfl rfl (by repeat first | exact TakeP.here _ | apply TakeP.there) Try.isAgg40 Try.sizeOf40 (by first | rfl | assumption) (Ent.take (ps := [pt rb 57 [bv2, .bool (repM (numD mn mx bs).isNone of z.toNat bs1).isNone], ice h1]) (by repeat' first | exact Takes.nil _ | exact TakeP.here _ | apply TakeP.there | apply Takes.cons)) (⟨bv2, bs2, h1, 0, .slice none 0 0, yv, .mk 0 [] l, hle, rfl, hb2, by rw [ValR]; exact ⟨_, _, rfl, SlR.nil _ _, rows, hy, hl⟩, by rw [hf1], fun w r h => by obtain ⟨l', h2, h3⟩ := hf2 w r h; obtain ⟨h4, h5⟩ := hd2 l' r h2; rw [h3, h4]; exact ⟨rfl, h5⟩⟩))))
    ·
      refine Cod.skip ?_
      refine Ext.block ?_
      refine Ext.seq ?_
      refine Cod.seq ?_
      refine Cod.region ?_
      obtain ⟨hf1, hf2⟩ := decF1 (of := of) (k := k) (by omega) hd
      refine Ops.st (.move rfl) rfl rfl rfl ?_
      refine Ops.st (.build1 (os := [0]) (cs := [_, (.slice none 0 0), (.slice none 0 0)]) bs40 rfl rfl rfl (by repeat' first | exact One.nil | apply One.cons rfl | (apply One.cons (Sl.one (by assumption)))) rfl) rfl rfl rfl ?_
      refine Ops.ef10 (.storeA (vs := [W64 z, .slice none 0 0, .slice none 0 0]) (cs' := [W64 z, .slice none 0 0, .slice none 0 0]) rfl rfl (by repeat first | exact TakeP.here _ | apply TakeP.there) Try.sizeOf40 rfl (by decide) (by exact One.cons rfl (One.cons rfl (One.cons rfl One.nil))) rfl) rfl rfl ?_
      refine Ops.nil ?_
      refine Ext.seq ?_
      exact Cod.ret (Ext.retCE rfl rfl (by repeat first | exact TakeP.here _ | apply TakeP.there) Try.isAgg40 Try.sizeOf40 (by first | rfl | assumption) (Ent.take (ps := [pt rb 57 [bv1, .bool (numD mn mx bs).isNone], ice h0]) (by repeat' first | exact Takes.nil _ | exact TakeP.here _ | apply TakeP.there | apply Takes.cons)) (⟨bv1, bs1, h0, z, .slice none 0 0, .slice none 0 0, .mk z [] [], Hp.le_rfl _, rfl, hb1, by rw [ValR]; exact ⟨_, _, rfl, SlR.nil _ _, [], SlR.nil _ _, by rw [RecsR]⟩, by rw [hf1], hf2⟩))
theorem rrecord_step {d : Nat} (ih : d ≤ 4 → (∀ {F : Fr} {rb : Nat} {bv lv : Value} {bs : List UInt8} {cs : List Value} {fs : List Fld} {m : Nat} {H h0 : Hp}, Hp.le H F.hf → SlR H bv 1 bs.length (u8s bs) → SlR F.hf lv 4 fs.length cs → FldsR F.hf fs cs → mostR (d + 1) fs = some m → Spec Try.prog F 31 [.pointer (some ⟨rb, 0, none⟩), lv] [pt rb 57 [bv, .bool false], ice h0] (RecP H 57 rb h0 fs bs))) {F : Fr} {rb : Nat} {bv lv : Value} {bs : List UInt8} {cs : List Value} {fs : List Fld} {m : Nat} {H h0 : Hp} (hH : Hp.le H F.hf) (hb : SlR H bv 1 bs.length (u8s bs)) (hr : SlR F.hf lv 4 fs.length cs) (hc : FldsR F.hf fs cs) (hm : mostR d fs = some m) :
    Spec Try.prog F 31 [.pointer (some ⟨rb, 0, none⟩), lv] [pt rb 57 [bv, .bool false], ice h0] (RecP H 57 rb h0 fs bs) := by
  have hfl := mostR_few hm
  refine Spec.body Try.func31 rfl Try.ntmps31 rfl ?_
  refine Cod.seq ?_
  refine Cod.region ?_
  refine Ops.st (.assign rfl) rfl rfl rfl ?_
  refine Ops.nil ?_
  refine Ext.seq ?_
  refine Cod.seq ?_
  refine Cod.region ?_
  refine Ops.st (.assign rfl) rfl rfl rfl ?_
  refine Ops.nil ?_
  refine Ext.seq ?_
  refine Cod.seq ?_
  refine Cod.seq ?_
  refine Cod.region ?_
  refine Ops.st (.move rfl) rfl rfl rfl ?_
  refine Ops.st (.len rfl (Rd.ro hr) Try.runUnderlying22) rfl rfl rfl ?_
  refine Ops.st (.move rfl) rfl rfl rfl ?_
  refine Ops.nil ?_
  refine Ext.seq ?_
  refine Cod.block ?_
  refine Cod.loop (fun g : Nat × Value × List UInt8 × Value × Hp × List Val × List Value => ⟨g.1 ≤ fs.length ∧ Sl g.2.2.2.1 ∧ Hp.le h0 g.2.2.2.2.1 ∧ SlR H g.2.1 1 g.2.2.1.length (u8s g.2.2.1) ∧ ValsR g.2.2.2.2.1 g.2.2.2.2.2.1 g.2.2.2.2.2.2 ∧ g.2.2.2.2.2.1.length = g.1 ∧ decR fs bs = cont g.2.2.2.2.2.1 (decR (fs.drop g.1) g.2.2.1), [(0, .pointer (some ⟨rb, 0, none⟩)), (5, g.2.2.2.1), (8, lv), (9, .int .i64 fs.length), (10, .int .i64 g.1)], [pt rb 57 [g.2.1, .bool false], vec g.2.2.2.1 40 3 g.1 g.2.2.2.2.2.2, ice g.2.2.2.2.1]⟩) (fun g => fs.length - g.1) (0, bv, bs, .slice none 0 0, h0, [], []) ⟨Nat.zero_le _, Sl.nil, Hp.le_rfl _, hb, by rw [ValsR], rfl, cont_nil _⟩ ⟨rfl, rfl, rfl, rfl, rfl, trivial⟩ ((Ent.vecNil (T := 40) (sz := 3)).trans (Ent.take (by repeat' first | exact Takes.nil _ | exact TakeP.here _ | apply TakeP.there | apply Takes.cons))) ?_
  rintro ⟨i, bvi, bsi, ou, hh, vals, oc⟩ ⟨hi, hou, hle, hbi, hvals, hvl, he⟩
  dsimp only
  refine Cod.seq ?_
  refine Cod.region ?_
  dsimp only at hi hou hle hbi hvals hvl he
  refine Ops.st (.lss rfl rfl) rfl rfl rfl ?_
  refine Ops.nil ?_
  refine Ext.seq ?_
  refine Cod.seq ?_
  refine Cod.condD rfl (fun h4 => ?_) (fun h4 => ?_)
  ·
    refine Cod.skip ?_
    refine Ext.seq ?_
    refine Cod.seq ?_
    refine Cod.block ?_
    refine Cod.seq ?_
    refine Cod.region ?_
    obtain ⟨k, mn, mx, of, hf⟩ : ∃ k mn mx of, fs[i]? = some (.mk k mn mx of) := by rcases he : fs[i]'(by omega) with ⟨k, mn, mx, of⟩; exact ⟨k, mn, mx, of, by rw [List.getElem?_eq_getElem (by omega), he]⟩
    obtain ⟨ov, ocs, hrow, hor, hoc⟩ := hc.get hf
    obtain ⟨hk, hd4, hsub⟩ := mostR_sub hm hf
    obtain ⟨hmn, hmx⟩ := mostR_fld hm hf
    have hov := hor.sl
    rw [drop_get hf] at he
    refine Ops.st (.indexAddr (j := i) (off := i * 4) rfl rfl (Rd.ro hr) Try.runUnderlying22 Try.sizeOf37 rfl (by omega) rfl) rfl rfl rfl ?_
    refine Ops.st (.load_elemA (ds := [.int .i64 k, W64 mn, W64 mx, ov]) rfl (Rd.ro hr) Try.isAgg37 Try.sizeOf37 (by omega) rfl (row_at hrow)) rfl rfl rfl ?_
    refine Ops.ef (.alloc Try.zeroValue37 rfl) rfl rfl rfl ?_
    rintro fb _ ⟨fb, rfl, rfl⟩
    refine Ops.ef10 (.storeA (vs := [.int .i64 k, W64 mn, W64 mx, ov]) (cs' := [.int .i64 k, W64 mn, W64 mx, ov]) rfl rfl (by repeat first | exact TakeP.here _ | apply TakeP.there) Try.sizeOf37 rfl (by decide) (by exact One.cons rfl (One.cons rfl (One.cons rfl (One.cons hov.one One.nil)))) rfl) rfl rfl ?_
    refine Ops.nil ?_
    refine Ext.seq ?_
    refine Cod.seq ?_
    refine Cod.region ?_
    refine Ops.st (.move rfl) rfl rfl rfl ?_
    refine Ops.st (.move rfl) rfl rfl rfl ?_
    refine Ops.st (.loadPA rfl (by repeat first | exact TakeP.here _ | apply TakeP.there) Try.isAgg37 Try.sizeOf37 rfl rfl) rfl rfl rfl ?_
    refine Ops.call ⟨Try.call37⟩ rfl rfl rfl (by repeat' first | exact Takes.nil _ | exact TakeP.here _ | apply TakeP.there | apply Takes.cons) (fun F' hF => value_any (ih hd4) (Hp.le_tr hH hF.hf) hbi (hor.mono hF.hf) (hoc.mono hF.hf of) hk hmn hmx hsub) rfl rfl rfl ?_
    rintro _ _ ⟨bv2, bs2, h1, n, xv, yv, v, hle1, rfl, hb2, hval, rfl, hd⟩
    obtain ⟨hxv, hyv⟩ := hval.sls
    obtain ⟨hn1, hn2⟩ := dec_step' he hd
    refine Ops.ef (.lit (xs := [_, _, _]) ei23 rfl rfl rfl rfl (by repeat' first | exact allSz_nil | apply allSz_cons rfl) rfl (by repeat' first | exact One.nil | apply One.cons rfl | (apply One.cons (Sl.one (by assumption))))) rfl rfl rfl ?_
    rintro sv _ ⟨hsv, rfl⟩
    refine Ops.ef (.append (v := ou) rfl rfl (by repeat first | exact TakeP.here _ | apply TakeP.there) (Rd.vec (v := sv) (by repeat first | exact TakeP.here _ | apply TakeP.there)) ei23 (by omega) (by simp only [maxLen]; omega)) rfl rfl rfl ?_
    rintro ou2 _ ⟨hou2, rfl⟩
    refine Ops.st (.assign rfl) rfl rfl rfl ?_
    refine Ops.nil ?_
    refine Ext.seq ?_
    refine Cod.seq ?_
    refine Cod.region ?_
    refine Ops.st (.move rfl) rfl rfl rfl ?_
    refine Ops.st (.nilCheck rfl) rfl rfl rfl ?_
    refine Ops.st (.fieldAddr rfl fa57_1) rfl rfl rfl ?_
    refine Ops.st (.loadP rfl (by repeat first | exact TakeP.here _ | apply TakeP.there) Try.isAgg4 rfl) rfl rfl rfl ?_
    refine Ops.nil ?_
    refine Ext.seq ?_
    refine Cod.cond rfl (fun h5 => ?_) (fun h5 => ?_)
    ·
      refine Cod.seq ?_
      refine Cod.region ?_
      rw [h5]
      refine Ops.st (.assign rfl) rfl rfl rfl ?_
      refine Ops.nil ?_
      refine Ext.seq ?_
      exact Cod.ret (Ext.blockR (Ext.seqR (Ext.stopR (Ext.blockR (Ext.seqR (Ext.retE rfl rfl (Ent.take (ps := [pt rb 57 [bv2, .bool true], ice h1]) (by repeat' first | exact Takes.nil _ | exact TakeP.here _ | apply TakeP.there | apply Takes.cons)) (⟨bv2, bs2, h1, [], [], Hp.le_tr hle hle1, hb2, SlR.nil _ _, by rw [ValsR], by rw [hn2 h5]; rfl, fun w r h => (by rw [hn2 h5] at h; cases h)⟩)))))))
    ·
      refine Cod.skip ?_
      refine Ext.block ?_
      refine Ext.seq ?_
      refine Cod.region ?_
      refine Ops.st (.add rfl rfl (by first | exact IntWalk.i64_in _ (by omega) | rfl)) rfl rfl rfl ?_
      refine Ops.st (.move rfl) rfl rfl rfl ?_
      refine Ops.nil ?_
      exact Ext.back (i + 1, bv2, bs2, ou2, h1, vals ++ [v], oc ++ [W64 n, xv, yv]) (by dsimp only; omega) ⟨by dsimp only; omega, hou2, Hp.le_tr hle hle1, hb2, ValsR.snoc hval (hvals.mono hle1 _), by dsimp only; rw [List.length_append, hvl]; rfl, hn1 h5⟩ ⟨rfl, rfl, rfl, rfl, rfl, trivial⟩ (by dsimp only; rw [h5]; exact Ent.take (by repeat' first | exact Takes.nil _ | exact TakeP.here _ | apply TakeP.there | apply Takes.cons))
  ·
    refine Cod.exit (Ext.seqX (Ext.stopX (Ext.hit ?_)))
    refine Ext.seq ?_
    refine Cod.seq ?_
    refine Cod.region ?_
    obtain rfl : i = fs.length := by omega
    rw [List.drop_length, decR, cont_end] at he
    refine Ops.freeze (v := ou) (by repeat' first | exact Takes.nil _ | exact TakeP.here _ | apply TakeP.there | apply Takes.cons) fun hd hle2 hsn => ?_
    refine Ops.st (.move rfl) rfl rfl rfl ?_
    refine Ops.st (.assign rfl) rfl rfl rfl ?_
    refine Ops.nil ?_
    refine Ext.seq ?_
    exact Cod.ret (Ext.retE rfl rfl (Ent.take (ps := [pt rb 57 [bvi, .bool false], ice hd]) (by repeat' first | exact Takes.nil _ | exact TakeP.here _ | apply TakeP.there | apply Takes.cons)) (⟨bvi, bsi, hd, oc, vals, Hp.le_tr hle hle2, hbi, by rw [hvl]; exact hsn, hvals.mono hle2 _, by rw [he]; rfl, fun w r h => by rw [he] at h; simp only [Option.some.injEq, Prod.mk.injEq] at h; exact h⟩))
theorem rrecord_any : ∀ (q d : Nat), d + q = 5 → ∀ {F : Fr} {rb : Nat} {bv lv : Value} {bs : List UInt8} {cs : List Value} {fs : List Fld} {m : Nat} {H h0 : Hp}, Hp.le H F.hf → SlR H bv 1 bs.length (u8s bs) → SlR F.hf lv 4 fs.length cs → FldsR F.hf fs cs → mostR d fs = some m → Spec Try.prog F 31 [.pointer (some ⟨rb, 0, none⟩), lv] [pt rb 57 [bv, .bool false], ice h0] (RecP H 57 rb h0 fs bs)
  | 0, d, h, _, _, _, _, _, _, _, _, _, _, hH, hb, hr, hc, hm => rrecord_step (fun h4 => absurd h4 (by omega)) hH hb hr hc hm
  | q + 1, d, h, _, _, _, _, _, _, _, _, _, _, hH, hb, hr, hc, hm => rrecord_step (fun _ {F rb bv lv bs cs fs m H h0} => rrecord_any q (d + 1) (by omega)) hH hb hr hc hm

/-- The record that bytes are, if they are one. -/
def decM (fs : List Fld) (bs : List UInt8) : Int × Option (List Val) :=
  if (mostR 1 fs).isSome = true then (match decR fs bs with | none => (2, none) | some (vs, r) => if r = [] then (0, some vs) else (2, none)) else (1, none)
theorem decM_bad {fs : List Fld} {bs : List UInt8} (h : (mostR 1 fs).isSome = false) : decM fs bs = (1, none) := by rw [decM, h, if_neg (by decide)]
theorem decM_none {fs : List Fld} {bs : List UInt8} (h : (mostR 1 fs).isSome = true) (h2 : (decR fs bs).isNone = true) : decM fs bs = (2, none) := by
  rw [decM, if_pos h]
  cases hq : decR fs bs with
  | none => rfl
  | some p => rw [hq] at h2; cases h2
theorem decM_more {fs : List Fld} {bs r : List UInt8} {vs : List Val} (h : (mostR 1 fs).isSome = true) (h2 : decR fs bs = some (vs, r)) (h3 : r ≠ []) : decM fs bs = (2, none) := by rw [decM, if_pos h, h2]; simp only; rw [if_neg h3]
theorem decM_good {fs : List Fld} {bs : List UInt8} {vs : List Val} (h : (mostR 1 fs).isSome = true) (h2 : decR fs bs = some (vs, [])) : decM fs bs = (0, some vs) := by rw [decM, if_pos h, h2]; simp
/-- What Decode hands back. -/
def DecP (h0 : Hp) (fs : List Fld) (bs : List UInt8) (u : Value) (hs' : List SP) : Prop :=
  ∃ h1 v ws, Hp.le h0 h1 ∧ u = .tuple #[v, .int .i64 (decM fs bs).1] ∧ SlR h1 v 3 ((decM fs bs).2.getD []).length ws ∧ ValsR h1 ((decM fs bs).2.getD []) ws ∧ hs' = [ice h1]
theorem decode_any {F : Fr} {lv bv : Value} {bs : List UInt8} {cs : List Value} {fs : List Fld} {h0 : Hp} (hr : SlR F.hf lv 4 fs.length cs) (hc : FldsR F.hf fs cs) (hb : SlR F.hf bv 1 bs.length (u8s bs)) : Spec Try.prog F 22 [lv, bv] [ice h0] (DecP h0 fs bs) := by
  have hbv := hb.sl
  refine Spec.body Try.func22 rfl Try.ntmps22 rfl ?_
  refine Cod.seq ?_
  refine Cod.region ?_
  refine Ops.st (.assign rfl) rfl rfl rfl ?_
  refine Ops.st (.assign rfl) rfl rfl rfl ?_
  refine Ops.nil ?_
  refine Ext.seq ?_
  refine Cod.seq ?_
  refine Cod.seq ?_
  refine Cod.region ?_
  refine Ops.st (.move rfl) rfl rfl rfl ?_
  refine Ops.call ⟨Try.call17⟩ rfl rfl rfl (by repeat' first | exact Takes.nil _ | exact TakeP.here _ | apply TakeP.there | apply Takes.cons) (fun F' hF => right_any (hr.mono hF.hf) (hc.mono hF.hf fs)) rfl rfl rfl ?_
  rintro _ _ ⟨rfl, rfl⟩
  refine Ops.st (.notB rfl) rfl rfl rfl ?_
  refine Ops.nil ?_
  refine Ext.seq ?_
  refine Cod.cond rfl (fun h1 => ?_) (fun h1 => ?_)
  ·
    refine Cod.seq ?_
    refine Cod.region ?_
    have h2 : (mostR 1 fs).isSome = false := by cases hq : (mostR 1 fs).isSome; rfl; rw [hq] at h1; cases h1
    refine Ops.st (.assign rfl) rfl rfl rfl ?_
    refine Ops.st (.assign rfl) rfl rfl rfl ?_
    refine Ops.nil ?_
    refine Ext.seq ?_
    exact Cod.ret (Ext.seqR (Ext.ret2 rfl rfl rfl ⟨h0, _, [], Hp.le_rfl _, by rw [decM_bad h2], by rw [decM_bad h2]; exact SlR.nil _ _, by rw [decM_bad h2]; exact (by rw [Option.getD_none, ValsR]), rfl⟩))
  ·
    refine Cod.skip ?_
    refine Ext.seq ?_
    refine Cod.seq ?_
    refine Cod.region ?_
    have h2 : (mostR 1 fs).isSome = true := by cases hq : (mostR 1 fs).isSome; rw [hq] at h1; cases h1; rfl
    obtain ⟨m, hm⟩ := Option.isSome_iff_exists.1 h2
    refine Ops.st (.move rfl) rfl rfl rfl ?_
    refine Ops.st (.build1 (os := [0]) (cs := [_, (.bool false)]) bs57 rfl rfl rfl (by repeat' first | exact One.nil | apply One.cons rfl | (apply One.cons (Sl.one (by assumption)))) rfl) rfl rfl rfl ?_
    refine Ops.ef (.box (cs := [bv, .bool false]) rfl rfl) rfl rfl rfl ?_
    rintro rb _ ⟨rb, rfl, rfl⟩
    refine Ops.st (.assign rfl) rfl rfl rfl ?_
    refine Ops.nil ?_
    refine Ext.seq ?_
    refine Cod.seq ?_
    refine Cod.region ?_
    refine Ops.st (.move rfl) rfl rfl rfl ?_
    refine Ops.st (.move rfl) rfl rfl rfl ?_
    refine Ops.call ⟨Try.call31⟩ rfl rfl rfl (by repeat' first | exact Takes.nil _ | exact TakeP.here _ | apply TakeP.there | apply Takes.cons) (fun F' hF => rrecord_any 4 1 rfl hF.hf hb (hr.mono hF.hf) (hc.mono hF.hf fs) hm) rfl rfl rfl ?_
    rintro u _ ⟨bv', bs', h3, ws, vs, hle, hb', hu, hv, rfl, hd⟩
    refine Ops.st (.assign rfl) rfl rfl rfl ?_
    refine Ops.nil ?_
    refine Ext.seq ?_
    refine Cod.seq ?_
    refine Cod.seq ?_
    refine Cod.region ?_
    refine Ops.st (.move rfl) rfl rfl rfl ?_
    refine Ops.st (.nilCheck rfl) rfl rfl rfl ?_
    refine Ops.st (.fieldAddr rfl fa57_1) rfl rfl rfl ?_
    refine Ops.st (.loadP rfl (by repeat first | exact TakeP.here _ | apply TakeP.there) Try.isAgg4 rfl) rfl rfl rfl ?_
    refine Ops.st (.move rfl) rfl rfl rfl ?_
    refine Ops.splitB (t := 21) rfl (fun h4 => ?_) (fun h4 => ?_)
    ·
      refine Ops.skipG rfl rfl rfl h4 rfl rfl ?_
      refine Ops.skipG rfl rfl rfl h4 rfl rfl ?_
      refine Ops.skipG rfl rfl rfl h4 rfl rfl ?_
      refine Ops.skipG rfl rfl rfl h4 rfl rfl ?_
      refine Ops.skipG rfl rfl rfl h4 rfl rfl ?_
      refine Ops.skipG rfl rfl rfl h4 rfl rfl ?_
      refine Ops.st (.pickT rfl h4 rfl) rfl rfl rfl ?_
      refine Ops.nil ?_
      refine Ext.seq ?_
      refine Cod.condT rfl (by simp) ?_
      refine Cod.seq ?_
      refine Cod.region ?_
      refine Ops.st (.assign rfl) rfl rfl rfl ?_
      refine Ops.st (.assign rfl) rfl rfl rfl ?_
      refine Ops.nil ?_
      refine Ext.seq ?_
      exact Cod.ret (Ext.seqR (Ext.ret2E rfl rfl rfl (Ent.take (ps := [ice h3]) (by repeat' first | exact Takes.nil _ | exact TakeP.here _ | apply TakeP.there | apply Takes.cons)) (⟨h3, _, [], hle, by rw [decM_none h2 h4], by rw [decM_none h2 h4]; exact SlR.nil _ _, by rw [decM_none h2 h4]; exact (by rw [Option.getD_none, ValsR]), rfl⟩)))
    ·
      obtain ⟨w, r, hw⟩ : ∃ w r, decR fs bs = some (w, r) := by cases hq : decR fs bs with | none => rw [hq] at h4; cases h4 | some p => exact ⟨p.1, p.2, rfl⟩
      obtain ⟨rfl, rfl⟩ := hd w r hw
      refine Ops.stG rfl rfl rfl h4 (.move rfl) rfl rfl ?_
      refine Ops.stG rfl rfl rfl h4 (.nilCheck rfl) rfl rfl ?_
      refine Ops.stG rfl rfl rfl h4 (.fieldAddr rfl fa57_0) rfl rfl ?_
      refine Ops.stG rfl rfl rfl h4 (.loadP rfl (by repeat first | exact TakeP.here _ | apply TakeP.there) Try.isAgg26 rfl) rfl rfl ?_
      refine Ops.stG rfl rfl rfl h4 (.len rfl (Rd.ro hb') Try.runUnderlying26) rfl rfl ?_
      refine Ops.stG rfl rfl rfl h4 (.gtr rfl rfl) rfl rfl ?_
      refine Ops.st (.pickF rfl h4 rfl) rfl rfl rfl ?_
      refine Ops.nil ?_
      refine Ext.seq ?_
      refine Cod.condD rfl (fun h5 => ?_) (fun h5 => ?_)
      ·
        refine Cod.seq ?_
        refine Cod.region ?_
        have h6 := decM_more h2 hw (by intro x; rw [x] at h5; simp at h5)
        refine Ops.st (.assign rfl) rfl rfl rfl ?_
        refine Ops.st (.assign rfl) rfl rfl rfl ?_
        refine Ops.nil ?_
        refine Ext.seq ?_
        exact Cod.ret (Ext.seqR (Ext.ret2E rfl rfl rfl (Ent.take (ps := [ice h3]) (by repeat' first | exact Takes.nil _ | exact TakeP.here _ | apply TakeP.there | apply Takes.cons)) (⟨h3, _, [], hle, by rw [h6], by rw [h6]; exact SlR.nil _ _, by rw [h6]; exact (by rw [Option.getD_none, ValsR]), rfl⟩)))
      ·
        refine Cod.skip ?_
        refine Ext.seq ?_
        refine Cod.seq ?_
        refine Cod.region ?_
        obtain rfl := emp_of h5
        have h6 := decM_good h2 hw
        refine Ops.st (.move rfl) rfl rfl rfl ?_
        refine Ops.st (.assign rfl) rfl rfl rfl ?_
        refine Ops.st (.assign rfl) rfl rfl rfl ?_
        refine Ops.nil ?_
        refine Ext.seq ?_
        exact Cod.ret (Ext.ret2E rfl rfl rfl (Ent.take (ps := [ice h3]) (by repeat' first | exact Takes.nil _ | exact TakeP.here _ | apply TakeP.there | apply Takes.cons)) (⟨h3, u, ws, hle, by rw [h6], by rw [h6]; exact hu, by rw [h6]; exact hv, rfl⟩))
end Go.Proofs.Ytacgngfjanlfnaa
