/- A record out of bytes, Decode: the reference. No condition. -/
import Derived.Test.YtacgngfjanlfnaaPS
namespace Go.Proofs.Ytacgngfjanlfnaa
open Go

theorem crecord_step {d : Nat} (ih : d ≤ 4 → (∀ {F : Fr} {rb : Nat} {bv lv : Value} {bs : List UInt8} {cs : List Value} {fs : List Fld} {m : Nat} {H h0 : Hp}, Hp.le H F.hf → SlR H bv 1 bs.length (u8s bs) → SlR F.hf lv 4 fs.length cs → FldsR F.hf fs cs → mostR (d + 1) fs = some m → Spec Try.prog F 32 [.pointer (some ⟨rb, 0, none⟩), lv] [pt rb 60 [bv, .bool false], ice h0] (RecP H 60 rb h0 fs bs))) {F : Fr} {rb : Nat} {bv lv : Value} {bs : List UInt8} {cs : List Value} {fs : List Fld} {m : Nat} {H h0 : Hp} (hH : Hp.le H F.hf) (hb : SlR H bv 1 bs.length (u8s bs)) (hr : SlR F.hf lv 4 fs.length cs) (hc : FldsR F.hf fs cs) (hm : mostR d fs = some m) :
    Spec Try.prog F 32 [.pointer (some ⟨rb, 0, none⟩), lv] [pt rb 60 [bv, .bool false], ice h0] (RecP H 60 rb h0 fs bs) := by
  have hfl := mostR_few hm
  refine Spec.body Try.func32 rfl Try.ntmps32 rfl ?_
  refine Cod.seq ?_
  refine Cod.region ?_
  refine Ops.st (.assign rfl) rfl rfl rfl ?_
  refine Ops.nil ?_
  refine Ext.seq ?_
  refine Cod.seq ?_
  refine Cod.region ?_
  refine Ops.st (.assign rfl) rfl rfl rfl ?_
  refine Ops.nil ?_
  refine Ext.seq ?_
  refine Cod.seq ?_
  refine Cod.seq ?_
  refine Cod.region ?_
  refine Ops.st (.assign rfl) rfl rfl rfl ?_
  refine Ops.nil ?_
  refine Ext.seq ?_
  refine Cod.block ?_
  refine Cod.loop (fun g : Nat × Bool × Value × List UInt8 × Value × Hp × List Val × List Value => ⟨g.1 ≤ fs.length ∧ Sl g.2.2.2.2.1 ∧ Hp.le h0 g.2.2.2.2.2.1 ∧ SlR H g.2.2.1 1 g.2.2.2.1.length (u8s g.2.2.2.1) ∧ ValsR g.2.2.2.2.2.1 g.2.2.2.2.2.2.1 g.2.2.2.2.2.2.2 ∧ g.2.2.2.2.2.2.1.length = g.1 ∧ (g.2.1 = false → decR fs bs = cont g.2.2.2.2.2.2.1 (decR (fs.drop g.1) g.2.2.2.1)) ∧ (g.2.1 = true → decR fs bs = none), [(0, .pointer (some ⟨rb, 0, none⟩)), (1, lv), (5, g.2.2.2.2.1), (6, .int .i64 g.1)], [pt rb 60 [g.2.2.1, .bool g.2.1], vec g.2.2.2.2.1 40 3 g.1 g.2.2.2.2.2.2.2, ice g.2.2.2.2.2.1]⟩) (fun g => fs.length - g.1) (0, false, bv, bs, .slice none 0 0, h0, [], []) ⟨Nat.zero_le _, Sl.nil, Hp.le_rfl _, hb, by rw [ValsR], rfl, fun _ => cont_nil _, fun h => by cases h⟩ ⟨rfl, rfl, rfl, rfl, trivial⟩ ((Ent.vecNil (T := 40) (sz := 3)).trans (Ent.take (by repeat' first | exact Takes.nil _ | exact TakeP.here _ | apply TakeP.there | apply Takes.cons))) ?_
  rintro ⟨i, am, bvi, bsi, ou, hh, vals, oc⟩ ⟨hi, hou, hle, hbi, hvals, hvl, he1, he2⟩
  dsimp only
  refine Cod.seq ?_
  refine Cod.seq ?_
  refine Cod.region ?_
  dsimp only at hi hou hle hbi hvals hvl he1 he2
  refine Ops.st (.move rfl) rfl rfl rfl ?_
  refine Ops.st (.move rfl) rfl rfl rfl ?_
  refine Ops.st (.len rfl (Rd.ro hr) Try.runUnderlying22) rfl rfl rfl ?_
  refine Ops.st (.lss rfl rfl) rfl rfl rfl ?_
  refine Ops.st (.move rfl) rfl rfl rfl ?_
  refine Ops.splitD (t := 15) rfl (fun h4 => ?_) (fun h4 => ?_)
  ·
    refine Ops.stG rfl rfl rfl (decide_eq_true h4) (.move rfl) rfl rfl ?_
    refine Ops.stG rfl rfl rfl (decide_eq_true h4) (.nilCheck rfl) rfl rfl ?_
    refine Ops.stG rfl rfl rfl (decide_eq_true h4) (.fieldAddr rfl fa60_1) rfl rfl ?_
    refine Ops.stG rfl rfl rfl (decide_eq_true h4) (.loadP rfl (by repeat first | exact TakeP.here _ | apply TakeP.there) Try.isAgg4 rfl) rfl rfl ?_
    refine Ops.stG rfl rfl rfl (decide_eq_true h4) (.notB rfl) rfl rfl ?_
    refine Ops.st (.pickT rfl (decide_eq_true h4) rfl) rfl rfl rfl ?_
    refine Ops.nil ?_
    refine Ext.seq ?_
    refine Cod.cond rfl (fun h5 => ?_) (fun h5 => ?_)
    ·
      refine Cod.skip ?_
      refine Ext.seq ?_
      refine Cod.seq ?_
      refine Cod.block ?_
      refine Cod.seq ?_
      refine Cod.region ?_
      obtain rfl : am = false := by cases am; rfl; cases h5
      obtain ⟨k, mn, mx, of, hf⟩ : ∃ k mn mx of, fs[i]? = some (.mk k mn mx of) := by rcases he : fs[i]'(by omega) with ⟨k, mn, mx, of⟩; exact ⟨k, mn, mx, of, by rw [List.getElem?_eq_getElem (by omega), he]⟩
      obtain ⟨ov, ocs, hrow, hor, hoc⟩ := hc.get hf
      obtain ⟨hk, hd4, hsub⟩ := mostR_sub hm hf
      obtain ⟨hmn, hmx⟩ := mostR_fld hm hf
      have hov := hor.sl
      have he := he1 rfl
      rw [drop_get hf] at he
      refine Ops.st (.move rfl) rfl rfl rfl ?_
      refine Ops.st (.move rfl) rfl rfl rfl ?_
      refine Ops.st (.indexAddr (j := i) (off := i * 4) rfl rfl (Rd.ro hr) Try.runUnderlying22 Try.sizeOf37 rfl (by omega) rfl) rfl rfl rfl ?_
      refine Ops.st (.load_elemA (ds := [.int .i64 k, W64 mn, W64 mx, ov]) rfl (Rd.ro hr) Try.isAgg37 Try.sizeOf37 (by omega) rfl (row_at hrow)) rfl rfl rfl ?_
      refine Ops.ef (.alloc Try.zeroValue37 rfl) rfl rfl rfl ?_
      rintro fb _ ⟨fb, rfl, rfl⟩
      refine Ops.ef10 (.storeA (vs := [.int .i64 k, W64 mn, W64 mx, ov]) (cs' := [.int .i64 k, W64 mn, W64 mx, ov]) rfl rfl (by repeat first | exact TakeP.here _ | apply TakeP.there) Try.sizeOf37 rfl (by decide) (by exact One.cons rfl (One.cons rfl (One.cons rfl (One.cons hov.one One.nil)))) rfl) rfl rfl ?_
      refine Ops.nil ?_
      refine Ext.seq ?_
      refine Cod.seq ?_
      refine Cod.region ?_
      refine Ops.st (.move rfl) rfl rfl rfl ?_
      refine Ops.st (.loadPA rfl (by repeat first | exact TakeP.here _ | apply TakeP.there) Try.isAgg37 Try.sizeOf37 rfl rfl) rfl rfl rfl ?_
      refine Ops.call ⟨Try.call38⟩ rfl rfl rfl (by repeat' first | exact Takes.nil _ | exact TakeP.here _ | apply TakeP.there | apply Takes.cons) (fun F' hF => refTakeN_any hov hmn (Hp.le_tr hH hF.hf) hbi) rfl rfl rfl ?_
      rintro _ _ ⟨z, bv2, bs2, rfl, hz, hb2, rfl, hd⟩
      have hzl := le_nat.1 hz
      refine Ops.st (.assign rfl) rfl rfl rfl ?_
      refine Ops.nil ?_
      refine Ext.seq ?_
      refine Cod.seq ?_
      refine Cod.region ?_
      refine Ops.st (.build1 (os := []) (cs := [(.int .u64 0), (.slice none 0 0), (.slice none 0 0)]) bs40 rfl rfl rfl (by repeat' first | exact One.nil | apply One.cons rfl | (apply One.cons (Sl.one (by assumption)))) rfl) rfl rfl rfl ?_
      refine Ops.ef (.alloc Try.zeroValue40 rfl) rfl rfl rfl ?_
      rintro xb _ ⟨xb, rfl, rfl⟩
      refine Ops.ef10 (.storeA (vs := [W64 0, .slice none 0 0, .slice none 0 0]) (cs' := [W64 0, .slice none 0 0, .slice none 0 0]) rfl rfl (by repeat first | exact TakeP.here _ | apply TakeP.there) Try.sizeOf40 rfl (by decide) (by exact One.cons rfl (One.cons rfl (One.cons rfl One.nil))) rfl) rfl rfl ?_
      refine Ops.nil ?_
      refine Ext.seq ?_
      refine Cod.seq ?_
      refine Cod.cutK (fun g : Bool × Value × List UInt8 × UInt64 × Value × Value × Hp × Val => ⟨Hp.le hh g.2.2.2.2.2.2.1 ∧ SlR H g.2.1 1 g.2.2.1.length (u8s g.2.2.1) ∧ ValR g.2.2.2.2.2.2.1 g.2.2.2.2.2.2.2 [W64 g.2.2.2.1, g.2.2.2.2.1, g.2.2.2.2.2.1] ∧ g.1 = (decF (.mk k mn mx of) bsi).isNone ∧ ∀ w r, decF (.mk k mn mx of) bsi = some (w, r) → g.2.2.2.2.2.2.2 = w ∧ g.2.2.1 = r, [(0, .pointer (some ⟨rb, 0, none⟩)), (1, lv), (5, ou), (6, .int .i64 i), (9, .pointer (some ⟨xb, 0, none⟩))], [pt rb 60 [g.2.1, .bool g.1], pt xb 40 [W64 g.2.2.2.1, g.2.2.2.2.1, g.2.2.2.2.2.1], vec ou 40 3 i oc, ice g.2.2.2.2.2.2.1]⟩) ?_ ?_
      ·
        refine Cod.seq ?_
        refine Cod.region ?_
        refine Ops.st (.fieldAddr rfl fa37_0) rfl rfl rfl ?_
        refine Ops.st (.loadP rfl (by repeat first | exact TakeP.here _ | apply TakeP.there) Try.isAgg3 rfl) rfl rfl rfl ?_
        refine Ops.nil ?_
        refine Ext.seq ?_
        refine Cod.block ?_
        refine Cod.seq ?_
        refine Cod.region ?_
        refine Ops.st (.eql rfl rfl) rfl rfl rfl ?_
        refine Ops.st (.assign rfl) rfl rfl rfl ?_
        refine Ops.nil ?_
        refine Ext.seq ?_
        refine Cod.condD rfl (fun k1 => ?_) (fun k1 => ?_)
        ·
          obtain ⟨hf1, hf2⟩ := decF1 (of := of) k1 hd
          refine Cod.region ?_
          refine Ops.st (.move rfl) rfl rfl rfl ?_
          refine Ops.st (.fieldAddr rfl fa40_0) rfl rfl rfl ?_
          refine Ops.ef10 (.store (cs' := [W64 z, .slice none 0 0, .slice none 0 0]) rfl rfl (by repeat first | exact TakeP.here _ | apply TakeP.there) Try.sizeOf35 rfl rfl rfl) rfl rfl ?_
          refine Ops.nil ?_
          refine Ext.block ?_
          exact Ext.at_ ((numD mn mx bsi).isNone, bv2, bs2, z, .slice none 0 0, .slice none 0 0, hh, .mk z [] []) ⟨Hp.le_rfl _, hb2, by rw [ValR]; exact ⟨_, _, rfl, SlR.nil _ _, [], SlR.nil _ _, by rw [RecsR]⟩, hf1, hf2⟩ ⟨rfl, rfl, rfl, rfl, rfl, trivial⟩ (Ent.take (by repeat' first | exact Takes.nil _ | exact TakeP.here _ | apply TakeP.there | apply Takes.cons))
        ·
          refine Cod.seq ?_
          refine Cod.region ?_
          refine Ops.st (.eql rfl rfl) rfl rfl rfl ?_
          refine Ops.st (.assign rfl) rfl rfl rfl ?_
          refine Ops.nil ?_
          refine Ext.seq ?_
          refine Cod.condD rfl (fun k2 => ?_) (fun k2 => ?_)
          ·
            have hmx2 := hmx (by omega)
            obtain ⟨hf1, hf2⟩ := decF2 (of := of) k2 hmn hd
            have htl := takeM_len (numD mn mx bsi).isNone z.toNat bs2
            refine Cod.region ?_
            refine Ops.ef (.lit1 ei26 rfl rfl rfl (by repeat' first | exact One.nil | apply One.cons rfl | (apply One.cons (Sl.one (by assumption))))) rfl rfl rfl ?_
            rintro e0 _ ⟨he0, rfl⟩
            refine Ops.st (.move rfl) rfl rfl rfl ?_
            refine Ops.st (.move rfl) rfl rfl rfl ?_
            refine Ops.st (.conv rfl Try.runUnderlying35 Try.runUnderlying3 (by first | exact IntWalk.i64_in _ (by omega) | rfl)) rfl rfl rfl ?_
            refine Ops.call ⟨Try.call39⟩ rfl rfl rfl (by repeat' first | exact Takes.nil _ | exact TakeP.here _ | apply TakeP.there | apply Takes.cons) (fun F' hF => refTake_any (n := z.toNat) (Hp.le_tr hH hF.hf) hb2) rfl rfl rfl ?_
            rintro tv _ ⟨bv4, htv, hb4, rfl⟩
            refine Ops.ef (.append (v := e0) rfl rfl (by repeat first | exact TakeP.here _ | apply TakeP.there) (Rd.ro (htv.mono hH)) ei26 (by omega) (by simp only [maxLen]; omega)) rfl rfl rfl ?_
            rintro nv _ ⟨hnv, rfl⟩
            simp only [Nat.zero_add, List.nil_append]
            refine Ops.freeze (v := nv) (by repeat' first | exact Takes.nil _ | exact TakeP.here _ | apply TakeP.there | apply Takes.cons) fun hd2 hle2 hsn => ?_
            refine Ops.st (.fieldAddr rfl fa40_1) rfl rfl rfl ?_
            refine Ops.ef10 (.store (cs' := [W64 0, nv, .slice none 0 0]) rfl rfl (by repeat first | exact TakeP.here _ | apply TakeP.there) Try.sizeOf26 rfl hnv.one rfl) rfl rfl ?_
            refine Ops.nil ?_
            refine Ext.block ?_
            exact Ext.at_ ((takeM (numD mn mx bsi).isNone z.toNat bs2).2.2, bv4, (takeM (numD mn mx bsi).isNone z.toNat bs2).2.1, 0, nv, .slice none 0 0, hd2, .mk 0 (takeM (numD mn mx bsi).isNone z.toNat bs2).1 []) ⟨hle2, hb4, by rw [ValR]; exact ⟨_, _, rfl, hsn, [], SlR.nil _ _, by rw [RecsR]⟩, hf1, hf2⟩ ⟨rfl, rfl, rfl, rfl, rfl, trivial⟩ (Ent.take (by repeat' first | exact Takes.nil _ | exact TakeP.here _ | apply TakeP.there | apply Takes.cons))
          ·
            refine Cod.seq ?_
            refine Cod.region ?_
            refine Ops.st (.eql rfl rfl) rfl rfl rfl ?_
            refine Ops.st (.assign rfl) rfl rfl rfl ?_
            refine Ops.nil ?_
            refine Ext.seq ?_
            refine Cod.condT rfl (decide_eq_true (by omega)) ?_
            refine Cod.seq ?_
            have hmx2 := hmx (by omega)
            obtain ⟨m2, hm2⟩ := hsub (by omega)
            obtain ⟨hf1, hf2⟩ := decF3 (of := of) (k := k) (by omega) hmn hd
            generalize hE : repM (numD mn mx bsi).isNone of z.toNat bs2 = E at hf1 hf2
            generalize hQ : (numD mn mx bsi).isNone = q at hE
            refine Cod.region ?_
            refine Ops.st (.assign rfl) rfl rfl rfl ?_
            refine Ops.nil ?_
            refine Ext.seq ?_
            refine Cod.block ?_
            refine Cod.loop (fun g : Nat × Bool × Value × List UInt8 × Value × Hp × List (List Val) × List Value => ⟨g.1 ≤ z.toNat ∧ Sl g.2.2.2.2.1 ∧ Hp.le hh g.2.2.2.2.2.1 ∧ SlR H g.2.2.1 1 g.2.2.2.1.length (u8s g.2.2.2.1) ∧ RecsR g.2.2.2.2.2.1 g.2.2.2.2.2.2.1 g.2.2.2.2.2.2.2 ∧ g.2.2.2.2.2.2.1.length = g.1 ∧ (g.2.1 = false → E = cont g.2.2.2.2.2.2.1 (rep (fun bs => decR of bs) (z.toNat - g.1) g.2.2.2.1)) ∧ (g.2.1 = true → E = none), [(0, .pointer (some ⟨rb, 0, none⟩)), (1, lv), (5, ou), (6, .int .i64 i), (9, .pointer (some ⟨xb, 0, none⟩)), (7, .pointer (some ⟨fb, 0, none⟩)), (8, W64 z), (10, W64 (UInt64.ofNat g.1))], [pt rb 60 [g.2.2.1, .bool g.2.1], pt xb 40 [W64 0, .slice none 0 0, g.2.2.2.2.1], pt fb 37 [.int .i64 k, W64 mn, W64 mx, ov], vec g.2.2.2.2.1 23 1 g.1 g.2.2.2.2.2.2.2, vec ou 40 3 i oc, ice g.2.2.2.2.2.1]⟩) (fun g => z.toNat - g.1) (0, q, bv2, bs2, .slice none 0 0, hh, [], []) ⟨Nat.zero_le _, Sl.nil, Hp.le_rfl _, hb2, by rw [RecsR], rfl, fun h => by dsimp only at h; rw [← hE, h, repM, if_neg (by decide)]; exact cont_nil _, fun h => by dsimp only at h; rw [← hE, h, repM, if_pos rfl]⟩ ⟨rfl, rfl, rfl, rfl, rfl, rfl, rfl, rfl, trivial⟩ ((Ent.vecNil (T := 23) (sz := 1)).trans (Ent.take (by repeat' first | exact Takes.nil _ | exact TakeP.here _ | apply TakeP.there | apply Takes.cons))) ?_
            rintro ⟨j, aj, bvj, bsj, uv, hj1, l, rows⟩ ⟨hj, huv, hlej, hbj, hl, hll, hj3, hj4⟩
            dsimp only
            refine Cod.seq ?_
            refine Cod.seq ?_
            refine Cod.region ?_
            dsimp only at hj huv hlej hbj hl hll hj3 hj4
            have ej : (UInt64.ofNat j).toNat = j := by rw [UInt64.toNat_ofNat']; omega
            refine Ops.st (.move rfl) rfl rfl rfl ?_
            refine Ops.st (.move rfl) rfl rfl rfl ?_
            refine Ops.st (.lss rfl rfl) rfl rfl rfl ?_
            refine Ops.st (.move rfl) rfl rfl rfl ?_
            refine Ops.splitD (t := 52) rfl (fun h6 => ?_) (fun h6 => ?_)
            ·
              refine Ops.stG rfl rfl rfl (decide_eq_true h6) (.move rfl) rfl rfl ?_
              refine Ops.stG rfl rfl rfl (decide_eq_true h6) (.nilCheck rfl) rfl rfl ?_
              refine Ops.stG rfl rfl rfl (decide_eq_true h6) (.fieldAddr rfl fa60_1) rfl rfl ?_
              refine Ops.stG rfl rfl rfl (decide_eq_true h6) (.loadP rfl (by repeat first | exact TakeP.here _ | apply TakeP.there) Try.isAgg4 rfl) rfl rfl ?_
              refine Ops.stG rfl rfl rfl (decide_eq_true h6) (.notB rfl) rfl rfl ?_
              refine Ops.st (.pickT rfl (decide_eq_true h6) rfl) rfl rfl rfl ?_
              refine Ops.nil ?_
              refine Ext.seq ?_
              refine Cod.cond rfl (fun h7 => ?_) (fun h7 => ?_)
              ·
                refine Cod.skip ?_
                refine Ext.seq ?_
                refine Cod.seq ?_
                refine Cod.block ?_
                obtain rfl : aj = false := by cases aj; rfl; cases h7
                rw [ej] at h6
                have he3 := hj3 rfl
                rw [show z.toNat - j = (z.toNat - (j + 1)) + 1 by omega] at he3
                refine Cod.regionA mixed (by kernel_rfl) (listed := #[false, false, false, false, false, false, false, false, false, false]) ?_
                refine As.take 0 rfl (by kernel_rfl) (by kernel_rfl) (by kernel_rfl) rfl rfl rfl (fun F hs => .fieldAddr rfl fa40_2) (by kernel_rfl) (listed' := #[true, false, false, false, false, false, false, false, false, false]) ?_
                refine As.take 2 rfl (by kernel_rfl) (by kernel_rfl) (by kernel_rfl) rfl rfl rfl (fun F hs => .move rfl) (by kernel_rfl) (listed' := #[true, false, true, false, false, false, false, false, false, false]) ?_
                refine As.take 3 rfl (by kernel_rfl) (by kernel_rfl) (by kernel_rfl) rfl rfl rfl (fun F hs => .fieldAddr rfl fa37_3) (by kernel_rfl) (listed' := #[true, false, true, true, false, false, false, false, false, false]) ?_
                refine As.two (i := 1) (j := 4) (by kernel_rfl) ?_ ?_
                ·
                  refine Ao.st rfl (.loadP rfl (by repeat first | exact TakeP.here _ | apply TakeP.there) Try.isAgg38 rfl) rfl rfl rfl (by kernel_rfl) (listed' := #[true, true, true, true, false, false, false, false, false, false]) ?_
                  refine As.one (i := 4) (by kernel_rfl) ?_
                  refine Ao.st rfl (.loadP rfl (by repeat first | exact TakeP.here _ | apply TakeP.there) Try.isAgg22 rfl) rfl rfl rfl (by kernel_rfl) (listed' := #[true, true, true, true, true, false, false, false, false, false]) ?_
                  refine As.one (i := 5) (by kernel_rfl) ?_
                  refine Ao.call rfl ⟨Try.call32⟩ rfl rfl rfl (by repeat' first | exact Takes.nil _ | exact TakeP.here _ | apply TakeP.there | apply Takes.cons) (fun F' hF => ih hd4 (Hp.le_tr hH hF.hf) hbj (hor.mono hF.hf) (hoc.mono hF.hf of) hm2) rfl rfl rfl (by kernel_rfl) (listed' := #[true, true, true, true, true, true, false, false, false, false]) ?_
                  rintro rv _ ⟨bv4, bs4, h8, ws, r, hle4, hb4, hr4, hv4, rfl, hdec⟩
                  refine As.one (i := 6) (by kernel_rfl) ?_
                  refine Ao.ef rfl (.lit1 ei38 rfl rfl rfl (One.cons hr4.sl.one One.nil)) rfl rfl rfl (by kernel_rfl) (listed' := #[true, true, true, true, true, true, true, false, false, false]) ?_
                  rintro l2 _ ⟨hl2, rfl⟩
                  refine As.one (i := 7) (by kernel_rfl) ?_
                  refine Ao.ef rfl (.append (v := uv) rfl rfl (by repeat first | exact TakeP.here _ | apply TakeP.there) (Rd.vec (v := l2) (by repeat first | exact TakeP.here _ | apply TakeP.there)) ei38 (by omega) (by simp only [maxLen]; omega)) rfl rfl rfl (by kernel_rfl) (listed' := #[true, true, true, true, true, true, true, true, false, false]) ?_
                  rintro nv _ ⟨hnv, rfl⟩
                  refine As.take 8 rfl (by kernel_rfl) (by kernel_rfl) (by kernel_rfl) rfl rfl rfl (fun F hs => .fieldAddr rfl fa40_2) (by kernel_rfl) (listed' := #[true, true, true, true, true, true, true, true, true, false]) ?_
                  refine As.one (i := 9) (by kernel_rfl) ?_
                  refine Ao.ef10 rfl (.store (cs' := [W64 0, .slice none 0 0, nv]) rfl rfl (by repeat first | exact TakeP.here _ | apply TakeP.there) Try.sizeOf38 rfl hnv.one rfl) rfl rfl (by kernel_rfl) (listed' := #[true, true, true, true, true, true, true, true, true, true]) ?_
                  refine As.done (by kernel_rfl) ?_
                  refine Ext.block ?_
                  refine Ext.seq ?_
                  refine Cod.region ?_
                  refine Ops.st (.move rfl) rfl rfl rfl ?_
                  refine Ops.st (.addW64 rfl (show _ = some (W64 1) from rfl)) rfl rfl rfl ?_
                  refine Ops.st (.assign rfl) rfl rfl rfl ?_
                  refine Ops.nil ?_
                  exact Ext.back (j + 1, (decR of bsj).isNone, bv4, bs4, nv, h8, l ++ [r], rows ++ [rv]) (by dsimp only; omega) ⟨by dsimp only; omega, hnv, Hp.le_tr hlej hle4, hb4, RecsR.snoc hr4 hv4 (hl.mono hle4 _), by dsimp only; rw [List.length_append, hll]; rfl, (dec_step he3 hdec).1, (dec_step he3 hdec).2⟩ ⟨rfl, rfl, rfl, rfl, rfl, rfl, rfl, by dsimp only; rw [UInt64.ofNat_add]; rfl, trivial⟩ (by dsimp only; exact Ent.take (by repeat' first | exact Takes.nil _ | exact TakeP.here _ | apply TakeP.there | apply Takes.cons))
                ·
                  refine Ao.st rfl (.loadP rfl (by repeat first | exact TakeP.here _ | apply TakeP.there) Try.isAgg22 rfl) rfl rfl rfl (by kernel_rfl) (listed' := #[true, false, true, true, true, false, false, false, false, false]) ?_
                  refine As.two (i := 1) (j := 5) (by kernel_rfl) ?_ ?_
                  ·
                    refine Ao.st rfl (.loadP rfl (by repeat first | exact TakeP.here _ | apply TakeP.there) Try.isAgg38 rfl) rfl rfl rfl (by kernel_rfl) (listed' := #[true, true, true, true, true, false, false, false, false, false]) ?_
                    refine As.one (i := 5) (by kernel_rfl) ?_
                    refine Ao.call rfl ⟨Try.call32⟩ rfl rfl rfl (by repeat' first | exact Takes.nil _ | exact TakeP.here _ | apply TakeP.there | apply Takes.cons) (fun F' hF => ih hd4 (Hp.le_tr hH hF.hf) hbj (hor.mono hF.hf) (hoc.mono hF.hf of) hm2) rfl rfl rfl (by kernel_rfl) (listed' := #[true, true, true, true, true, true, false, false, false, false]) ?_
                    rintro rv _ ⟨bv4, bs4, h8, ws, r, hle4, hb4, hr4, hv4, rfl, hdec⟩
                    refine As.one (i := 6) (by kernel_rfl) ?_
                    refine Ao.ef rfl (.lit1 ei38 rfl rfl rfl (One.cons hr4.sl.one One.nil)) rfl rfl rfl (by kernel_rfl) (listed' := #[true, true, true, true, true, true, true, false, false, false]) ?_
                    rintro l2 _ ⟨hl2, rfl⟩
                    refine As.one (i := 7) (by kernel_rfl) ?_
                    refine Ao.ef rfl (.append (v := uv) rfl rfl (by repeat first | exact TakeP.here _ | apply TakeP.there) (Rd.vec (v := l2) (by repeat first | exact TakeP.here _ | apply TakeP.there)) ei38 (by omega) (by simp only [maxLen]; omega)) rfl rfl rfl (by kernel_rfl) (listed' := #[true, true, true, true, true, true, true, true, false, false]) ?_
                    rintro nv _ ⟨hnv, rfl⟩
                    refine As.take 8 rfl (by kernel_rfl) (by kernel_rfl) (by kernel_rfl) rfl rfl rfl (fun F hs => .fieldAddr rfl fa40_2) (by kernel_rfl) (listed' := #[true, true, true, true, true, true, true, true, true, false]) ?_
                    refine As.one (i := 9) (by kernel_rfl) ?_
                    refine Ao.ef10 rfl (.store (cs' := [W64 0, .slice none 0 0, nv]) rfl rfl (by repeat first | exact TakeP.here _ | apply TakeP.there) Try.sizeOf38 rfl hnv.one rfl) rfl rfl (by kernel_rfl) (listed' := #[true, true, true, true, true, true, true, true, true, true]) ?_
                    refine As.done (by kernel_rfl) ?_
                    refine Ext.block ?_
                    refine Ext.seq ?_
                    refine Cod.region ?_
                    refine Ops.st (.move rfl) rfl rfl rfl ?_
                    refine Ops.st (.addW64 rfl (show _ = some (W64 1) from rfl)) rfl rfl rfl ?_
                    refine Ops.st (.assign rfl) rfl rfl rfl ?_
                    refine Ops.nil ?_
                    exact Ext.back (j + 1, (decR of bsj).isNone, bv4, bs4, nv, h8, l ++ [r], rows ++ [rv]) (by dsimp only; omega) ⟨by dsimp only; omega, hnv, Hp.le_tr hlej hle4, hb4, RecsR.snoc hr4 hv4 (hl.mono hle4 _), by dsimp only; rw [List.length_append, hll]; rfl, (dec_step he3 hdec).1, (dec_step he3 hdec).2⟩ ⟨rfl, rfl, rfl, rfl, rfl, rfl, rfl, by dsimp only; rw [UInt64.ofNat_add]; rfl, trivial⟩ (by dsimp only; exact Ent.take (by repeat' first | exact Takes.nil _ | exact TakeP.here _ | apply TakeP.there | apply Takes.cons))
                  ·
                    refine Ao.call rfl ⟨Try.call32⟩ rfl rfl rfl (by repeat' first | exact Takes.nil _ | exact TakeP.here _ | apply TakeP.there | apply Takes.cons) (fun F' hF => ih hd4 (Hp.le_tr hH hF.hf) hbj (hor.mono hF.hf) (hoc.mono hF.hf of) hm2) rfl rfl rfl (by kernel_rfl) (listed' := #[true, false, true, true, true, true, false, false, false, false]) ?_
                    rintro rv _ ⟨bv4, bs4, h8, ws, r, hle4, hb4, hr4, hv4, rfl, hdec⟩
                    refine As.two (i := 1) (j := 6) (by kernel_rfl) ?_ ?_
                    ·
                      refine Ao.st rfl (.loadP rfl (by repeat first | exact TakeP.here _ | apply TakeP.there) Try.isAgg38 rfl) rfl rfl rfl (by kernel_rfl) (listed' := #[true, true, true, true, true, true, false, false, false, false]) ?_
                      refine As.one (i := 6) (by kernel_rfl) ?_
                      refine Ao.ef rfl (.lit1 ei38 rfl rfl rfl (One.cons hr4.sl.one One.nil)) rfl rfl rfl (by kernel_rfl) (listed' := #[true, true, true, true, true, true, true, false, false, false]) ?_
                      rintro l2 _ ⟨hl2, rfl⟩
                      refine As.one (i := 7) (by kernel_rfl) ?_
                      refine Ao.ef rfl (.append (v := uv) rfl rfl (by repeat first | exact TakeP.here _ | apply TakeP.there) (Rd.vec (v := l2) (by repeat first | exact TakeP.here _ | apply TakeP.there)) ei38 (by omega) (by simp only [maxLen]; omega)) rfl rfl rfl (by kernel_rfl) (listed' := #[true, true, true, true, true, true, true, true, false, false]) ?_
                      rintro nv _ ⟨hnv, rfl⟩
                      refine As.take 8 rfl (by kernel_rfl) (by kernel_rfl) (by kernel_rfl) rfl rfl rfl (fun F hs => .fieldAddr rfl fa40_2) (by kernel_rfl) (listed' := #[true, true, true, true, true, true, true, true, true, false]) ?_
                      refine As.one (i := 9) (by kernel_rfl) ?_
                      refine Ao.ef10 rfl (.store (cs' := [W64 0, .slice none 0 0, nv]) rfl rfl (by repeat first | exact TakeP.here _ | apply TakeP.there) Try.sizeOf38 rfl hnv.one rfl) rfl rfl (by kernel_rfl) (listed' := #[true, true, true, true, true, true, true, true, true, true]) ?_
                      refine As.done (by kernel_rfl) ?_
                      refine Ext.block ?_
                      refine Ext.seq ?_
                      refine Cod.region ?_
                      refine Ops.st (.move rfl) rfl rfl rfl ?_
                      refine Ops.st (.addW64 rfl (show _ = some (W64 1) from rfl)) rfl rfl rfl ?_
                      refine Ops.st (.assign rfl) rfl rfl rfl ?_
                      refine Ops.nil ?_
                      exact Ext.back (j + 1, (decR of bsj).isNone, bv4, bs4, nv, h8, l ++ [r], rows ++ [rv]) (by dsimp only; omega) ⟨by dsimp only; omega, hnv, Hp.le_tr hlej hle4, hb4, RecsR.snoc hr4 hv4 (hl.mono hle4 _), by dsimp only; rw [List.length_append, hll]; rfl, (dec_step he3 hdec).1, (dec_step he3 hdec).2⟩ ⟨rfl, rfl, rfl, rfl, rfl, rfl, rfl, by dsimp only; rw [UInt64.ofNat_add]; rfl, trivial⟩ (by dsimp only; exact Ent.take (by repeat' first | exact Takes.nil _ | exact TakeP.here _ | apply TakeP.there | apply Takes.cons))
                    ·
                      refine Ao.ef rfl (.lit1 ei38 rfl rfl rfl (One.cons hr4.sl.one One.nil)) rfl rfl rfl (by kernel_rfl) (listed' := #[true, false, true, true, true, true, true, false, false, false]) ?_
                      rintro l2 _ ⟨hl2, rfl⟩
                      refine As.one (i := 1) (by kernel_rfl) ?_
                      refine Ao.st rfl (.loadP rfl (by repeat first | exact TakeP.here _ | apply TakeP.there) Try.isAgg38 rfl) rfl rfl rfl (by kernel_rfl) (listed' := #[true, true, true, true, true, true, true, false, false, false]) ?_
                      refine As.one (i := 7) (by kernel_rfl) ?_
                      refine Ao.ef rfl (.append (v := uv) rfl rfl (by repeat first | exact TakeP.here _ | apply TakeP.there) (Rd.vec (v := l2) (by repeat first | exact TakeP.here _ | apply TakeP.there)) ei38 (by omega) (by simp only [maxLen]; omega)) rfl rfl rfl (by kernel_rfl) (listed' := #[true, true, true, true, true, true, true, true, false, false]) ?_
                      rintro nv _ ⟨hnv, rfl⟩
                      refine As.take 8 rfl (by kernel_rfl) (by kernel_rfl) (by kernel_rfl) rfl rfl rfl (fun F hs => .fieldAddr rfl fa40_2) (by kernel_rfl) (listed' := #[true, true, true, true, true, true, true, true, true, false]) ?_
                      refine As.one (i := 9) (by kernel_rfl) ?_
                      refine Ao.ef10 rfl (.store (cs' := [W64 0, .slice none 0 0, nv]) rfl rfl (by repeat first | exact TakeP.here _ | apply TakeP.there) Try.sizeOf38 rfl hnv.one rfl) rfl rfl (by kernel_rfl) (listed' := #[true, true, true, true, true, true, true, true, true, true]) ?_
                      refine As.done (by kernel_rfl) ?_
                      refine Ext.block ?_
                      refine Ext.seq ?_
                      refine Cod.region ?_
                      refine Ops.st (.move rfl) rfl rfl rfl ?_
                      refine Ops.st (.addW64 rfl (show _ = some (W64 1) from rfl)) rfl rfl rfl ?_
                      refine Ops.st (.assign rfl) rfl rfl rfl ?_
                      refine Ops.nil ?_
                      exact Ext.back (j + 1, (decR of bsj).isNone, bv4, bs4, nv, h8, l ++ [r], rows ++ [rv]) (by dsimp only; omega) ⟨by dsimp only; omega, hnv, Hp.le_tr hlej hle4, hb4, RecsR.snoc hr4 hv4 (hl.mono hle4 _), by dsimp only; rw [List.length_append, hll]; rfl, (dec_step he3 hdec).1, (dec_step he3 hdec).2⟩ ⟨rfl, rfl, rfl, rfl, rfl, rfl, rfl, by dsimp only; rw [UInt64.ofNat_add]; rfl, trivial⟩ (by dsimp only; exact Ent.take (by repeat' first | exact Takes.nil _ | exact TakeP.here _ | apply TakeP.there | apply Takes.cons))
              ·
                refine Cod.exit (Ext.seqX (Ext.stopX (Ext.hit ?_)))
                refine Ext.block ?_
                have h9 : aj = true := by cases aj; cases h7; rfl
                refine Ext.freeze (v := uv) (by repeat' first | exact Takes.nil _ | exact TakeP.here _ | apply TakeP.there | apply Takes.cons) fun hd2 hle2 hsn => ?_
                exact Ext.at_ (aj, bvj, bsj, 0, .slice none 0 0, uv, hd2, .mk 0 [] l) ⟨Hp.le_tr hlej hle2, hbj, by rw [ValR]; exact ⟨_, _, rfl, SlR.nil _ _, rows, by rw [hll]; exact hsn, hl.mono hle2 _⟩, by rw [← hf1, hj4 h9, h9]; rfl, fun w r h => by obtain ⟨l', e1, _⟩ := hf2 w r h; rw [hj4 h9] at e1; cases e1⟩ ⟨rfl, rfl, rfl, rfl, rfl, trivial⟩ (Ent.take (by repeat' first | exact Takes.nil _ | exact TakeP.here _ | apply TakeP.there | apply Takes.cons))
            ·
              refine Ops.skipG rfl rfl rfl (decide_eq_false h6) rfl rfl ?_
              refine Ops.skipG rfl rfl rfl (decide_eq_false h6) rfl rfl ?_
              refine Ops.skipG rfl rfl rfl (decide_eq_false h6) rfl rfl ?_
              refine Ops.skipG rfl rfl rfl (decide_eq_false h6) rfl rfl ?_
              refine Ops.skipG rfl rfl rfl (decide_eq_false h6) rfl rfl ?_
              refine Ops.st (.pickF rfl (decide_eq_false h6) rfl) rfl rfl rfl ?_
              refine Ops.nil ?_
              refine Ext.seq ?_
              refine Cod.condF rfl (by simp) ?_
              refine Cod.exit (Ext.seqX (Ext.stopX (Ext.hit ?_)))
              refine Ext.block ?_
              rw [ej] at h6
              obtain rfl : j = z.toNat := by omega
              rw [Nat.sub_self, rep] at hj3
              obtain ⟨hd5, hd6⟩ := done_is (fun h => (hj3 h).trans (cont_end l bsj)) hj4
              refine Ext.freeze (v := uv) (by repeat' first | exact Takes.nil _ | exact TakeP.here _ | apply TakeP.there | apply Takes.cons) fun hd2 hle2 hsn => ?_
              exact Ext.at_ (aj, bvj, bsj, 0, .slice none 0 0, uv, hd2, .mk 0 [] l) ⟨Hp.le_tr hlej hle2, hbj, by rw [ValR]; exact ⟨_, _, rfl, SlR.nil _ _, rows, by rw [hll]; exact hsn, hl.mono hle2 _⟩, by rw [← hf1]; exact hd5, fun w r h => by obtain ⟨l', e1, e2⟩ := hf2 w r h; obtain ⟨e3, e4⟩ := hd6 l' r e1; dsimp only; rw [e2, e3]; exact ⟨rfl, e4⟩⟩ ⟨rfl, rfl, rfl, rfl, rfl, trivial⟩ (Ent.take (by repeat' first | exact Takes.nil _ | exact TakeP.here _ | apply TakeP.there | apply Takes.cons))
      ·
        rintro ⟨q3, bv3, bs3, n, xv, yv, h3, v⟩ ⟨hle3, hb3, hval, hq3, hd3⟩
        dsimp only
        refine Cod.region ?_
        dsimp only at hle3 hb3 hval hq3 hd3
        obtain ⟨hxv, hyv⟩ := hval.sls
        obtain ⟨hn1, hn2⟩ := dec_step' he hd3
        refine Ops.st (.move rfl) rfl rfl rfl ?_
        refine Ops.st (.loadPA rfl (by repeat first | exact TakeP.here _ | apply TakeP.there) Try.isAgg40 Try.sizeOf40 rfl rfl) rfl rfl rfl ?_
        refine Ops.ef (.lit (xs := [_, _, _]) ei23 rfl rfl rfl rfl (by repeat' first | exact allSz_nil | apply allSz_cons rfl) rfl (by repeat' first | exact One.nil | apply One.cons rfl | (apply One.cons (Sl.one (by assumption))))) rfl rfl rfl ?_
        rintro sv _ ⟨hsv, rfl⟩
        refine Ops.ef (.append (v := ou) rfl rfl (by repeat first | exact TakeP.here _ | apply TakeP.there) (Rd.vec (v := sv) (by repeat first | exact TakeP.here _ | apply TakeP.there)) ei23 (by omega) (by simp only [maxLen]; omega)) rfl rfl rfl ?_
        rintro ou2 _ ⟨hou2, rfl⟩
        refine Ops.st (.assign rfl) rfl rfl rfl ?_
        refine Ops.nil ?_
        refine Ext.block ?_
        refine Ext.seq ?_
        refine Cod.region ?_
        refine Ops.st (.move rfl) rfl rfl rfl ?_
        refine Ops.st (.add rfl rfl (by first | exact IntWalk.i64_in _ (by omega) | rfl)) rfl rfl rfl ?_
        refine Ops.st (.assign rfl) rfl rfl rfl ?_
        refine Ops.nil ?_
        exact Ext.back (i + 1, q3, bv3, bs3, ou2, h3, vals ++ [v], oc ++ [W64 n, xv, yv]) (by dsimp only; omega) ⟨by dsimp only; omega, hou2, Hp.le_tr hle hle3, hb3, ValsR.snoc hval (hvals.mono hle3 _), by dsimp only; rw [List.length_append, hvl]; rfl, fun h => hn1 (by rw [← hq3]; exact h), fun h => hn2 (by rw [← hq3]; exact h)⟩ ⟨rfl, rfl, rfl, rfl, trivial⟩ (by dsimp only; exact Ent.take (by repeat' first | exact Takes.nil _ | exact TakeP.here _ | apply TakeP.there | apply Takes.cons))
    ·
      refine Cod.exit (Ext.seqX (Ext.stopX (Ext.hit ?_)))
      refine Ext.seq ?_
      refine Cod.seq ?_
      refine Cod.region ?_
      have h9 : am = true := by cases am; cases h5; rfl
      refine Ops.freeze (v := ou) (by repeat' first | exact Takes.nil _ | exact TakeP.here _ | apply TakeP.there | apply Takes.cons) fun hd hle2 hsn => ?_
      refine Ops.st (.move rfl) rfl rfl rfl ?_
      refine Ops.st (.assign rfl) rfl rfl rfl ?_
      refine Ops.nil ?_
      refine Ext.seq ?_
      exact Cod.ret (Ext.retE rfl rfl (Ent.take (ps := [pt rb 60 [bvi, .bool am], ice hd]) (by repeat' first | exact Takes.nil _ | exact TakeP.here _ | apply TakeP.there | apply Takes.cons)) (⟨bvi, bsi, hd, oc, vals, Hp.le_tr hle hle2, hbi, by rw [hvl]; exact hsn, hvals.mono hle2 _, by rw [he2 h9, h9]; rfl, fun w r h => (by rw [he2 h9] at h; cases h)⟩))
  ·
    refine Ops.skipG rfl rfl rfl (decide_eq_false h4) rfl rfl ?_
    refine Ops.skipG rfl rfl rfl (decide_eq_false h4) rfl rfl ?_
    refine Ops.skipG rfl rfl rfl (decide_eq_false h4) rfl rfl ?_
    refine Ops.skipG rfl rfl rfl (decide_eq_false h4) rfl rfl ?_
    refine Ops.skipG rfl rfl rfl (decide_eq_false h4) rfl rfl ?_
    refine Ops.st (.pickF rfl (decide_eq_false h4) rfl) rfl rfl rfl ?_
    refine Ops.nil ?_
    refine Ext.seq ?_
    refine Cod.condF rfl (by simp) ?_
    refine Cod.exit (Ext.seqX (Ext.stopX (Ext.hit ?_)))
    refine Ext.seq ?_
    refine Cod.seq ?_
    refine Cod.region ?_
    obtain rfl : i = fs.length := by omega
    rw [List.drop_length, decR] at he1
    obtain ⟨hd5, hd6⟩ := done_is (fun h => (he1 h).trans (cont_end vals bsi)) he2
    refine Ops.freeze (v := ou) (by repeat' first | exact Takes.nil _ | exact TakeP.here _ | apply TakeP.there | apply Takes.cons) fun hd hle2 hsn => ?_
    refine Ops.st (.move rfl) rfl rfl rfl ?_
    refine Ops.st (.assign rfl) rfl rfl rfl ?_
    refine Ops.nil ?_
    refine Ext.seq ?_
    exact Cod.ret (Ext.retE rfl rfl (Ent.take (ps := [pt rb 60 [bvi, .bool am], ice hd]) (by repeat' first | exact Takes.nil _ | exact TakeP.here _ | apply TakeP.there | apply Takes.cons)) (⟨bvi, bsi, hd, oc, vals, Hp.le_tr hle hle2, hbi, by rw [hvl]; exact hsn, hvals.mono hle2 _, by rw [hd5], hd6⟩))
theorem crecord_any : ∀ (q d : Nat), d + q = 5 → ∀ {F : Fr} {rb : Nat} {bv lv : Value} {bs : List UInt8} {cs : List Value} {fs : List Fld} {m : Nat} {H h0 : Hp}, Hp.le H F.hf → SlR H bv 1 bs.length (u8s bs) → SlR F.hf lv 4 fs.length cs → FldsR F.hf fs cs → mostR d fs = some m → Spec Try.prog F 32 [.pointer (some ⟨rb, 0, none⟩), lv] [pt rb 60 [bv, .bool false], ice h0] (RecP H 60 rb h0 fs bs)
  | 0, d, h, _, _, _, _, _, _, _, _, _, _, hH, hb, hr, hc, hm => crecord_step (fun h4 => absurd h4 (by omega)) hH hb hr hc hm
  | q + 1, d, h, _, _, _, _, _, _, _, _, _, _, hH, hb, hr, hc, hm => crecord_step (fun _ {F rb bv lv bs cs fs m H h0} => crecord_any q (d + 1) (by omega)) hH hb hr hc hm
theorem refDecode_any {F : Fr} {lv bv : Value} {bs : List UInt8} {cs : List Value} {fs : List Fld} {h0 : Hp} (hr : SlR F.hf lv 4 fs.length cs) (hc : FldsR F.hf fs cs) (hb : SlR F.hf bv 1 bs.length (u8s bs)) : Spec Try.prog F 23 [lv, bv] [ice h0] (DecP h0 fs bs) := by
  have hbv := hb.sl
  refine Spec.body Try.func23 rfl Try.ntmps23 rfl ?_
  refine Cod.seq ?_
  refine Cod.region ?_
  refine Ops.st (.assign rfl) rfl rfl rfl ?_
  refine Ops.st (.assign rfl) rfl rfl rfl ?_
  refine Ops.nil ?_
  refine Ext.seq ?_
  refine Cod.seq ?_
  refine Cod.region ?_
  refine Ops.st (.move rfl) rfl rfl rfl ?_
  refine Ops.call ⟨Try.call18⟩ rfl rfl rfl (by repeat' first | exact Takes.nil _ | exact TakeP.here _ | apply TakeP.there | apply Takes.cons) (fun F' hF => refRight_any (hr.mono hF.hf) (hc.mono hF.hf fs)) rfl rfl rfl ?_
  rintro _ _ ⟨rfl, rfl⟩
  refine Ops.st (.assign rfl) rfl rfl rfl ?_
  refine Ops.nil ?_
  refine Ext.seq ?_
  refine Cod.seq ?_
  refine Cod.seq ?_
  refine Cod.region ?_
  refine Ops.st (.move rfl) rfl rfl rfl ?_
  refine Ops.st (.notB rfl) rfl rfl rfl ?_
  refine Ops.nil ?_
  refine Ext.seq ?_
  refine Cod.cond rfl (fun h1 => ?_) (fun h1 => ?_)
  ·
    refine Cod.seq ?_
    refine Cod.region ?_
    have h2 : (mostR 1 fs).isSome = false := by cases hq : (mostR 1 fs).isSome; rfl; rw [hq] at h1; cases h1
    refine Ops.st (.assign rfl) rfl rfl rfl ?_
    refine Ops.st (.assign rfl) rfl rfl rfl ?_
    refine Ops.nil ?_
    refine Ext.seq ?_
    exact Cod.ret (Ext.seqR (Ext.ret2 rfl rfl rfl ⟨h0, _, [], Hp.le_rfl _, by rw [decM_bad h2], by rw [decM_bad h2]; exact SlR.nil _ _, by rw [decM_bad h2]; exact (by rw [Option.getD_none, ValsR]), rfl⟩))
  ·
    refine Cod.skip ?_
    refine Ext.seq ?_
    refine Cod.seq ?_
    refine Cod.region ?_
    have h2 : (mostR 1 fs).isSome = true := by cases hq : (mostR 1 fs).isSome; rw [hq] at h1; cases h1; rfl
    obtain ⟨m, hm⟩ := Option.isSome_iff_exists.1 h2
    refine Ops.st (.move rfl) rfl rfl rfl ?_
    refine Ops.st (.build1 (os := [0]) (cs := [_, (.bool false)]) bs60 rfl rfl rfl (by repeat' first | exact One.nil | apply One.cons rfl | (apply One.cons (Sl.one (by assumption)))) rfl) rfl rfl rfl ?_
    refine Ops.ef (.box (cs := [bv, .bool false]) rfl rfl) rfl rfl rfl ?_
    rintro rb _ ⟨rb, rfl, rfl⟩
    refine Ops.st (.assign rfl) rfl rfl rfl ?_
    refine Ops.nil ?_
    refine Ext.seq ?_
    refine Cod.seq ?_
    refine Cod.region ?_
    refine Ops.st (.move rfl) rfl rfl rfl ?_
    refine Ops.st (.move rfl) rfl rfl rfl ?_
    refine Ops.call ⟨Try.call32⟩ rfl rfl rfl (by repeat' first | exact Takes.nil _ | exact TakeP.here _ | apply TakeP.there | apply Takes.cons) (fun F' hF => crecord_any 4 1 rfl hF.hf hb (hr.mono hF.hf) (hc.mono hF.hf fs) hm) rfl rfl rfl ?_
    rintro u _ ⟨bv', bs', h3, ws, vs, hle, hb', hu, hv, rfl, hd⟩
    refine Ops.st (.assign rfl) rfl rfl rfl ?_
    refine Ops.nil ?_
    refine Ext.seq ?_
    refine Cod.seq ?_
    refine Cod.seq ?_
    refine Cod.region ?_
    refine Ops.st (.move rfl) rfl rfl rfl ?_
    refine Ops.st (.nilCheck rfl) rfl rfl rfl ?_
    refine Ops.st (.fieldAddr rfl fa60_1) rfl rfl rfl ?_
    refine Ops.st (.loadP rfl (by repeat first | exact TakeP.here _ | apply TakeP.there) Try.isAgg4 rfl) rfl rfl rfl ?_
    refine Ops.st (.move rfl) rfl rfl rfl ?_
    refine Ops.splitB (t := 23) rfl (fun h4 => ?_) (fun h4 => ?_)
    ·
      refine Ops.skipG rfl rfl rfl h4 rfl rfl ?_
      refine Ops.skipG rfl rfl rfl h4 rfl rfl ?_
      refine Ops.skipG rfl rfl rfl h4 rfl rfl ?_
      refine Ops.skipG rfl rfl rfl h4 rfl rfl ?_
      refine Ops.skipG rfl rfl rfl h4 rfl rfl ?_
      refine Ops.skipG rfl rfl rfl h4 rfl rfl ?_
      refine Ops.st (.pickT rfl h4 rfl) rfl rfl rfl ?_
      refine Ops.nil ?_
      refine Ext.seq ?_
      refine Cod.condT rfl (by simp) ?_
      refine Cod.seq ?_
      refine Cod.region ?_
      refine Ops.st (.assign rfl) rfl rfl rfl ?_
      refine Ops.st (.assign rfl) rfl rfl rfl ?_
      refine Ops.nil ?_
      refine Ext.seq ?_
      exact Cod.ret (Ext.seqR (Ext.ret2E rfl rfl rfl (Ent.take (ps := [ice h3]) (by repeat' first | exact Takes.nil _ | exact TakeP.here _ | apply TakeP.there | apply Takes.cons)) (⟨h3, _, [], hle, by rw [decM_none h2 h4], by rw [decM_none h2 h4]; exact SlR.nil _ _, by rw [decM_none h2 h4]; exact (by rw [Option.getD_none, ValsR]), rfl⟩)))
    ·
      obtain ⟨w, r, hw⟩ : ∃ w r, decR fs bs = some (w, r) := by cases hq : decR fs bs with | none => rw [hq] at h4; cases h4 | some p => exact ⟨p.1, p.2, rfl⟩
      obtain ⟨rfl, rfl⟩ := hd w r hw
      refine Ops.stG rfl rfl rfl h4 (.move rfl) rfl rfl ?_
      refine Ops.stG rfl rfl rfl h4 (.nilCheck rfl) rfl rfl ?_
      refine Ops.stG rfl rfl rfl h4 (.fieldAddr rfl fa60_0) rfl rfl ?_
      refine Ops.stG rfl rfl rfl h4 (.loadP rfl (by repeat first | exact TakeP.here _ | apply TakeP.there) Try.isAgg26 rfl) rfl rfl ?_
      refine Ops.stG rfl rfl rfl h4 (.len rfl (Rd.ro hb') Try.runUnderlying26) rfl rfl ?_
      refine Ops.stG rfl rfl rfl h4 (.gtr rfl rfl) rfl rfl ?_
      refine Ops.st (.pickF rfl h4 rfl) rfl rfl rfl ?_
      refine Ops.nil ?_
      refine Ext.seq ?_
      refine Cod.condD rfl (fun h5 => ?_) (fun h5 => ?_)
      ·
        refine Cod.seq ?_
        refine Cod.region ?_
        have h6 := decM_more h2 hw (by intro x; rw [x] at h5; simp at h5)
        refine Ops.st (.assign rfl) rfl rfl rfl ?_
        refine Ops.st (.assign rfl) rfl rfl rfl ?_
        refine Ops.nil ?_
        refine Ext.seq ?_
        exact Cod.ret (Ext.seqR (Ext.ret2E rfl rfl rfl (Ent.take (ps := [ice h3]) (by repeat' first | exact Takes.nil _ | exact TakeP.here _ | apply TakeP.there | apply Takes.cons)) (⟨h3, _, [], hle, by rw [h6], by rw [h6]; exact SlR.nil _ _, by rw [h6]; exact (by rw [Option.getD_none, ValsR]), rfl⟩)))
      ·
        refine Cod.skip ?_
        refine Ext.seq ?_
        refine Cod.seq ?_
        refine Cod.region ?_
        obtain rfl := emp_of h5
        have h6 := decM_good h2 hw
        refine Ops.st (.move rfl) rfl rfl rfl ?_
        refine Ops.st (.assign rfl) rfl rfl rfl ?_
        refine Ops.st (.assign rfl) rfl rfl rfl ?_
        refine Ops.nil ?_
        refine Ext.seq ?_
        exact Cod.ret (Ext.ret2E rfl rfl rfl (Ent.take (ps := [ice h3]) (by repeat' first | exact Takes.nil _ | exact TakeP.here _ | apply TakeP.there | apply Takes.cons)) (⟨h3, u, ws, hle, by rw [h6], by rw [h6]; exact hu, by rw [h6]; exact hv, rfl⟩))
end Go.Proofs.Ytacgngfjanlfnaa
