/- LinkStill: a packet that may not be, or is not for it, lets nothing go, and brings nothing. No condition. -/
import Derived.Test.YtjlimnckdblkhaaH
import Derived.Test.YtjlimnckdblkhaaLL
namespace Go.Proofs.Ytjlimnckdblkhaa
open Go

theorem waitingL_any {F : Fr} {b : Nat} {h0 : Hp} {L : LkM} : Spec Try.prog F 23 [.pointer (some ⟨b, 0, none⟩)] [link b h0 L] (fun v hs' => v = .int .i64 L.wait.length ∧ hs' = [link b h0 L]) := by
  refine Spec.open_ (rest := []) (link_open b h0 L) ?_
  rintro ⟨wv, bvs⟩ ⟨hwv, hbs, ok⟩
  dsimp only [lkI, List.cons_append, List.nil_append] at hwv hbs ⊢
  refine Spec.body Try.func23 rfl Try.ntmps23 rfl ?_
  refine Cod.seq ?_
  refine Cod.region ?_
  refine Ops.st (.assign rfl) rfl rfl rfl ?_
  refine Ops.nil ?_
  refine Ext.seq ?_
  refine Cod.seq ?_
  refine Cod.region ?_
  refine Ops.st (.move rfl) rfl rfl rfl ?_
  refine Ops.st (.nilCheck rfl) rfl rfl rfl ?_
  refine Ops.st (.fieldAddr rfl fa73_1) rfl rfl rfl ?_
  refine Ops.st (.loadP rfl (by repeat first | exact TakeP.here _ | apply TakeP.there) Try.isAgg43 rfl) rfl rfl rfl ?_
  refine Ops.st (.len rfl (Rd.vec (v := wv) (by repeat first | exact TakeP.here _ | apply TakeP.there)) Try.runUnderlying43) rfl rfl rfl ?_
  refine Ops.st (.assign rfl) rfl rfl rfl ?_
  refine Ops.nil ?_
  refine Ext.seq ?_
  exact Cod.ret (Ext.retE rfl rfl (Ent.fold (A := link b h0 L) (by repeat' first | exact Takes.nil _ | exact TakeP.here _ | apply TakeP.there | apply Takes.cons) (link_mk hwv hbs ok)) (⟨rfl, rfl⟩))
theorem peerL_any {F : Fr} {b : Nat} {h0 : Hp} {L : LkM} : Spec Try.prog F 24 [.pointer (some ⟨b, 0, none⟩)] [link b h0 L] (fun v hs' => v = .int .i64 L.p ∧ hs' = [link b h0 L]) := by
  refine Spec.open_ (rest := []) (link_open b h0 L) ?_
  rintro ⟨wv, bvs⟩ ⟨hwv, hbs, ok⟩
  dsimp only [lkI, List.cons_append, List.nil_append] at hwv hbs ⊢
  refine Spec.body Try.func24 rfl Try.ntmps24 rfl ?_
  refine Cod.seq ?_
  refine Cod.region ?_
  refine Ops.st (.assign rfl) rfl rfl rfl ?_
  refine Ops.nil ?_
  refine Ext.seq ?_
  refine Cod.seq ?_
  refine Cod.region ?_
  refine Ops.st (.move rfl) rfl rfl rfl ?_
  refine Ops.st (.nilCheck rfl) rfl rfl rfl ?_
  refine Ops.st (.fieldAddr rfl fa73_0) rfl rfl rfl ?_
  refine Ops.st (.fieldAddr rfl fa70_1) rfl rfl rfl ?_
  refine Ops.st (.loadP rfl (by repeat first | exact TakeP.here _ | apply TakeP.there) Try.isAgg3 rfl) rfl rfl rfl ?_
  refine Ops.st (.assign rfl) rfl rfl rfl ?_
  refine Ops.nil ?_
  refine Ext.seq ?_
  exact Cod.ret (Ext.retE rfl rfl (Ent.fold (A := link b h0 L) (by repeat' first | exact Takes.nil _ | exact TakeP.here _ | apply TakeP.there | apply Takes.cons) (link_mk hwv hbs ok)) (⟨rfl, rfl⟩))
theorem LkM.tick_keep (L : LkM) : L.tick.2.p = L.p ∧ L.tick.2.e = L.e ∧ L.tick.2.wait = L.wait := by
  unfold LkM.tick
  split <;> exact ⟨rfl, rfl, rfl⟩
/-- A link of the epoch 5 in which bodies wait, without a peer and with the peer 9. -/
def L5 (ls : List (List UInt8)) : LkM := ⟨5, 0, 1, 0, 1, 0, ls⟩
def L9 (ls : List (List UInt8)) : LkM := ⟨5, 9, 1, 0, 1, 0, ls⟩
theorem L5_ok : (L5 []).Ok := ⟨by decide, by decide, by decide, by decide, by decide, by decide, by decide, fun b h => by cases h⟩
theorem L5_send {ls : List (List UInt8)} {c : List UInt8} (h : ls.length < 16) (hc : ¬ c.length > 1500) : (L5 ls).send c = (0, L5 (ls ++ [c])) := by
  rw [LkM.send, if_neg hc, if_neg (by show ¬ ls.length ≥ 16; omega)]
  rfl
theorem L5_take (ls : List (List UInt8)) : (L5 ls).take ⟨2, 9, 5, 0, 0, []⟩ = ([], [], L9 ls) := by
  rw [LkM.take, if_neg (by intro h; rcases h with h | h; exact absurd h (by decide); exact absurd h (show ¬ (9 : Int) < 0 by decide)), if_neg (by decide), if_pos rfl, if_pos (show (5 : Int) = (L5 ls).e from rfl)]
  simp [LkM.meets, L5, L9]
theorem still_take {L : LkM} {k fr to seq ack : Int} {bs : List UInt8} (he : L.e = 5) (hp : L.p = 9) (h : ¬ (rightB k fr to seq ack bs.length = true ∧ fr ≥ 9 ∧ (k ≠ 3 ∨ (to = 5 ∧ fr = 9)))) :
    (L.take ⟨k, fr, to, seq, ack, bs⟩).1 = [] ∧ (L.take ⟨k, fr, to, seq, ack, bs⟩).2.2 = L ∧ ((L.take ⟨k, fr, to, seq, ack, bs⟩).2.1 = [] ∨ (L.take ⟨k, fr, to, seq, ack, bs⟩).2.1 = [⟨1, 5, 9, 0, 0, []⟩]) := by
  rw [LkM.take]
  dsimp only
  split
  · exact ⟨rfl, rfl, .inl rfl⟩
  · rename_i h1
    have h2 : rightB k fr to seq ack bs.length = true := by cases hq : rightB k fr to seq ack bs.length; exact absurd (.inl hq) h1; rfl
    have h3 : ¬ fr < L.p := fun x => h1 (.inr x)
    have hk : k = 3 := Decidable.byContradiction fun x => h ⟨h2, by omega, .inl x⟩
    have ht : ¬ (to = 5 ∧ fr = 9) := fun x => h ⟨h2, by omega, .inr x⟩
    rw [if_neg (by omega), if_neg (by omega), if_pos (by omega), he, hp]
    exact ⟨rfl, rfl, .inr rfl⟩
theorem Pks.lone {h : Hp} {rows : List (List Value)} {p : PkM} (x : Pks h rows [p]) : ∃ v, rows = [packC p.k p.fr p.to p.seq p.ack v] := by
  cases x with
  | cons hb hr => cases hr; exact ⟨_, rfl⟩

theorem linkStill_any {F : Fr} {lv bv : Value} {lvs : List Value} {ls : List (List UInt8)} {k fr to seq ack : Int} {bs : List UInt8} (hl : SlR F.hf lv 1 ls.length lvs) (hrow : Rows8 F lvs ls) (hr : SlR F.hf bv 1 bs.length (u8s bs)) :
    Spec Try.prog F 8 [lv, .agg (packC k fr to seq ack bv).toArray] [] (fun u _ => u = .bool true) := by
  have hsl : Sl bv := hr.sl
  refine Spec.body Try.func8 rfl Try.ntmps8 rfl ?_
  refine Cod.seq ?_
  refine Cod.region ?_
  refine Ops.ef (.box (cs := packC k fr to seq ack bv) rfl rfl) rfl rfl rfl ?_
  rintro _ _ ⟨pb, rfl, rfl⟩
  refine Ops.st (.assign rfl) rfl rfl rfl ?_
  refine Ops.nil ?_
  refine Ext.seq ?_
  refine Cod.seq ?_
  refine Cod.region ?_
  refine Ops.call ⟨Try.call9⟩ rfl rfl rfl (by repeat' first | exact Takes.nil _ | exact TakeP.here _ | apply TakeP.there | apply Takes.cons) (fun F' hF => awake_any) rfl rfl rfl ?_
  rintro _ _ ⟨rfl, rfl⟩
  refine Ops.st (.assign rfl) rfl rfl rfl ?_
  refine Ops.nil ?_
  refine Ext.seq ?_
  refine Cod.seq ?_
  refine Cod.region ?_
  refine Ops.call ⟨Try.call10⟩ rfl rfl rfl (by repeat' first | exact Takes.nil _ | exact TakeP.here _ | apply TakeP.there | apply Takes.cons) (fun F' hF => new_ok (ep := 5) (by decide)) rfl rfl rfl ?_
  rintro _ _ ⟨b, rfl, rfl⟩
  refine Ops.st (.move rfl) rfl rfl rfl ?_
  refine Ops.st (.extract rfl rfl) rfl rfl rfl ?_
  refine Ops.st (.extract rfl rfl) rfl rfl rfl ?_
  refine Ops.st (.assign rfl) rfl rfl rfl ?_
  refine Ops.st (.assign rfl) rfl rfl rfl ?_
  refine Ops.nil ?_
  refine Ext.seq ?_
  refine Cod.seq ?_
  refine Cod.seq ?_
  refine Cod.region ?_
  refine Ops.st (.move rfl) rfl rfl rfl ?_
  refine Ops.st (.notB rfl) rfl rfl rfl ?_
  refine Ops.st (.move rfl) rfl rfl rfl ?_
  refine Ops.stG rfl rfl rfl rfl (.move rfl) rfl rfl ?_
  refine Ops.stG rfl rfl rfl rfl (.neq rfl rfl) rfl rfl ?_
  refine Ops.st (.pickF rfl rfl rfl) rfl rfl rfl ?_
  refine Ops.st (.move rfl) rfl rfl rfl ?_
  refine Ops.stG rfl rfl rfl rfl (.move rfl) rfl rfl ?_
  refine Ops.stG rfl rfl rfl rfl (.eqPN rfl rfl Try.underlying26) rfl rfl ?_
  refine Ops.st (.pickF rfl rfl rfl) rfl rfl rfl ?_
  refine Ops.st (.move rfl) rfl rfl rfl ?_
  refine Ops.stG rfl rfl rfl rfl (.move rfl) rfl rfl ?_
  refine Ops.stG rfl rfl rfl rfl (.len rfl (Rd.ro hl) Try.runUnderlying43) rfl rfl ?_
  refine Ops.stG rfl rfl rfl rfl (.gtr rfl rfl) rfl rfl ?_
  refine Ops.st (.pickF rfl rfl rfl) rfl rfl rfl ?_
  refine Ops.st (.move rfl) rfl rfl rfl ?_
  refine Ops.splitD (t := 32) rfl (fun h1 => ?_) (fun h1 => ?_)
  ·
    refine Ops.skipG rfl rfl rfl (decide_eq_true h1) rfl rfl ?_
    refine Ops.skipG rfl rfl rfl (decide_eq_true h1) rfl rfl ?_
    refine Ops.skipG rfl rfl rfl (decide_eq_true h1) rfl rfl ?_
    refine Ops.skipG rfl rfl rfl (decide_eq_true h1) rfl rfl ?_
    refine Ops.st (.pickT rfl (decide_eq_true h1) rfl) rfl rfl rfl ?_
    refine Ops.nil ?_
    refine Ext.seq ?_
    refine Cod.condT rfl (by simp) ?_
    refine Cod.seq ?_
    refine Cod.region ?_
    refine Ops.st (.move rfl) rfl rfl rfl ?_
    refine Ops.st (.move rfl) rfl rfl rfl ?_
    refine Ops.stG rfl rfl rfl rfl (.move rfl) rfl rfl ?_
    refine Ops.stG rfl rfl rfl rfl (.eql rfl rfl) rfl rfl ?_
    refine Ops.st (.pickT rfl rfl rfl) rfl rfl rfl ?_
    refine Ops.st (.assign rfl) rfl rfl rfl ?_
    refine Ops.nil ?_
    refine Ext.seq ?_
    exact Cod.ret (Ext.seqR (Ext.ret rfl rfl rfl))
  ·
    refine Ops.stG rfl rfl rfl (decide_eq_false h1) (.fieldAddr rfl fa24_5) rfl rfl ?_
    refine Ops.stG rfl rfl rfl (decide_eq_false h1) (.loadP rfl (by repeat first | exact TakeP.here _ | apply TakeP.there) Try.isAgg22 rfl) rfl rfl ?_
    refine Ops.stG rfl rfl rfl (decide_eq_false h1) (.len rfl (Rd.ro hr) Try.runUnderlying22) rfl rfl ?_
    refine Ops.stG rfl rfl rfl (decide_eq_false h1) (.gtr rfl rfl) rfl rfl ?_
    refine Ops.st (.pickF rfl (decide_eq_false h1) rfl) rfl rfl rfl ?_
    refine Ops.nil ?_
    refine Ext.seq ?_
    refine Cod.condD rfl (fun h2 => ?_) (fun h2 => ?_)
    ·
      refine Cod.seq ?_
      refine Cod.region ?_
      refine Ops.st (.move rfl) rfl rfl rfl ?_
      refine Ops.st (.move rfl) rfl rfl rfl ?_
      refine Ops.stG rfl rfl rfl rfl (.move rfl) rfl rfl ?_
      refine Ops.stG rfl rfl rfl rfl (.eql rfl rfl) rfl rfl ?_
      refine Ops.st (.pickT rfl rfl rfl) rfl rfl rfl ?_
      refine Ops.st (.assign rfl) rfl rfl rfl ?_
      refine Ops.nil ?_
      refine Ext.seq ?_
      exact Cod.ret (Ext.seqR (Ext.ret rfl rfl rfl))
    ·
      refine Cod.skip ?_
      refine Ext.seq ?_
      refine Cod.seq ?_
      refine Cod.seq ?_
      refine Cod.region ?_
      refine Ops.ent (Ent.trans Ent.vecNil (Ent.trans (Ent.fold (A := link b Hp.nil (L5 [])) (by repeat' first | exact Takes.nil _ | exact TakeP.here _ | apply TakeP.there | apply Takes.cons) (link_mk (L := L5 []) Sl.nil .nil L5_ok)) Ent.ice0)) ?_
      refine Ops.st (.assign rfl) rfl rfl rfl ?_
      refine Ops.nil ?_
      refine Ext.seq ?_
      refine Cod.block ?_
      refine Cod.loop (fun g : Nat × Hp => ⟨g.1 ≤ ls.length, [(0, lv), (3, .pointer (some ⟨pb, 0, none⟩)), (6, .pointer (some ⟨b, 0, none⟩)), (8, .int .i64 g.1)], [ice g.2, link b g.2 (L5 (ls.take g.1)), pt pb 24 (packC k fr to seq ack bv)]⟩) (fun g => ls.length - g.1) (0, Hp.nil) (Nat.zero_le _) ⟨rfl, rfl, rfl, rfl, trivial⟩ (Ent.take (by repeat' first | exact Takes.nil _ | exact TakeP.here _ | apply TakeP.there | apply Takes.cons)) ?_
      rintro ⟨i, hh⟩ hi
      dsimp only
      refine Cod.seq ?_
      refine Cod.seq ?_
      refine Cod.region ?_
      dsimp only at hi
      refine Ops.st (.move rfl) rfl rfl rfl ?_
      refine Ops.st (.move rfl) rfl rfl rfl ?_
      refine Ops.st (.len rfl (Rd.ro hl) Try.runUnderlying43) rfl rfl rfl ?_
      refine Ops.st (.lss rfl rfl) rfl rfl rfl ?_
      refine Ops.nil ?_
      refine Ext.seq ?_
      refine Cod.condD rfl (fun h3 => ?_) (fun h3 => ?_)
      ·
        refine Cod.skip ?_
        refine Ext.seq ?_
        refine Cod.seq ?_
        refine Cod.block ?_
        refine Cod.seq ?_
        refine Cod.seq ?_
        refine Cod.region ?_
        obtain ⟨c, hc⟩ : ∃ c, ls[i]? = some c := ⟨ls[i]'(by omega), List.getElem?_eq_getElem (by omega)⟩
        obtain ⟨cv, hcv, hsc⟩ := hrow.get hc
        refine Ops.st (.move rfl) rfl rfl rfl ?_
        refine Ops.st (.move rfl) rfl rfl rfl ?_
        refine Ops.st (.indexAddr (j := i) (off := i) rfl rfl (Rd.ro hl) Try.runUnderlying43 Try.sizeOf22 rfl (by omega) (by omega)) rfl rfl rfl ?_
        refine Ops.st (.load_elem rfl (Rd.ro hl) Try.isAgg22 hcv) rfl rfl rfl ?_
        refine Ops.st (.len rfl (Rd.ro hsc) Try.runUnderlying22) rfl rfl rfl ?_
        refine Ops.st (.gtr rfl rfl) rfl rfl rfl ?_
        refine Ops.nil ?_
        refine Ext.seq ?_
        refine Cod.condD rfl (fun h4 => ?_) (fun h4 => ?_)
        ·
          refine Cod.seq ?_
          refine Cod.region ?_
          refine Ops.st (.assign rfl) rfl rfl rfl ?_
          refine Ops.nil ?_
          refine Ext.seq ?_
          exact Cod.ret (Ext.seqR (Ext.blockR (Ext.seqR (Ext.stopR (Ext.blockR (Ext.seqR (Ext.ret rfl rfl rfl)))))))
        ·
          refine Cod.skip ?_
          refine Ext.seq ?_
          have hsn := L5_send (ls := ls.take i) (c := c) (by rw [List.length_take]; omega) (by omega)
          refine Cod.region ?_
          refine Ops.st (.move rfl) rfl rfl rfl ?_
          refine Ops.st (.move rfl) rfl rfl rfl ?_
          refine Ops.st (.move rfl) rfl rfl rfl ?_
          refine Ops.st (.indexAddr (j := i) (off := i) rfl rfl (Rd.ro hl) Try.runUnderlying43 Try.sizeOf22 rfl (by omega) (by omega)) rfl rfl rfl ?_
          refine Ops.st (.load_elem rfl (Rd.ro hl) Try.isAgg22 hcv) rfl rfl rfl ?_
          refine Ops.call ⟨Try.call18⟩ rfl rfl rfl (by repeat' first | exact Takes.nil _ | exact TakeP.here _ | apply TakeP.there | apply Takes.cons) (fun F' hF => send_any (.inr (hsc.mono hF.hf))) rfl rfl rfl ?_
          rintro _ _ ⟨h5, hle, rfl, rfl⟩
          refine Ops.nil ?_
          refine Ext.block ?_
          refine Ext.seq ?_
          refine Cod.region ?_
          rw [hsn]
          refine Ops.st (.move rfl) rfl rfl rfl ?_
          refine Ops.st (.add rfl rfl (by first | exact IntWalk.i64_in _ (by omega) | rfl)) rfl rfl rfl ?_
          refine Ops.st (.assign rfl) rfl rfl rfl ?_
          refine Ops.nil ?_
          exact Ext.back (i + 1, h5) (by dsimp only; omega) (by dsimp only; omega) ⟨rfl, rfl, rfl, rfl, trivial⟩ (by dsimp only; rw [List.take_add_one, hc]; exact Ent.take (by repeat' first | exact Takes.nil _ | exact TakeP.here _ | apply TakeP.there | apply Takes.cons))
      ·
        refine Cod.exit (Ext.seqX (Ext.stopX (Ext.hit ?_)))
        refine Ext.seq ?_
        refine Cod.seq ?_
        refine Cod.region ?_
        obtain rfl : i = ls.length := by omega
        rw [List.take_length]
        refine Ops.st (.move rfl) rfl rfl rfl ?_
        refine Ops.st (.build1 (os := [0, 1, 2]) (cs := [_, _, _, (.int .i64 0), (.int .i64 0), (.slice none 0 0)]) bs24 rfl rfl rfl (by repeat' first | exact One.nil | apply One.cons rfl | (apply One.cons (Sl.one (by assumption)))) rfl) rfl rfl rfl ?_
        refine Ops.call ⟨Try.call20⟩ rfl rfl rfl (by repeat' first | exact Takes.nil _ | exact TakeP.here _ | apply TakeP.there | apply Takes.cons) (fun F' hF => take_any (k := 2) (fr := 9) (to := 5) (seq := 0) (ack := 0) (body := []) (.inl (SlR.nil _ _))) rfl rfl rfl ?_
        rintro _ _ ⟨h5, u1, u2, bvs, rows, hle, rfl, hu1, hu2, hb1, hp1, rfl⟩
        refine Ops.nil ?_
        refine Ext.seq ?_
        refine Cod.seq ?_
        refine Cod.region ?_
        rw [L5_take]
        refine Ops.st (.move rfl) rfl rfl rfl ?_
        refine Ops.call ⟨Try.call16⟩ rfl rfl rfl (by repeat' first | exact Takes.nil _ | exact TakeP.here _ | apply TakeP.there | apply Takes.cons) (fun F' hF => tick_any (L := L9 ls)) rfl rfl rfl ?_
        rintro _ _ ⟨h6, rows2, hle2, hu3, hp2, rfl⟩
        refine Ops.nil ?_
        refine Ext.seq ?_
        refine Cod.seq ?_
        refine Cod.region ?_
        obtain ⟨hk1, hk2, hk3⟩ := (L9 ls).tick_keep
        generalize hL : (L9 ls).tick.2 = L3 at hk1 hk2 hk3
        refine Ops.st (.loadPA rfl (by repeat first | exact TakeP.here _ | apply TakeP.there) Try.isAgg24 Try.sizeOf24 rfl rfl) rfl rfl rfl ?_
        refine Ops.call ⟨Try.call12⟩ rfl rfl rfl (by repeat' first | exact Takes.nil _ | exact TakeP.here _ | apply TakeP.there | apply Takes.cons) (fun F' hF => right_any (hr.mono hF.hf)) rfl rfl rfl ?_
        rintro _ _ ⟨rfl, rfl⟩
        refine Ops.st (.assign rfl) rfl rfl rfl ?_
        refine Ops.nil ?_
        refine Ext.seq ?_
        refine Cod.seq ?_
        refine Cod.cutK (fun _ : Unit => ⟨¬ (rightB k fr to seq ack bs.length = true ∧ fr ≥ 9 ∧ (k ≠ 3 ∨ (to = 5 ∧ fr = 9))), [(0, lv), (3, .pointer (some ⟨pb, 0, none⟩)), (6, .pointer (some ⟨b, 0, none⟩))], [ice h6, link b h6 L3, pt pb 24 (packC k fr to seq ack bv)]⟩) ?_ ?_
        ·
          refine Cod.seq ?_
          refine Cod.region ?_
          refine Ops.st (.move rfl) rfl rfl rfl ?_
          refine Ops.st (.move rfl) rfl rfl rfl ?_
          refine Ops.splitB (t := 69) rfl (fun r1 => ?_) (fun r1 => ?_)
          ·
            refine Ops.stG rfl rfl rfl r1 (.fieldAddr rfl fa24_1) rfl rfl ?_
            refine Ops.stG rfl rfl rfl r1 (.loadP rfl (by repeat first | exact TakeP.here _ | apply TakeP.there) Try.isAgg3 rfl) rfl rfl ?_
            refine Ops.stG rfl rfl rfl r1 (.geq rfl rfl) rfl rfl ?_
            refine Ops.st (.pickT rfl r1 rfl) rfl rfl rfl ?_
            refine Ops.st (.move rfl) rfl rfl rfl ?_
            refine Ops.splitD (t := 74) rfl (fun f1 => ?_) (fun f1 => ?_)
            ·
              refine Ops.stG rfl rfl rfl (decide_eq_true f1) (.fieldAddr rfl fa24_0) rfl rfl ?_
              refine Ops.stG rfl rfl rfl (decide_eq_true f1) (.loadP rfl (by repeat first | exact TakeP.here _ | apply TakeP.there) Try.isAgg3 rfl) rfl rfl ?_
              refine Ops.stG rfl rfl rfl (decide_eq_true f1) (.neq rfl rfl) rfl rfl ?_
              refine Ops.stG rfl rfl rfl (decide_eq_true f1) (.move rfl) rfl rfl ?_
              refine Ops.splitD (t := 78) rfl (fun k1 => ?_) (fun k1 => ?_)
              ·
                refine Ops.skipG rfl rfl rfl (decide_eq_true k1) rfl rfl ?_
                refine Ops.skipG rfl rfl rfl (decide_eq_true k1) rfl rfl ?_
                refine Ops.skipG rfl rfl rfl (decide_eq_true k1) rfl rfl ?_
                refine Ops.skipG rfl rfl rfl (decide_eq_true k1) rfl rfl ?_
                refine Ops.skipU rfl rfl rfl rfl rfl ?_
                refine Ops.skipU rfl rfl rfl rfl rfl ?_
                refine Ops.skipU rfl rfl rfl rfl rfl ?_
                refine Ops.skipG rfl rfl rfl (decide_eq_true k1) rfl rfl ?_
                refine Ops.stG rfl rfl rfl (decide_eq_true f1) (.pickT rfl (decide_eq_true k1) rfl) rfl rfl ?_
                refine Ops.st (.pickT rfl (decide_eq_true f1) rfl) rfl rfl rfl ?_
                refine Ops.nil ?_
                refine Ext.seq ?_
                refine Cod.condT rfl (by simp) ?_
                refine Cod.seq ?_
                refine Cod.region ?_
                refine Ops.st (.assign rfl) rfl rfl rfl ?_
                refine Ops.nil ?_
                refine Ext.seq ?_
                exact Cod.ret (Ext.stopR (Ext.ret rfl rfl rfl))
              ·
                refine Ops.stG rfl rfl rfl (decide_eq_false k1) (.fieldAddr rfl fa24_2) rfl rfl ?_
                refine Ops.stG rfl rfl rfl (decide_eq_false k1) (.loadP rfl (by repeat first | exact TakeP.here _ | apply TakeP.there) Try.isAgg3 rfl) rfl rfl ?_
                refine Ops.stG rfl rfl rfl (decide_eq_false k1) (.eql rfl rfl) rfl rfl ?_
                refine Ops.stG rfl rfl rfl (decide_eq_false k1) (.move rfl) rfl rfl ?_
                refine Ops.splitD (t := 82) rfl (fun t1 => ?_) (fun t1 => ?_)
                ·
                  refine Ops.stG rfl rfl rfl (decide_eq_true t1) (.fieldAddr rfl fa24_1) rfl rfl ?_
                  refine Ops.stG rfl rfl rfl (decide_eq_true t1) (.loadP rfl (by repeat first | exact TakeP.here _ | apply TakeP.there) Try.isAgg3 rfl) rfl rfl ?_
                  refine Ops.stG rfl rfl rfl (decide_eq_true t1) (.eql rfl rfl) rfl rfl ?_
                  refine Ops.stG rfl rfl rfl (decide_eq_false k1) (.pickT rfl (decide_eq_true t1) rfl) rfl rfl ?_
                  refine Ops.stG rfl rfl rfl (decide_eq_true f1) (.pickF rfl (decide_eq_false k1) rfl) rfl rfl ?_
                  refine Ops.st (.pickT rfl (decide_eq_true f1) rfl) rfl rfl rfl ?_
                  refine Ops.nil ?_
                  refine Ext.seq ?_
                  refine Cod.condD rfl (fun f2 => ?_) (fun f2 => ?_)
                  ·
                    refine Cod.seq ?_
                    refine Cod.region ?_
                    refine Ops.st (.assign rfl) rfl rfl rfl ?_
                    refine Ops.nil ?_
                    refine Ext.seq ?_
                    exact Cod.ret (Ext.stopR (Ext.ret rfl rfl rfl))
                  ·
                    refine Cod.skip ?_
                    exact Ext.at_ () (fun x => by rcases x.2.2 with y | y; exact k1 y; exact f2 y.2) ⟨rfl, rfl, rfl, trivial⟩ (Ent.take (by repeat' first | exact Takes.nil _ | exact TakeP.here _ | apply TakeP.there | apply Takes.cons))
                ·
                  refine Ops.skipG rfl rfl rfl (decide_eq_false t1) rfl rfl ?_
                  refine Ops.skipG rfl rfl rfl (decide_eq_false t1) rfl rfl ?_
                  refine Ops.skipG rfl rfl rfl (decide_eq_false t1) rfl rfl ?_
                  refine Ops.stG rfl rfl rfl (decide_eq_false k1) (.pickF rfl (decide_eq_false t1) rfl) rfl rfl ?_
                  refine Ops.stG rfl rfl rfl (decide_eq_true f1) (.pickF rfl (decide_eq_false k1) rfl) rfl rfl ?_
                  refine Ops.st (.pickT rfl (decide_eq_true f1) rfl) rfl rfl rfl ?_
                  refine Ops.nil ?_
                  refine Ext.seq ?_
                  refine Cod.condF rfl (by simp) ?_
                  refine Cod.skip ?_
                  exact Ext.at_ () (fun x => by rcases x.2.2 with y | y; exact k1 y; exact t1 y.1) ⟨rfl, rfl, rfl, trivial⟩ (Ent.take (by repeat' first | exact Takes.nil _ | exact TakeP.here _ | apply TakeP.there | apply Takes.cons))
            ·
              refine Ops.skipG rfl rfl rfl (decide_eq_false f1) rfl rfl ?_
              refine Ops.skipG rfl rfl rfl (decide_eq_false f1) rfl rfl ?_
              refine Ops.skipG rfl rfl rfl (decide_eq_false f1) rfl rfl ?_
              refine Ops.skipG rfl rfl rfl (decide_eq_false f1) rfl rfl ?_
              refine Ops.skipU rfl rfl rfl rfl rfl ?_
              refine Ops.skipU rfl rfl rfl rfl rfl ?_
              refine Ops.skipU rfl rfl rfl rfl rfl ?_
              refine Ops.skipU rfl rfl rfl rfl rfl ?_
              refine Ops.skipU rfl rfl rfl rfl rfl ?_
              refine Ops.skipU rfl rfl rfl rfl rfl ?_
              refine Ops.skipU rfl rfl rfl rfl rfl ?_
              refine Ops.skipU rfl rfl rfl rfl rfl ?_
              refine Ops.skipG rfl rfl rfl (decide_eq_false f1) rfl rfl ?_
              refine Ops.st (.pickF rfl (decide_eq_false f1) rfl) rfl rfl rfl ?_
              refine Ops.nil ?_
              refine Ext.seq ?_
              refine Cod.condF rfl (by simp) ?_
              refine Cod.skip ?_
              exact Ext.at_ () (fun x => f1 x.2.1) ⟨rfl, rfl, rfl, trivial⟩ (Ent.take (by repeat' first | exact Takes.nil _ | exact TakeP.here _ | apply TakeP.there | apply Takes.cons))
          ·
            refine Ops.skipG rfl rfl rfl r1 rfl rfl ?_
            refine Ops.skipG rfl rfl rfl r1 rfl rfl ?_
            refine Ops.skipG rfl rfl rfl r1 rfl rfl ?_
            refine Ops.st (.pickF rfl r1 rfl) rfl rfl rfl ?_
            refine Ops.st (.move rfl) rfl rfl rfl ?_
            refine Ops.skipG rfl rfl rfl rfl rfl rfl ?_
            refine Ops.skipG rfl rfl rfl rfl rfl rfl ?_
            refine Ops.skipG rfl rfl rfl rfl rfl rfl ?_
            refine Ops.skipG rfl rfl rfl rfl rfl rfl ?_
            refine Ops.skipU rfl rfl rfl rfl rfl ?_
            refine Ops.skipU rfl rfl rfl rfl rfl ?_
            refine Ops.skipU rfl rfl rfl rfl rfl ?_
            refine Ops.skipU rfl rfl rfl rfl rfl ?_
            refine Ops.skipU rfl rfl rfl rfl rfl ?_
            refine Ops.skipU rfl rfl rfl rfl rfl ?_
            refine Ops.skipU rfl rfl rfl rfl rfl ?_
            refine Ops.skipU rfl rfl rfl rfl rfl ?_
            refine Ops.skipG rfl rfl rfl rfl rfl rfl ?_
            refine Ops.st (.pickF rfl rfl rfl) rfl rfl rfl ?_
            refine Ops.nil ?_
            refine Ext.seq ?_
            refine Cod.condF rfl (by simp) ?_
            refine Cod.skip ?_
            exact Ext.at_ () (fun x => by rw [x.1] at r1; cases r1) ⟨rfl, rfl, rfl, trivial⟩ (Ent.take (by repeat' first | exact Takes.nil _ | exact TakeP.here _ | apply TakeP.there | apply Takes.cons))
        ·
          rintro _ hno
          dsimp only
          refine Cod.seq ?_
          refine Cod.region ?_
          obtain ⟨hs1, hs2, hs3⟩ := still_take (L := L3) hk2 hk1 hno
          refine Ops.st (.move rfl) rfl rfl rfl ?_
          refine Ops.st (.loadPA rfl (by repeat first | exact TakeP.here _ | apply TakeP.there) Try.isAgg24 Try.sizeOf24 rfl rfl) rfl rfl rfl ?_
          refine Ops.call ⟨Try.call20⟩ rfl rfl rfl (by repeat' first | exact Takes.nil _ | exact TakeP.here _ | apply TakeP.there | apply Takes.cons) (fun F' hF => take_any (L := L3) (k := k) (fr := fr) (to := to) (seq := seq) (ack := ack) (body := bs) (.inr (hr.mono hF.hf))) rfl rfl rfl ?_
          rintro _ _ ⟨h7, u4, u5, bvs2, rows3, hle3, rfl, hu4, hu5, hb2, hp3, rfl⟩
          rw [hs1, hs2]
          generalize hps : (L3.take ⟨k, fr, to, seq, ack, bs⟩).2.1 = ps at hs3 hp3
          have hpl : ps.length ≤ 1 := by rcases hs3 with h | h; rw [h]; decide; rw [h]; decide
          refine Ops.st (.move rfl) rfl rfl rfl ?_
          refine Ops.st (.extract rfl rfl) rfl rfl rfl ?_
          refine Ops.st (.extract rfl rfl) rfl rfl rfl ?_
          refine Ops.st (.assign rfl) rfl rfl rfl ?_
          refine Ops.st (.assign rfl) rfl rfl rfl ?_
          refine Ops.nil ?_
          refine Ext.seq ?_
          refine Cod.seq ?_
          refine Cod.region ?_
          refine Ops.st (.move rfl) rfl rfl rfl ?_
          refine Ops.st (.len rfl (Rd.vec (v := u4) (by repeat first | exact TakeP.here _ | apply TakeP.there)) Try.runUnderlying43) rfl rfl rfl ?_
          refine Ops.st (.eql rfl rfl) rfl rfl rfl ?_
          refine Ops.st (.move rfl) rfl rfl rfl ?_
          refine Ops.stG rfl rfl rfl rfl (.move rfl) rfl rfl ?_
          refine Ops.stG rfl rfl rfl rfl (.len rfl (Rd.vec (v := u5) (by repeat first | exact TakeP.here _ | apply TakeP.there)) Try.runUnderlying40) rfl rfl ?_
          refine Ops.stG rfl rfl rfl rfl (.leq rfl rfl) rfl rfl ?_
          refine Ops.st (.pickT rfl rfl rfl) rfl rfl rfl ?_
          refine Ops.st (.move rfl) rfl rfl rfl ?_
          refine Ops.stG rfl rfl rfl (decide_eq_true (by omega)) (.move rfl) rfl rfl ?_
          refine Ops.callG rfl rfl rfl (decide_eq_true (by omega)) ⟨Try.call23⟩ rfl rfl rfl (by repeat' first | exact Takes.nil _ | exact TakeP.here _ | apply TakeP.there | apply Takes.cons) (fun F' hF => waitingL_any) rfl rfl ?_
          rintro _ _ ⟨rfl, rfl⟩
          refine Ops.stG rfl rfl rfl (decide_eq_true (by omega)) (.move rfl) rfl rfl ?_
          refine Ops.stG rfl rfl rfl (decide_eq_true (by omega)) (.len rfl (Rd.ro hl) Try.runUnderlying43) rfl rfl ?_
          refine Ops.stG rfl rfl rfl (decide_eq_true (by omega)) (.eql rfl rfl) rfl rfl ?_
          refine Ops.st (.pickT rfl (decide_eq_true (by omega)) rfl) rfl rfl rfl ?_
          refine Ops.st (.move rfl) rfl rfl rfl ?_
          refine Ops.stG rfl rfl rfl (decide_eq_true (by rw [hk3]; rfl)) (.move rfl) rfl rfl ?_
          refine Ops.callG rfl rfl rfl (decide_eq_true (by rw [hk3]; rfl)) ⟨Try.call24⟩ rfl rfl rfl (by repeat' first | exact Takes.nil _ | exact TakeP.here _ | apply TakeP.there | apply Takes.cons) (fun F' hF => peerL_any) rfl rfl ?_
          rintro _ _ ⟨rfl, rfl⟩
          refine Ops.stG rfl rfl rfl (decide_eq_true (by rw [hk3]; rfl)) (.eql rfl rfl) rfl rfl ?_
          refine Ops.st (.pickT rfl (decide_eq_true (by rw [hk3]; rfl)) rfl) rfl rfl rfl ?_
          refine Ops.st (.move rfl) rfl rfl rfl ?_
          refine Ops.stG rfl rfl rfl (decide_eq_true hk1) (.move rfl) rfl rfl ?_
          refine Ops.stG rfl rfl rfl (decide_eq_true hk1) (.len rfl (Rd.vec (v := u5) (by repeat first | exact TakeP.here _ | apply TakeP.there)) Try.runUnderlying40) rfl rfl ?_
          refine Ops.stG rfl rfl rfl (decide_eq_true hk1) (.eql rfl rfl) rfl rfl ?_
          refine Ops.stG rfl rfl rfl (decide_eq_true hk1) (.move rfl) rfl rfl ?_
          refine Ops.splitD (t := 119) rfl (fun o1 => ?_) (fun o1 => ?_)
          ·
            refine Ops.skipG rfl rfl rfl (decide_eq_true o1) rfl rfl ?_
            refine Ops.skipG rfl rfl rfl (decide_eq_true o1) rfl rfl ?_
            refine Ops.skipG rfl rfl rfl (decide_eq_true o1) rfl rfl ?_
            refine Ops.skipG rfl rfl rfl (decide_eq_true o1) rfl rfl ?_
            refine Ops.skipG rfl rfl rfl (decide_eq_true o1) rfl rfl ?_
            refine Ops.skipG rfl rfl rfl (decide_eq_true o1) rfl rfl ?_
            refine Ops.skipU rfl rfl rfl rfl rfl ?_
            refine Ops.skipU rfl rfl rfl rfl rfl ?_
            refine Ops.skipU rfl rfl rfl rfl rfl ?_
            refine Ops.skipU rfl rfl rfl rfl rfl ?_
            refine Ops.skipU rfl rfl rfl rfl rfl ?_
            refine Ops.skipG rfl rfl rfl (decide_eq_true o1) rfl rfl ?_
            refine Ops.stG rfl rfl rfl (decide_eq_true hk1) (.pickT rfl (decide_eq_true o1) rfl) rfl rfl ?_
            refine Ops.st (.pickT rfl (decide_eq_true hk1) rfl) rfl rfl rfl ?_
            refine Ops.st (.assign rfl) rfl rfl rfl ?_
            refine Ops.nil ?_
            refine Ext.seq ?_
            exact Cod.ret (Ext.ret rfl rfl rfl)
          ·
            obtain rfl : ps = [⟨1, 5, 9, 0, 0, []⟩] := by rcases hs3 with h | h; rw [h] at o1; exact absurd rfl o1; exact h
            obtain ⟨qv, rfl⟩ := hp3.lone
            refine Ops.stG rfl rfl rfl (decide_eq_false o1) (.move rfl) rfl rfl ?_
            refine Ops.stG rfl rfl rfl (decide_eq_false o1) (.indexAddr (j := 0) (off := 0) rfl rfl (Rd.vec (v := u5) (by repeat first | exact TakeP.here _ | apply TakeP.there)) Try.runUnderlying40 Try.sizeOf24 rfl (by decide) rfl) rfl rfl ?_
            refine Ops.stG rfl rfl rfl (decide_eq_false o1) (.fieldAddr_elem (j := 0) rfl (Rd.vec (v := u5) (by repeat first | exact TakeP.here _ | apply TakeP.there)) fa24_0 (by decide) rfl) rfl rfl ?_
            refine Ops.stG rfl rfl rfl (decide_eq_false o1) (.load_elem rfl (Rd.vec (v := u5) (by repeat first | exact TakeP.here _ | apply TakeP.there)) Try.isAgg3 rfl) rfl rfl ?_
            refine Ops.stG rfl rfl rfl (decide_eq_false o1) (.eql rfl rfl) rfl rfl ?_
            refine Ops.stG rfl rfl rfl (decide_eq_false o1) (.move rfl) rfl rfl ?_
            refine Ops.stG rfl rfl rfl rfl (.move rfl) rfl rfl ?_
            refine Ops.stG rfl rfl rfl rfl (.indexAddr (j := 0) (off := 0) rfl rfl (Rd.vec (v := u5) (by repeat first | exact TakeP.here _ | apply TakeP.there)) Try.runUnderlying40 Try.sizeOf24 rfl (by decide) rfl) rfl rfl ?_
            refine Ops.stG rfl rfl rfl rfl (.fieldAddr_elem (j := 2) rfl (Rd.vec (v := u5) (by repeat first | exact TakeP.here _ | apply TakeP.there)) fa24_2 (by decide) rfl) rfl rfl ?_
            refine Ops.stG rfl rfl rfl rfl (.load_elem rfl (Rd.vec (v := u5) (by repeat first | exact TakeP.here _ | apply TakeP.there)) Try.isAgg3 rfl) rfl rfl ?_
            refine Ops.stG rfl rfl rfl rfl (.eql rfl rfl) rfl rfl ?_
            refine Ops.stG rfl rfl rfl (decide_eq_false o1) (.pickT rfl rfl rfl) rfl rfl ?_
            refine Ops.stG rfl rfl rfl (decide_eq_true hk1) (.pickF rfl (decide_eq_false o1) rfl) rfl rfl ?_
            refine Ops.st (.pickT rfl (decide_eq_true hk1) rfl) rfl rfl rfl ?_
            refine Ops.st (.assign rfl) rfl rfl rfl ?_
            refine Ops.nil ?_
            refine Ext.seq ?_
            exact Cod.ret (Ext.ret rfl rfl rfl)
end Go.Proofs.Ytjlimnckdblkhaa
