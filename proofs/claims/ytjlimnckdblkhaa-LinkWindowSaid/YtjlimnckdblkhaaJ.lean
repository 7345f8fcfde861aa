/- LinkWindow: no more than four bodies are on the way at a time. No condition. -/
import Derived.Test.YtjlimnckdblkhaaI
namespace Go.Proofs.Ytjlimnckdblkhaa
open Go

theorem row_at6 {xs ds : List Value} {o n : Nat} (h : (xs.drop o).take n = ds) (j : Nat) (u : Value) (hu : ds[j]? = some u) : xs[o + j]? = some u := by
  subst h
  rw [List.getElem?_take] at hu
  split at hu
  · rw [List.getElem?_drop] at hu; exact hu
  · cases hu
theorem Pks.get {h : Hp} : ∀ {rows : List (List Value)} {ps : List PkM} {k : Nat} {p : PkM}, Pks h rows ps → ps[k]? = some p → ∃ v, (rows.flatten.drop (k * 6)).take 6 = packC p.k p.fr p.to p.seq p.ack v ∧ SlR h v 1 p.body.length (u8s p.body)
  | _, _, _, _, .nil, hk => by simp at hk
  | _, _, 0, _, .cons hb _, hk => by
    simp only [List.getElem?_cons_zero, Option.some.injEq] at hk
    subst hk
    exact ⟨_, rfl, hb⟩
  | _, _, k + 1, _, .cons _ hr, hk => by
    rw [List.getElem?_cons_succ] at hk
    obtain ⟨v, h1, h2⟩ := Pks.get hr hk
    refine ⟨v, ?_, h2⟩
    rw [List.flatten_cons, show (k + 1) * 6 = 6 + k * 6 by omega, ← h1, ← List.drop_drop]
    rfl
structure Win (ls : List (List UInt8)) (L : LkM) : Prop where
  e : L.e = 5
  p : L.p = 9
  f : L.f = 1
  nx : L.nx = 1
  wait : L.wait = ls
  s : L.s = 0 ∨ L.s = ((min 4 ls.length : Nat) : Int)
theorem Win.tick {ls : List (List UInt8)} {L : LkM} (w : Win ls L) : Win ls L.tick.2 ∧ ∃ a, (a = 0 ∨ a = min 4 ls.length) ∧ (L.s = 0 → a = 0) ∧ L.tick.1 = L.datas a (min 4 ls.length - a) := by
  have ht : L.top = min 4 ls.length := by rw [LkM.top, w.wait]
  obtain ⟨a, ha, ha2, ha3⟩ : ∃ a : Nat, L.s2 = a ∧ (a = 0 ∨ a = min 4 ls.length) ∧ (L.s = 0 → a = 0) := by
    unfold LkM.s2
    split
    · exact ⟨0, rfl, .inl rfl, fun _ => rfl⟩
    · rcases w.s with h | h
      · exact ⟨0, h, .inl rfl, fun _ => rfl⟩
      · exact ⟨min 4 ls.length, h, .inr rfl, fun x => by omega⟩
  have hT := L.tick_far (by rw [w.p]; decide) ha
  rw [hT, ht]
  exact ⟨⟨w.e, w.p, w.f, w.nx, w.wait, .inr (by dsimp only; omega)⟩, a, ha2, ha3, rfl⟩
theorem LkM.datas_len (L : LkM) (a n : Nat) : (L.datas a n).length = n := by simp [LkM.datas]
theorem LkM.datas_get {L : LkM} {n k : Nat} {c : List UInt8} (h : k < n) (hc : L.wait[k]? = some c) : (L.datas 0 n)[k]? = some ⟨3, L.e, L.p, L.f + (k : Nat), L.nx - 1, c⟩ := by
  simp [LkM.datas, h, hc]

theorem linkWindow_any {F : Fr} {lv : Value} {lvs : List Value} {ls : List (List UInt8)} {tk : Int} (hl : SlR F.hf lv 1 ls.length lvs) (hrow : Rows8 F lvs ls) :
    Spec Try.prog F 7 [lv, .int .i64 tk] [] (fun u _ => u = .bool true) := by
  refine Spec.body Try.func7 rfl Try.ntmps7 rfl ?_
  refine Cod.seq ?_
  refine Cod.region ?_
  refine Ops.st (.assign rfl) rfl rfl rfl ?_
  refine Ops.nil ?_
  refine Ext.seq ?_
  refine Cod.seq ?_
  refine Cod.region ?_
  refine Ops.call ⟨Try.call9⟩ rfl rfl rfl (by repeat' first | exact Takes.nil _ | exact TakeP.here _ | apply TakeP.there | apply Takes.cons) (fun F' hF => awake_any) rfl rfl rfl ?_
  rintro _ _ ⟨rfl, rfl⟩
  refine Ops.st (.assign rfl) rfl rfl rfl ?_
  refine Ops.nil ?_
  refine Ext.seq ?_
  refine Cod.seq ?_
  refine Cod.region ?_
  refine Ops.call ⟨Try.call10⟩ rfl rfl rfl (by repeat' first | exact Takes.nil _ | exact TakeP.here _ | apply TakeP.there | apply Takes.cons) (fun F' hF => new_ok (ep := 5) (by decide)) rfl rfl rfl ?_
  rintro _ _ ⟨b, rfl, rfl⟩
  refine Ops.st (.move rfl) rfl rfl rfl ?_
  refine Ops.st (.extract rfl rfl) rfl rfl rfl ?_
  refine Ops.st (.extract rfl rfl) rfl rfl rfl ?_
  refine Ops.st (.assign rfl) rfl rfl rfl ?_
  refine Ops.st (.assign rfl) rfl rfl rfl ?_
  refine Ops.nil ?_
  refine Ext.seq ?_
  refine Cod.seq ?_
  refine Cod.seq ?_
  refine Cod.region ?_
  refine Ops.st (.move rfl) rfl rfl rfl ?_
  refine Ops.st (.notB rfl) rfl rfl rfl ?_
  refine Ops.st (.move rfl) rfl rfl rfl ?_
  refine Ops.stG rfl rfl rfl rfl (.move rfl) rfl rfl ?_
  refine Ops.stG rfl rfl rfl rfl (.neq rfl rfl) rfl rfl ?_
  refine Ops.st (.pickF rfl rfl rfl) rfl rfl rfl ?_
  refine Ops.st (.move rfl) rfl rfl rfl ?_
  refine Ops.stG rfl rfl rfl rfl (.move rfl) rfl rfl ?_
  refine Ops.stG rfl rfl rfl rfl (.eqPN rfl rfl Try.underlying26) rfl rfl ?_
  refine Ops.st (.pickF rfl rfl rfl) rfl rfl rfl ?_
  refine Ops.st (.move rfl) rfl rfl rfl ?_
  refine Ops.stG rfl rfl rfl rfl (.move rfl) rfl rfl ?_
  refine Ops.stG rfl rfl rfl rfl (.len rfl (Rd.ro hl) Try.runUnderlying43) rfl rfl ?_
  refine Ops.stG rfl rfl rfl rfl (.gtr rfl rfl) rfl rfl ?_
  refine Ops.st (.pickF rfl rfl rfl) rfl rfl rfl ?_
  refine Ops.st (.move rfl) rfl rfl rfl ?_
  refine Ops.splitD (t := 34) rfl (fun h1 => ?_) (fun h1 => ?_)
  ·
    refine Ops.skipG rfl rfl rfl (decide_eq_true h1) rfl rfl ?_
    refine Ops.skipG rfl rfl rfl (decide_eq_true h1) rfl rfl ?_
    refine Ops.st (.pickT rfl (decide_eq_true h1) rfl) rfl rfl rfl ?_
    refine Ops.st (.move rfl) rfl rfl rfl ?_
    refine Ops.skipG rfl rfl rfl rfl rfl rfl ?_
    refine Ops.skipG rfl rfl rfl rfl rfl rfl ?_
    refine Ops.st (.pickT rfl rfl rfl) rfl rfl rfl ?_
    refine Ops.nil ?_
    refine Ext.seq ?_
    refine Cod.condT rfl (by simp) ?_
    refine Cod.seq ?_
    refine Cod.region ?_
    refine Ops.st (.move rfl) rfl rfl rfl ?_
    refine Ops.st (.move rfl) rfl rfl rfl ?_
    refine Ops.stG rfl rfl rfl rfl (.move rfl) rfl rfl ?_
    refine Ops.stG rfl rfl rfl rfl (.eql rfl rfl) rfl rfl ?_
    refine Ops.st (.pickT rfl rfl rfl) rfl rfl rfl ?_
    refine Ops.st (.assign rfl) rfl rfl rfl ?_
    refine Ops.nil ?_
    refine Ext.seq ?_
    exact Cod.ret (Ext.seqR (Ext.ret rfl rfl rfl))
  ·
    refine Ops.stG rfl rfl rfl (decide_eq_false h1) (.move rfl) rfl rfl ?_
    refine Ops.stG rfl rfl rfl (decide_eq_false h1) (.lss rfl rfl) rfl rfl ?_
    refine Ops.st (.pickF rfl (decide_eq_false h1) rfl) rfl rfl rfl ?_
    refine Ops.st (.move rfl) rfl rfl rfl ?_
    refine Ops.splitD (t := 38) rfl (fun h2 => ?_) (fun h2 => ?_)
    ·
      refine Ops.skipG rfl rfl rfl (decide_eq_true h2) rfl rfl ?_
      refine Ops.skipG rfl rfl rfl (decide_eq_true h2) rfl rfl ?_
      refine Ops.st (.pickT rfl (decide_eq_true h2) rfl) rfl rfl rfl ?_
      refine Ops.nil ?_
      refine Ext.seq ?_
      refine Cod.condT rfl (by simp) ?_
      refine Cod.seq ?_
      refine Cod.region ?_
      refine Ops.st (.move rfl) rfl rfl rfl ?_
      refine Ops.st (.move rfl) rfl rfl rfl ?_
      refine Ops.stG rfl rfl rfl rfl (.move rfl) rfl rfl ?_
      refine Ops.stG rfl rfl rfl rfl (.eql rfl rfl) rfl rfl ?_
      refine Ops.st (.pickT rfl rfl rfl) rfl rfl rfl ?_
      refine Ops.st (.assign rfl) rfl rfl rfl ?_
      refine Ops.nil ?_
      refine Ext.seq ?_
      exact Cod.ret (Ext.seqR (Ext.ret rfl rfl rfl))
    ·
      refine Ops.stG rfl rfl rfl (decide_eq_false h2) (.move rfl) rfl rfl ?_
      refine Ops.stG rfl rfl rfl (decide_eq_false h2) (.gtr rfl rfl) rfl rfl ?_
      refine Ops.st (.pickF rfl (decide_eq_false h2) rfl) rfl rfl rfl ?_
      refine Ops.nil ?_
      refine Ext.seq ?_
      refine Cod.condD rfl (fun h3 => ?_) (fun h3 => ?_)
      ·
        refine Cod.seq ?_
        refine Cod.region ?_
        refine Ops.st (.move rfl) rfl rfl rfl ?_
        refine Ops.st (.move rfl) rfl rfl rfl ?_
        refine Ops.stG rfl rfl rfl rfl (.move rfl) rfl rfl ?_
        refine Ops.stG rfl rfl rfl rfl (.eql rfl rfl) rfl rfl ?_
        refine Ops.st (.pickT rfl rfl rfl) rfl rfl rfl ?_
        refine Ops.st (.assign rfl) rfl rfl rfl ?_
        refine Ops.nil ?_
        refine Ext.seq ?_
        exact Cod.ret (Ext.seqR (Ext.ret rfl rfl rfl))
      ·
        refine Cod.skip ?_
        refine Ext.seq ?_
        refine Cod.seq ?_
        refine Cod.seq ?_
        refine Cod.region ?_
        obtain ⟨n, rfl⟩ : ∃ n : Nat, tk = n := ⟨tk.toNat, by omega⟩
        refine Ops.ent (Ent.trans Ent.vecNil (Ent.trans (Ent.fold (A := link b Hp.nil (L5 [])) (by repeat' first | exact Takes.nil _ | exact TakeP.here _ | apply TakeP.there | apply Takes.cons) (link_mk (L := L5 []) Sl.nil .nil L5_ok)) Ent.ice0)) ?_
        refine Ops.st (.assign rfl) rfl rfl rfl ?_
        refine Ops.nil ?_
        refine Ext.seq ?_
        refine Cod.block ?_
        refine Cod.loop (fun g : Nat × Hp => ⟨g.1 ≤ ls.length, [(0, lv), (1, .int .i64 n), (6, .pointer (some ⟨b, 0, none⟩)), (8, .int .i64 g.1)], [ice g.2, link b g.2 (L5 (ls.take g.1))]⟩) (fun g => ls.length - g.1) (0, Hp.nil) (Nat.zero_le _) ⟨rfl, rfl, rfl, rfl, trivial⟩ (Ent.take (by repeat' first | exact Takes.nil _ | exact TakeP.here _ | apply TakeP.there | apply Takes.cons)) ?_
        rintro ⟨i, hh⟩ hi
        dsimp only
        refine Cod.seq ?_
        refine Cod.seq ?_
        refine Cod.region ?_
        dsimp only at hi
        refine Ops.st (.move rfl) rfl rfl rfl ?_
        refine Ops.st (.move rfl) rfl rfl rfl ?_
        refine Ops.st (.len rfl (Rd.ro hl) Try.runUnderlying43) rfl rfl rfl ?_
        refine Ops.st (.lss rfl rfl) rfl rfl rfl ?_
        refine Ops.nil ?_
        refine Ext.seq ?_
        refine Cod.condD rfl (fun h5 => ?_) (fun h5 => ?_)
        ·
          refine Cod.skip ?_
          refine Ext.seq ?_
          refine Cod.seq ?_
          refine Cod.block ?_
          refine Cod.seq ?_
          refine Cod.seq ?_
          refine Cod.region ?_
          obtain ⟨c, hc⟩ : ∃ c, ls[i]? = some c := ⟨ls[i]'(by omega), List.getElem?_eq_getElem (by omega)⟩
          obtain ⟨cv, hcv, hsc⟩ := hrow.get hc
          refine Ops.st (.move rfl) rfl rfl rfl ?_
          refine Ops.st (.move rfl) rfl rfl rfl ?_
          refine Ops.st (.indexAddr (j := i) (off := i) rfl rfl (Rd.ro hl) Try.runUnderlying43 Try.sizeOf22 rfl (by omega) (by omega)) rfl rfl rfl ?_
          refine Ops.st (.load_elem rfl (Rd.ro hl) Try.isAgg22 hcv) rfl rfl rfl ?_
          refine Ops.st (.len rfl (Rd.ro hsc) Try.runUnderlying22) rfl rfl rfl ?_
          refine Ops.st (.gtr rfl rfl) rfl rfl rfl ?_
          refine Ops.nil ?_
          refine Ext.seq ?_
          refine Cod.condD rfl (fun h4 => ?_) (fun h4 => ?_)
          ·
            refine Cod.seq ?_
            refine Cod.region ?_
            refine Ops.st (.assign rfl) rfl rfl rfl ?_
            refine Ops.nil ?_
            refine Ext.seq ?_
            exact Cod.ret (Ext.seqR (Ext.blockR (Ext.seqR (Ext.stopR (Ext.blockR (Ext.seqR (Ext.ret rfl rfl rfl)))))))
          ·
            refine Cod.skip ?_
            refine Ext.seq ?_
            refine Cod.seq ?_
            have hsn := L5_send (ls := ls.take i) (c := c) (by rw [List.length_take]; omega) (by omega)
            refine Cod.region ?_
            refine Ops.st (.move rfl) rfl rfl rfl ?_
            refine Ops.st (.move rfl) rfl rfl rfl ?_
            refine Ops.st (.move rfl) rfl rfl rfl ?_
            refine Ops.st (.indexAddr (j := i) (off := i) rfl rfl (Rd.ro hl) Try.runUnderlying43 Try.sizeOf22 rfl (by omega) (by omega)) rfl rfl rfl ?_
            refine Ops.st (.load_elem rfl (Rd.ro hl) Try.isAgg22 hcv) rfl rfl rfl ?_
            refine Ops.call ⟨Try.call18⟩ rfl rfl rfl (by repeat' first | exact Takes.nil _ | exact TakeP.here _ | apply TakeP.there | apply Takes.cons) (fun F' hF => send_any (.inr (hsc.mono hF.hf))) rfl rfl rfl ?_
            rintro _ _ ⟨h6, hle, rfl, rfl⟩
            rw [hsn]
            refine Ops.st (.assign rfl) rfl rfl rfl ?_
            refine Ops.nil ?_
            refine Ext.seq ?_
            refine Cod.seq ?_
            refine Cod.region ?_
            refine Ops.st (.move rfl) rfl rfl rfl ?_
            refine Ops.st (.neq rfl rfl) rfl rfl rfl ?_
            refine Ops.nil ?_
            refine Ext.seq ?_
            refine Cod.condF rfl (by simp) ?_
            refine Cod.skip ?_
            refine Ext.block ?_
            refine Ext.seq ?_
            refine Cod.region ?_
            refine Ops.st (.move rfl) rfl rfl rfl ?_
            refine Ops.st (.add rfl rfl (by first | exact IntWalk.i64_in _ (by omega) | rfl)) rfl rfl rfl ?_
            refine Ops.st (.assign rfl) rfl rfl rfl ?_
            refine Ops.nil ?_
            exact Ext.back (i + 1, h6) (by dsimp only; omega) (by dsimp only; omega) ⟨rfl, rfl, rfl, rfl, trivial⟩ (by dsimp only; rw [List.take_add_one, hc]; exact Ent.take (by repeat' first | exact Takes.nil _ | exact TakeP.here _ | apply TakeP.there | apply Takes.cons))
        ·
          refine Cod.exit (Ext.seqX (Ext.stopX (Ext.hit ?_)))
          refine Ext.seq ?_
          refine Cod.seq ?_
          refine Cod.region ?_
          obtain rfl : i = ls.length := by omega
          rw [List.take_length]
          refine Ops.st (.move rfl) rfl rfl rfl ?_
          refine Ops.call ⟨Try.call16⟩ rfl rfl rfl (by repeat' first | exact Takes.nil _ | exact TakeP.here _ | apply TakeP.there | apply Takes.cons) (fun F' hF => tick_any (L := L5 ls)) rfl rfl rfl ?_
          rintro u0 _ ⟨h6, rows0, hle0, hu0, hp0, rfl⟩
          have hT0 : (L5 ls).tick = ([⟨1, 5, 0, 0, 0, []⟩], L5 ls) := by rw [LkM.tick, if_pos (show (L5 ls).p = 0 from rfl)]; rfl
          rw [hT0] at hp0
          rw [hT0]
          obtain ⟨v0, rfl⟩ := hp0.lone
          refine Ops.st (.assign rfl) rfl rfl rfl ?_
          refine Ops.nil ?_
          refine Ext.seq ?_
          refine Cod.seq ?_
          refine Cod.seq ?_
          refine Cod.region ?_
          refine Ops.st (.move rfl) rfl rfl rfl ?_
          refine Ops.st (.len rfl (Rd.vec (v := u0) (by repeat first | exact TakeP.here _ | apply TakeP.there)) Try.runUnderlying40) rfl rfl rfl ?_
          refine Ops.st (.neq rfl rfl) rfl rfl rfl ?_
          refine Ops.st (.move rfl) rfl rfl rfl ?_
          refine Ops.stG rfl rfl rfl rfl (.move rfl) rfl rfl ?_
          refine Ops.stG rfl rfl rfl rfl (.indexAddr (j := 0) (off := 0) rfl rfl (Rd.vec (v := u0) (by repeat first | exact TakeP.here _ | apply TakeP.there)) Try.runUnderlying40 Try.sizeOf24 rfl (Nat.succ_pos 0) rfl) rfl rfl ?_
          refine Ops.stG rfl rfl rfl rfl (.fieldAddr_elem (j := 0) rfl (Rd.vec (v := u0) (by repeat first | exact TakeP.here _ | apply TakeP.there)) fa24_0 (Nat.succ_pos 0) rfl) rfl rfl ?_
          refine Ops.stG rfl rfl rfl rfl (.load_elem rfl (Rd.vec (v := u0) (by repeat first | exact TakeP.here _ | apply TakeP.there)) Try.isAgg3 rfl) rfl rfl ?_
          refine Ops.stG rfl rfl rfl rfl (.neq rfl rfl) rfl rfl ?_
          refine Ops.st (.pickF rfl rfl rfl) rfl rfl rfl ?_
          refine Ops.st (.move rfl) rfl rfl rfl ?_
          refine Ops.stG rfl rfl rfl rfl (.move rfl) rfl rfl ?_
          refine Ops.stG rfl rfl rfl rfl (.indexAddr (j := 0) (off := 0) rfl rfl (Rd.vec (v := u0) (by repeat first | exact TakeP.here _ | apply TakeP.there)) Try.runUnderlying40 Try.sizeOf24 rfl (Nat.succ_pos 0) rfl) rfl rfl ?_
          refine Ops.stG rfl rfl rfl rfl (.fieldAddr_elem (j := 1) rfl (Rd.vec (v := u0) (by repeat first | exact TakeP.here _ | apply TakeP.there)) fa24_1 (Nat.succ_pos 0) rfl) rfl rfl ?_
          refine Ops.stG rfl rfl rfl rfl (.load_elem rfl (Rd.vec (v := u0) (by repeat first | exact TakeP.here _ | apply TakeP.there)) Try.isAgg3 rfl) rfl rfl ?_
          refine Ops.stG rfl rfl rfl rfl (.neq rfl rfl) rfl rfl ?_
          refine Ops.st (.pickF rfl rfl rfl) rfl rfl rfl ?_
          refine Ops.st (.move rfl) rfl rfl rfl ?_
          refine Ops.stG rfl rfl rfl rfl (.move rfl) rfl rfl ?_
          refine Ops.stG rfl rfl rfl rfl (.indexAddr (j := 0) (off := 0) rfl rfl (Rd.vec (v := u0) (by repeat first | exact TakeP.here _ | apply TakeP.there)) Try.runUnderlying40 Try.sizeOf24 rfl (Nat.succ_pos 0) rfl) rfl rfl ?_
          refine Ops.stG rfl rfl rfl rfl (.fieldAddr_elem (j := 2) rfl (Rd.vec (v := u0) (by repeat first | exact TakeP.here _ | apply TakeP.there)) fa24_2 (Nat.succ_pos 0) rfl) rfl rfl ?_
          refine Ops.stG rfl rfl rfl rfl (.load_elem rfl (Rd.vec (v := u0) (by repeat first | exact TakeP.here _ | apply TakeP.there)) Try.isAgg3 rfl) rfl rfl ?_
          refine Ops.stG rfl rfl rfl rfl (.neq rfl rfl) rfl rfl ?_
          refine Ops.st (.pickF rfl rfl rfl) rfl rfl rfl ?_
          refine Ops.nil ?_
          refine Ext.seq ?_
          refine Cod.condF rfl (by simp) ?_
          refine Cod.skip ?_
          refine Ext.seq ?_
          refine Cod.seq ?_
          refine Cod.region ?_
          refine Ops.st (.move rfl) rfl rfl rfl ?_
          refine Ops.st (.build1 (os := [0, 1, 2]) (cs := [_, _, _, (.int .i64 0), (.int .i64 0), (.slice none 0 0)]) bs24 rfl rfl rfl (by repeat' first | exact One.nil | apply One.cons rfl | (apply One.cons (Sl.one (by assumption)))) rfl) rfl rfl rfl ?_
          refine Ops.call ⟨Try.call20⟩ rfl rfl rfl (by repeat' first | exact Takes.nil _ | exact TakeP.here _ | apply TakeP.there | apply Takes.cons) (fun F' hF => take_any (L := L5 ls) (k := 2) (fr := 9) (to := 5) (seq := 0) (ack := 0) (body := []) (.inl (SlR.nil _ _))) rfl rfl rfl ?_
          rintro _ _ ⟨h7, u1, u2, bvs, rows, hle, rfl, hu1, hu2, hb1, hp1, rfl⟩
          refine Ops.nil ?_
          refine Ext.seq ?_
          refine Cod.seq ?_
          refine Cod.seq ?_
          refine Cod.region ?_
          rw [L5_take]
          refine Ops.st (.assign rfl) rfl rfl rfl ?_
          refine Ops.nil ?_
          refine Ext.seq ?_
          refine Cod.block ?_
          refine Cod.loop (fun g : Nat × LkM × Hp => ⟨g.1 ≤ n ∧ Win ls g.2.1 ∧ (g.1 = 0 → g.2.1.s = 0), [(0, lv), (1, .int .i64 n), (6, .pointer (some ⟨b, 0, none⟩)), (11, .int .i64 g.1)], [ice g.2.2, link b g.2.2 g.2.1]⟩) (fun g => n - g.1) (0, L9 ls, h7) ⟨Nat.zero_le _, ⟨rfl, rfl, rfl, rfl, rfl, .inl rfl⟩, fun _ => rfl⟩ ⟨rfl, rfl, rfl, rfl, trivial⟩ (Ent.take (by repeat' first | exact Takes.nil _ | exact TakeP.here _ | apply TakeP.there | apply Takes.cons)) ?_
          rintro ⟨i, L, hh⟩ ⟨hi, hw, hs0⟩
          dsimp only
          refine Cod.seq ?_
          refine Cod.seq ?_
          refine Cod.region ?_
          dsimp only at hi hw hs0
          refine Ops.st (.move rfl) rfl rfl rfl ?_
          refine Ops.st (.move rfl) rfl rfl rfl ?_
          refine Ops.st (.lss rfl rfl) rfl rfl rfl ?_
          refine Ops.nil ?_
          refine Ext.seq ?_
          refine Cod.condD rfl (fun h5 => ?_) (fun h5 => ?_)
          ·
            refine Cod.skip ?_
            refine Ext.seq ?_
            refine Cod.seq ?_
            refine Cod.block ?_
            refine Cod.seq ?_
            refine Cod.region ?_
            obtain ⟨hw2, a, ha, ha0, hps⟩ := hw.tick
            refine Ops.st (.move rfl) rfl rfl rfl ?_
            refine Ops.call ⟨Try.call16⟩ rfl rfl rfl (by repeat' first | exact Takes.nil _ | exact TakeP.here _ | apply TakeP.there | apply Takes.cons) (fun F' hF => tick_any (L := L)) rfl rfl rfl ?_
            rintro u _ ⟨h8, rows, hle, hu, hp, rfl⟩
            rw [hps] at hp
            rw [hps]
            have hdl := L.datas_len a (min 4 ls.length - a)
            refine Ops.st (.assign rfl) rfl rfl rfl ?_
            refine Ops.nil ?_
            refine Ext.seq ?_
            refine Cod.seq ?_
            refine Cod.cutK (fun _ : Unit => ⟨True, [(0, lv), (1, .int .i64 n), (6, .pointer (some ⟨b, 0, none⟩)), (11, .int .i64 i), (12, u)], [ice h8, link b h8 L.tick.2, vec u 24 6 (L.datas a (min 4 ls.length - a)).length rows.flatten]⟩) ?_ ?_
            ·
              refine Cod.seq ?_
              refine Cod.region ?_
              refine Ops.st (.move rfl) rfl rfl rfl ?_
              refine Ops.st (.len rfl (Rd.vec (v := u) (by repeat first | exact TakeP.here _ | apply TakeP.there)) Try.runUnderlying40) rfl rfl rfl ?_
              refine Ops.st (.gtr rfl rfl) rfl rfl rfl ?_
              refine Ops.st (.move rfl) rfl rfl rfl ?_
              refine Ops.stG rfl rfl rfl (decide_eq_false (by omega)) (.move rfl) rfl rfl ?_
              refine Ops.stG rfl rfl rfl (decide_eq_false (by omega)) (.eql rfl rfl) rfl rfl ?_
              refine Ops.stG rfl rfl rfl (decide_eq_false (by omega)) (.move rfl) rfl rfl ?_
              refine Ops.splitD (t := 109) rfl (fun h9 => ?_) (fun h9 => ?_)
              ·
                refine Ops.stG rfl rfl rfl (decide_eq_true h9) (.move rfl) rfl rfl ?_
                refine Ops.stG rfl rfl rfl (decide_eq_true h9) (.len rfl (Rd.vec (v := u) (by repeat first | exact TakeP.here _ | apply TakeP.there)) Try.runUnderlying40) rfl rfl ?_
                refine Ops.stG rfl rfl rfl (decide_eq_true h9) (.move rfl) rfl rfl ?_
                refine Ops.stG rfl rfl rfl (decide_eq_true h9) (.len rfl (Rd.ro hl) Try.runUnderlying43) rfl rfl ?_
                refine Ops.stG rfl rfl rfl (decide_eq_true h9) (.min_ rfl rfl) rfl rfl ?_
                refine Ops.stG rfl rfl rfl (decide_eq_true h9) (.neq rfl rfl) rfl rfl ?_
                refine Ops.stG rfl rfl rfl (decide_eq_false (by omega)) (.pickT rfl (decide_eq_true h9) rfl) rfl rfl ?_
                refine Ops.st (.pickF rfl (decide_eq_false (by omega)) rfl) rfl rfl rfl ?_
                refine Ops.nil ?_
                refine Ext.seq ?_
                refine Cod.condF rfl (decide_eq_false (by have := ha0 (hs0 (by omega)); omega)) ?_
                refine Cod.skip ?_
                exact Ext.at_ () trivial ⟨rfl, rfl, rfl, rfl, rfl, trivial⟩ (Ent.take (by repeat' first | exact Takes.nil _ | exact TakeP.here _ | apply TakeP.there | apply Takes.cons))
              ·
                refine Ops.skipG rfl rfl rfl (decide_eq_false h9) rfl rfl ?_
                refine Ops.skipG rfl rfl rfl (decide_eq_false h9) rfl rfl ?_
                refine Ops.skipG rfl rfl rfl (decide_eq_false h9) rfl rfl ?_
                refine Ops.skipG rfl rfl rfl (decide_eq_false h9) rfl rfl ?_
                refine Ops.skipG rfl rfl rfl (decide_eq_false h9) rfl rfl ?_
                refine Ops.skipG rfl rfl rfl (decide_eq_false h9) rfl rfl ?_
                refine Ops.stG rfl rfl rfl (decide_eq_false (by omega)) (.pickF rfl (decide_eq_false h9) rfl) rfl rfl ?_
                refine Ops.st (.pickF rfl (decide_eq_false (by omega)) rfl) rfl rfl rfl ?_
                refine Ops.nil ?_
                refine Ext.seq ?_
                refine Cod.condF rfl (by simp) ?_
                refine Cod.skip ?_
                exact Ext.at_ () trivial ⟨rfl, rfl, rfl, rfl, rfl, trivial⟩ (Ent.take (by repeat' first | exact Takes.nil _ | exact TakeP.here _ | apply TakeP.there | apply Takes.cons))
            ·
              rintro _ _
              dsimp only
              refine Cod.seq ?_
              refine Cod.region ?_
              refine Ops.st (.assign rfl) rfl rfl rfl ?_
              refine Ops.nil ?_
              refine Ext.seq ?_
              refine Cod.block ?_
              refine Cod.loop (fun k : Nat => ⟨k ≤ (L.datas a (min 4 ls.length - a)).length, [(0, lv), (1, .int .i64 n), (6, .pointer (some ⟨b, 0, none⟩)), (11, .int .i64 i), (12, u), (13, .int .i64 k)], [ice h8, link b h8 L.tick.2, vec u 24 6 (L.datas a (min 4 ls.length - a)).length rows.flatten]⟩) (fun k => (L.datas a (min 4 ls.length - a)).length - k) 0 (Nat.zero_le _) ⟨rfl, rfl, rfl, rfl, rfl, rfl, trivial⟩ (Ent.take (by repeat' first | exact Takes.nil _ | exact TakeP.here _ | apply TakeP.there | apply Takes.cons)) ?_
              rintro k hk
              dsimp only
              refine Cod.seq ?_
              refine Cod.seq ?_
              refine Cod.region ?_
              refine Ops.st (.move rfl) rfl rfl rfl ?_
              refine Ops.st (.move rfl) rfl rfl rfl ?_
              refine Ops.st (.len rfl (Rd.vec (v := u) (by repeat first | exact TakeP.here _ | apply TakeP.there)) Try.runUnderlying40) rfl rfl rfl ?_
              refine Ops.st (.lss rfl rfl) rfl rfl rfl ?_
              refine Ops.nil ?_
              refine Ext.seq ?_
              refine Cod.condD rfl (fun h10 => ?_) (fun h10 => ?_)
              ·
                refine Cod.skip ?_
                refine Ext.seq ?_
                refine Cod.seq ?_
                refine Cod.block ?_
                refine Cod.seq ?_
                obtain rfl : a = 0 := by omega
                obtain ⟨c, hc⟩ : ∃ c, ls[k]? = some c := ⟨ls[k]'(by omega), List.getElem?_eq_getElem (by omega)⟩
                obtain ⟨cv, hcv, hsc⟩ := hrow.get hc
                obtain ⟨v, hrw, hsv⟩ := hp.get (LkM.datas_get (L := L) (n := min 4 ls.length - 0) (k := k) (c := c) (by omega) (by rw [hw.wait]; exact hc))
                dsimp only at hrw hsv
                rw [hw.e, hw.p, hw.f, hw.nx] at hrw
                refine Cod.regionQ mixed (by kernel_rfl) ?_
                refine Qs.st (.move rfl) rfl rfl rfl ?_
                refine Qs.st (.move rfl) rfl rfl rfl ?_
                refine Qs.st (.indexAddr (j := k) (off := k * 6) rfl rfl (Rd.vec (v := u) (by repeat first | exact TakeP.here _ | apply TakeP.there)) Try.runUnderlying40 Try.sizeOf24 rfl (by omega) rfl) rfl rfl rfl ?_
                refine Qs.st (.fieldAddr_elem (j := k * 6 + 0) rfl (Rd.vec (v := u) (by repeat first | exact TakeP.here _ | apply TakeP.there)) fa24_0 (by omega) rfl) rfl rfl rfl ?_
                refine Qs.st (.load_elem rfl (Rd.vec (v := u) (by repeat first | exact TakeP.here _ | apply TakeP.there)) Try.isAgg3 (row_at6 hrw 0 _ rfl)) rfl rfl rfl ?_
                refine Qs.st (.neq rfl rfl) rfl rfl rfl ?_
                refine Qs.st (.move rfl) rfl rfl rfl ?_
                refine Qs.stG rfl rfl rfl rfl (.move rfl) rfl rfl ?_
                refine Qs.stG rfl rfl rfl rfl (.move rfl) rfl rfl ?_
                refine Qs.stG rfl rfl rfl rfl (.indexAddr (j := k) (off := k * 6) rfl rfl (Rd.vec (v := u) (by repeat first | exact TakeP.here _ | apply TakeP.there)) Try.runUnderlying40 Try.sizeOf24 rfl (by omega) rfl) rfl rfl ?_
                refine Qs.stG rfl rfl rfl rfl (.fieldAddr_elem (j := k * 6 + 3) rfl (Rd.vec (v := u) (by repeat first | exact TakeP.here _ | apply TakeP.there)) fa24_3 (by omega) rfl) rfl rfl ?_
                refine Qs.stG rfl rfl rfl rfl (.load_elem rfl (Rd.vec (v := u) (by repeat first | exact TakeP.here _ | apply TakeP.there)) Try.isAgg3 (row_at6 hrw 3 _ rfl)) rfl rfl ?_
                refine Qs.stG rfl rfl rfl rfl (.move rfl) rfl rfl ?_
                refine Qs.stG rfl rfl rfl rfl (.add rfl rfl (by first | exact IntWalk.i64_in _ (by omega) | rfl)) rfl rfl ?_
                refine Qs.stG rfl rfl rfl rfl (.neq rfl rfl) rfl rfl ?_
                refine Qs.st (.pickF rfl rfl rfl) rfl rfl rfl ?_
                refine Qs.st (.move rfl) rfl rfl rfl ?_
                refine Qs.stG rfl rfl rfl (decide_eq_false (by omega)) (.move rfl) rfl rfl ?_
                refine Qs.stG rfl rfl rfl (decide_eq_false (by omega)) (.move rfl) rfl rfl ?_
                refine Qs.stG rfl rfl rfl (decide_eq_false (by omega)) (.indexAddr (j := k) (off := k * 6) rfl rfl (Rd.vec (v := u) (by repeat first | exact TakeP.here _ | apply TakeP.there)) Try.runUnderlying40 Try.sizeOf24 rfl (by omega) rfl) rfl rfl ?_
                refine Qs.stG rfl rfl rfl (decide_eq_false (by omega)) (.fieldAddr_elem (j := k * 6 + 2) rfl (Rd.vec (v := u) (by repeat first | exact TakeP.here _ | apply TakeP.there)) fa24_2 (by omega) rfl) rfl rfl ?_
                refine Qs.stG rfl rfl rfl (decide_eq_false (by omega)) (.load_elem rfl (Rd.vec (v := u) (by repeat first | exact TakeP.here _ | apply TakeP.there)) Try.isAgg3 (row_at6 hrw 2 _ rfl)) rfl rfl ?_
                refine Qs.stG rfl rfl rfl (decide_eq_false (by omega)) (.neq rfl rfl) rfl rfl ?_
                refine Qs.st (.pickF rfl (decide_eq_false (by omega)) rfl) rfl rfl rfl ?_
                refine Qs.st (.move rfl) rfl rfl rfl ?_
                refine Qs.stG rfl rfl rfl rfl (.move rfl) rfl rfl ?_
                refine Qs.stG rfl rfl rfl rfl (.move rfl) rfl rfl ?_
                refine Qs.stG rfl rfl rfl rfl (.indexAddr (j := k) (off := k * 6) rfl rfl (Rd.vec (v := u) (by repeat first | exact TakeP.here _ | apply TakeP.there)) Try.runUnderlying40 Try.sizeOf24 rfl (by omega) rfl) rfl rfl ?_
                refine Qs.stG rfl rfl rfl rfl (.fieldAddr_elem (j := k * 6 + 4) rfl (Rd.vec (v := u) (by repeat first | exact TakeP.here _ | apply TakeP.there)) fa24_4 (by omega) rfl) rfl rfl ?_
                refine Qs.stG rfl rfl rfl rfl (.load_elem rfl (Rd.vec (v := u) (by repeat first | exact TakeP.here _ | apply TakeP.there)) Try.isAgg3 (row_at6 hrw 4 _ rfl)) rfl rfl ?_
                refine Qs.stG rfl rfl rfl rfl (.neq rfl rfl) rfl rfl ?_
                refine Qs.st (.pickF rfl rfl rfl) rfl rfl rfl ?_
                refine Qs.st (.move rfl) rfl rfl rfl ?_
                refine Qs.stG rfl rfl rfl rfl (.move rfl) rfl rfl ?_
                refine Qs.stG rfl rfl rfl rfl (.move rfl) rfl rfl ?_
                refine Qs.stG rfl rfl rfl rfl (.indexAddr (j := k) (off := k * 6) rfl rfl (Rd.vec (v := u) (by repeat first | exact TakeP.here _ | apply TakeP.there)) Try.runUnderlying40 Try.sizeOf24 rfl (by omega) rfl) rfl rfl ?_
                refine Qs.stG rfl rfl rfl rfl (.fieldAddr_elem (j := k * 6 + 5) rfl (Rd.vec (v := u) (by repeat first | exact TakeP.here _ | apply TakeP.there)) fa24_5 (by omega) rfl) rfl rfl ?_
                refine Qs.stG rfl rfl rfl rfl (.load_elem rfl (Rd.vec (v := u) (by repeat first | exact TakeP.here _ | apply TakeP.there)) Try.isAgg22 (row_at6 hrw 5 _ rfl)) rfl rfl ?_
                refine Qs.stG rfl rfl rfl rfl (.toStr rfl (Rd.ice (by repeat first | exact TakeP.here _ | apply TakeP.there) hsv) Try.underlying22 Try.underlying5 Try.underlying9) rfl rfl ?_
                refine Qs.stG rfl rfl rfl rfl (.move rfl) rfl rfl ?_
                refine Qs.stG rfl rfl rfl rfl (.move rfl) rfl rfl ?_
                refine Qs.stG rfl rfl rfl rfl (.indexAddr (j := k) (off := k) rfl rfl (Rd.ro hl) Try.runUnderlying43 Try.sizeOf22 rfl (by omega) (by omega)) rfl rfl ?_
                refine Qs.stG rfl rfl rfl rfl (.load_elem rfl (Rd.ro hl) Try.isAgg22 hcv) rfl rfl ?_
                refine Qs.stG rfl rfl rfl rfl (.toStr rfl (Rd.ro hsc) Try.underlying22 Try.underlying5 Try.underlying9) rfl rfl ?_
                refine Qs.stG rfl rfl rfl rfl (.neStr rfl rfl) rfl rfl ?_
                refine Qs.st (.pickF rfl rfl rfl) rfl rfl rfl ?_
                refine Qs.nil ?_
                refine Ext.seq ?_
                refine Cod.condF rfl (by simp) ?_
                refine Cod.skip ?_
                refine Ext.block ?_
                refine Ext.seq ?_
                refine Cod.region ?_
                refine Ops.st (.move rfl) rfl rfl rfl ?_
                refine Ops.st (.add rfl rfl (by first | exact IntWalk.i64_in _ (by omega) | rfl)) rfl rfl rfl ?_
                refine Ops.st (.assign rfl) rfl rfl rfl ?_
                refine Ops.nil ?_
                exact Ext.back (k + 1) (by omega) (by omega) ⟨rfl, rfl, rfl, rfl, rfl, rfl, trivial⟩ (Ent.take (by repeat' first | exact Takes.nil _ | exact TakeP.here _ | apply TakeP.there | apply Takes.cons))
              ·
                refine Cod.exit (Ext.seqX (Ext.stopX (Ext.hit ?_)))
                refine Ext.block ?_
                refine Ext.seq ?_
                refine Cod.region ?_
                refine Ops.st (.move rfl) rfl rfl rfl ?_
                refine Ops.st (.add rfl rfl (by first | exact IntWalk.i64_in _ (by omega) | rfl)) rfl rfl rfl ?_
                refine Ops.st (.assign rfl) rfl rfl rfl ?_
                refine Ops.nil ?_
                exact Ext.back (i + 1, L.tick.2, h8) (by dsimp only; omega) ⟨by dsimp only; omega, hw2, fun h => absurd h (Nat.succ_ne_zero _)⟩ ⟨rfl, rfl, rfl, rfl, trivial⟩ (Ent.take (by repeat' first | exact Takes.nil _ | exact TakeP.here _ | apply TakeP.there | apply Takes.cons))
          ·
            refine Cod.exit (Ext.seqX (Ext.stopX (Ext.hit ?_)))
            refine Ext.seq ?_
            refine Cod.seq ?_
            refine Cod.region ?_
            refine Ops.st (.move rfl) rfl rfl rfl ?_
            refine Ops.call ⟨Try.call23⟩ rfl rfl rfl (by repeat' first | exact Takes.nil _ | exact TakeP.here _ | apply TakeP.there | apply Takes.cons) (fun F' hF => waitingL_any) rfl rfl rfl ?_
            rintro _ _ ⟨rfl, rfl⟩
            refine Ops.st (.move rfl) rfl rfl rfl ?_
            refine Ops.st (.len rfl (Rd.ro hl) Try.runUnderlying43) rfl rfl rfl ?_
            refine Ops.st (.eql rfl rfl) rfl rfl rfl ?_
            refine Ops.st (.assign rfl) rfl rfl rfl ?_
            refine Ops.nil ?_
            refine Ext.seq ?_
            exact Cod.ret (Ext.ret rfl rfl (by rw [hw.wait]; simp))
end Go.Proofs.Ytjlimnckdblkhaa
