/- DiskPlans: the walk. No condition. -/
import Derived.Test.YtjlgdbmeajdciaaG
namespace Go.Proofs.Ytjlgdbmeajdciaa
open Go

theorem off_uni {F : Fr} {b : Nat} {D : DiskM} : Spec Try.prog F 16 [.pointer (some ⟨b, 0, none⟩)] [disk b D] (fun v hs' => v = .bool D.off ∧ hs' = [disk b D]) := off_any

/-- A round: what the plan tells, what the disk does. -/
structure PInv (l : List UInt8) (i : Nat) (D : DiskM) (off : Bool) (last : UInt8) : Prop where
  le : i ≤ l.length + 3
  eoff : D.off = off
  len : D.now.length = 2
  plan : off = false → D.plan = l.drop i
  last : off = false → ∃ s, D.now[0]? = some s ∧ s[0]? = some last

def offN (l : List UInt8) (i : Nat) (off : Bool) : Bool := off || decide (l[i]? = some 2)
def wantN (l : List UInt8) (i : Nat) (off : Bool) : Int := if offN l i off then 7 else if l[i]? = some 1 then 6 else 0
def lastN (l : List UInt8) (i : Nat) (off : Bool) (last : UInt8) : UInt8 := if wantN l i off = 0 then UInt8.ofNat (i + 1) else last

theorem meet_round {l : List UInt8} {i : Nat} {D : DiskM} {off : Bool} {last : UInt8} (h : PInv l i D off last) (_hi : i < l.length + 3) (c : UInt8) :
    (D.write 0 [c]).1 = wantN l i off ∧ (c = UInt8.ofNat (i + 1) → PInv l (i + 1) (D.write 0 [c]).2 (offN l i off) (lastN l i off last)) := by
  have hhas : D.has 0 := ⟨by omega, by rw [h.len]; decide⟩
  have hw : ¬ (¬ D.has 0 ∨ 128 < [c].length) := by
    intro e
    rcases e with e | e
    · exact e hhas
    · simp at e
  unfold DiskM.write
  rw [if_neg hw]
  have hpad : (padS [c])[0]? = some c := by simp [padS]
  cases ho : off with
  | true =>
    subst ho
    have hm : D.meet = (7, D) := by simp [DiskM.meet, h.eoff]
    rw [hm]
    refine ⟨by simp [wantN, offN], fun _ => ?_⟩
    rw [if_pos (by simp)]
    exact ⟨by omega, by simp [offN, h.eoff], h.len, by simp [offN], by simp [offN]⟩
  | false =>
    subst ho
    have hp := h.plan rfl
    have hd : l.drop i = match l[i]? with | some c => c :: l.drop (i + 1) | none => [] := by
      cases hc : l[i]? with
      | none => exact List.drop_eq_nil_of_le (List.getElem?_eq_none_iff.1 hc)
      | some c =>
        obtain ⟨hlt, he⟩ := List.getElem?_eq_some_iff.1 hc
        rw [List.drop_eq_getElem_cons hlt, he]
    obtain ⟨s, hs, hl⟩ := h.last rfl
    have hput : ∀ D' : DiskM, D'.now = D.now → ∃ s, (D'.put 0 [c]).now[0]? = some s ∧ s[0]? = some c := by
      intro D' e
      refine ⟨padS [c], ?_, hpad⟩
      have : 0 < D'.now.length := by rw [e, h.len]; decide
      simp [DiskM.put, this]
    have hlen : ∀ D' : DiskM, D'.now = D.now → (D'.put 0 [c]).now.length = 2 := by
      intro D' e
      simp [DiskM.put, e, h.len]
    cases hc : l[i]? with
    | none =>
      rw [hc] at hd
      have hm : D.meet = (0, D) := by simp [DiskM.meet, h.eoff, hp, hd]
      rw [hm]
      refine ⟨by simp [wantN, offN, hc], fun ec => ?_⟩
      rw [if_neg (by simp)]
      refine ⟨by omega, by simp [offN, hc]; exact h.eoff, hlen D rfl, fun _ => ?_, fun _ => ?_⟩
      · show D.plan = _
        have h1 := List.getElem?_eq_none_iff.1 hc
        rw [hp, hd]
        exact (List.drop_eq_nil_of_le (by omega)).symm
      · obtain ⟨s, h1, h2⟩ := hput D rfl
        exact ⟨s, h1, by rw [h2]; simp [lastN, wantN, offN, hc, ec]⟩
    | some d =>
      rw [hc] at hd
      by_cases h1 : d = 1
      · subst h1
        have hm : D.meet = (6, { D with plan := l.drop (i + 1) }) := by simp [DiskM.meet, h.eoff, hp, hd]
        rw [hm]
        refine ⟨by simp [wantN, offN, hc], fun _ => ?_⟩
        rw [if_pos (by simp)]
        exact ⟨by omega, by simp [offN, hc]; exact h.eoff, h.len, fun _ => rfl, fun _ => ⟨s, hs, by rw [hl]; simp [lastN, wantN, offN, hc]⟩⟩
      · by_cases h2 : d = 2
        · subst h2
          have hm : D.meet = (7, { D with plan := l.drop (i + 1), off := true }) := by simp [DiskM.meet, h.eoff, hp, hd]
          rw [hm]
          refine ⟨by simp [wantN, offN, hc], fun _ => ?_⟩
          rw [if_pos (by simp)]
          exact ⟨by omega, by simp [offN, hc], h.len, by simp [offN, hc], by simp [offN, hc]⟩
        · have hm : D.meet = (0, { D with plan := l.drop (i + 1) }) := by simp [DiskM.meet, h.eoff, hp, hd, h1, h2]
          rw [hm]
          refine ⟨by simp [wantN, offN, hc, h1, h2], fun ec => ?_⟩
          rw [if_neg (by simp)]
          refine ⟨by omega, by simp [offN, hc, h2]; exact h.eoff, hlen _ rfl, fun _ => rfl, fun _ => ?_⟩
          obtain ⟨s, h3, h4⟩ := hput { D with plan := l.drop (i + 1) } rfl
          exact ⟨s, h3, by rw [h4]; simp [lastN, wantN, offN, hc, h1, h2, ec]⟩

theorem pinv_rd {l : List UInt8} {i : Nat} {D : DiskM} {off : Bool} {last : UInt8} (h : PInv l i D off last) (ho : off = false) : D.rdE 0 = 0 ∧ (D.rd 0)[0]? = some last := by
  have hhas : D.has 0 := ⟨by omega, by rw [h.len]; decide⟩
  obtain ⟨s, hs, hl⟩ := h.last ho
  have : D.off = false := h.eoff.trans ho
  refine ⟨by simp [DiskM.rdE, this, hhas], ?_⟩
  simp only [DiskM.rd, this, hhas, if_true]
  have e : (0 : Int).toNat = 0 := rfl
  rw [e, hs]
  exact hl

theorem byte_of {i : Nat} (h : i < 256) : IntKind.u8.wrap (i : Int) = ((UInt8.ofNat i).toNat : Int) := by
  rw [IntWalk.u8_in _ (by omega), UInt8.toNat_ofNat_of_lt' (by show i < 256; exact h)]
theorem diskPlans_any {F : Fr} {v : Value} {l : List UInt8} (hr : SlR F.hf v 1 l.length (u8s l)) : Spec Try.prog F 5 [v] [] (fun u _ => u = .bool true) := by
  refine Spec.body Try.func5 rfl Try.ntmps5 rfl ?_
  refine Cod.seq ?_
  refine Cod.region ?_
  refine Ops.st (.assign rfl) rfl rfl rfl ?_
  refine Ops.nil ?_
  refine Ext.seq ?_
  refine Cod.seq ?_
  refine Cod.region ?_
  refine Ops.call ⟨Try.call9⟩ rfl rfl rfl (by repeat' first | exact Takes.nil _ | exact TakeP.here _ | apply TakeP.there | apply Takes.cons) (fun F' hF => awake_any) rfl rfl rfl ?_
  rintro _ _ ⟨rfl, rfl⟩
  refine Ops.st (.assign rfl) rfl rfl rfl ?_
  refine Ops.nil ?_
  refine Ext.seq ?_
  refine Cod.seq ?_
  refine Cod.region ?_
  refine Ops.call ⟨Try.call10⟩ rfl rfl rfl (by repeat' first | exact Takes.nil _ | exact TakeP.here _ | apply TakeP.there | apply Takes.cons) (fun F' hF => new_ok (n := 2) (by decide)) rfl rfl rfl ?_
  rintro _ _ ⟨b, rfl, rfl⟩
  refine Ops.st (.move rfl) rfl rfl rfl ?_
  refine Ops.st (.extract rfl rfl) rfl rfl rfl ?_
  refine Ops.st (.extract rfl rfl) rfl rfl rfl ?_
  refine Ops.st (.assign rfl) rfl rfl rfl ?_
  refine Ops.st (.assign rfl) rfl rfl rfl ?_
  refine Ops.nil ?_
  refine Ext.seq ?_
  refine Cod.seq ?_
  refine Cod.seq ?_
  refine Cod.region ?_
  refine Ops.st (.move rfl) rfl rfl rfl ?_
  refine Ops.st (.notB rfl) rfl rfl rfl ?_
  refine Ops.st (.move rfl) rfl rfl rfl ?_
  refine Ops.stG rfl rfl rfl rfl (.move rfl) rfl rfl ?_
  refine Ops.stG rfl rfl rfl rfl (.neq rfl rfl) rfl rfl ?_
  refine Ops.st (.pickF rfl rfl rfl) rfl rfl rfl ?_
  refine Ops.st (.move rfl) rfl rfl rfl ?_
  refine Ops.stG rfl rfl rfl rfl (.move rfl) rfl rfl ?_
  refine Ops.stG rfl rfl rfl rfl (.eqPN rfl rfl Try.underlying24) rfl rfl ?_
  refine Ops.st (.pickF rfl rfl rfl) rfl rfl rfl ?_
  refine Ops.st (.move rfl) rfl rfl rfl ?_
  refine Ops.stG rfl rfl rfl rfl (.move rfl) rfl rfl ?_
  refine Ops.stG rfl rfl rfl rfl (.len rfl (Rd.ro hr) Try.runUnderlying22) rfl rfl ?_
  refine Ops.stG rfl rfl rfl rfl (.gtr rfl rfl) rfl rfl ?_
  refine Ops.st (.pickF rfl rfl rfl) rfl rfl rfl ?_
  refine Ops.nil ?_
  refine Ext.seq ?_
  refine Cod.condD rfl (fun hlen => ?_) (fun hlen => ?_)
  ·
    refine Cod.seq ?_
    refine Cod.region ?_
    refine Ops.st (.move rfl) rfl rfl rfl ?_
    refine Ops.st (.move rfl) rfl rfl rfl ?_
    refine Ops.stG rfl rfl rfl rfl (.move rfl) rfl rfl ?_
    refine Ops.stG rfl rfl rfl rfl (.eql rfl rfl) rfl rfl ?_
    refine Ops.st (.pickT rfl rfl rfl) rfl rfl rfl ?_
    refine Ops.st (.assign rfl) rfl rfl rfl ?_
    refine Ops.nil ?_
    refine Ext.seq ?_
    exact Cod.ret (Ext.seqR (Ext.ret rfl rfl rfl))
  ·
    refine Cod.skip ?_
    refine Ext.seq ?_
    refine Cod.seq ?_
    refine Cod.region ?_
    refine Ops.st (.move rfl) rfl rfl rfl ?_
    refine Ops.st (.move rfl) rfl rfl rfl ?_
    refine Ops.call ⟨Try.call15⟩ rfl rfl rfl (by repeat' first | exact Takes.nil _ | exact TakeP.here _ | apply TakeP.there | apply Takes.cons) (fun F' hF => plan_any (hr.mono hF.hf) (by omega)) rfl rfl rfl ?_
    rintro _ _ rfl
    refine Ops.nil ?_
    refine Ext.seq ?_
    refine Cod.seq ?_
    refine Cod.region ?_
    refine Ops.st (.assign rfl) rfl rfl rfl ?_
    refine Ops.nil ?_
    refine Ext.seq ?_
    refine Cod.seq ?_
    refine Cod.region ?_
    refine Ops.st (.assign rfl) rfl rfl rfl ?_
    refine Ops.nil ?_
    refine Ext.seq ?_
    refine Cod.seq ?_
    refine Cod.seq ?_
    refine Cod.region ?_
    refine Ops.st (.assign rfl) rfl rfl rfl ?_
    refine Ops.nil ?_
    refine Ext.seq ?_
    refine Cod.cutK (fun _ : Unit => ⟨True, [], []⟩) ?_ ?_
    ·
      refine Cod.block ?_
      refine Cod.loop (fun g : Nat × DiskM × Bool × UInt8 => ⟨PInv l g.1 g.2.1 g.2.2.1 g.2.2.2, [(0, v), (4, .pointer (some ⟨b, 0, none⟩)), (6, .bool g.2.2.1), (7, .int .u8 (g.2.2.2.toNat : Int)), (8, .int .i64 g.1)], [disk b g.2.1]⟩) (fun g => l.length + 3 - g.1) (0, { D0 2 with plan := l }, false, 0) ⟨by omega, rfl, rfl, fun _ => rfl, fun _ => ⟨List.replicate 128 0, rfl, rfl⟩⟩ ⟨rfl, rfl, rfl, rfl, rfl, trivial⟩ (Ent.take (by repeat' first | exact Takes.nil _ | exact TakeP.here _ | apply TakeP.there | apply Takes.cons)) ?_
      rintro ⟨i, D, off, last⟩ hI
      dsimp only
      refine Cod.seq ?_
      refine Cod.seq ?_
      refine Cod.region ?_
      refine Ops.st (.move rfl) rfl rfl rfl ?_
      refine Ops.st (.move rfl) rfl rfl rfl ?_
      refine Ops.st (.len rfl (by first | assumption | exact Rd.vec (by repeat first | exact TakeP.here _ | apply TakeP.there) | exact Rd.ro (by assumption)) Try.runUnderlying22) rfl rfl rfl ?_
      refine Ops.st (.add rfl rfl (by first | exact IntWalk.i64_in _ (by omega) | rfl)) rfl rfl rfl ?_
      refine Ops.st (.lss rfl rfl) rfl rfl rfl ?_
      refine Ops.nil ?_
      refine Ext.seq ?_
      refine Cod.condD rfl (fun h => ?_) (fun h => ?_)
      ·
        refine Cod.skip ?_
        refine Ext.seq ?_
        refine Cod.seq ?_
        refine Cod.block ?_
        refine Cod.seq ?_
        refine Cod.region ?_
        refine Ops.st (.assign rfl) rfl rfl rfl ?_
        refine Ops.nil ?_
        refine Ext.seq ?_
        refine Cod.seq ?_
        refine Cod.cutK (fun _ : Unit => ⟨True, [(0, v), (4, .pointer (some ⟨b, 0, none⟩)), (6, .bool (offN l i off)), (7, .int .u8 (last.toNat : Int)), (8, .int .i64 i), (9, .int .i64 0)], [disk b D]⟩) ?_ ?_
        ·
          refine Cod.seq ?_
          refine Cod.region ?_
          refine Ops.st (.move rfl) rfl rfl rfl ?_
          refine Ops.st (.move rfl) rfl rfl rfl ?_
          refine Ops.st (.len rfl (Rd.ro hr) Try.runUnderlying22) rfl rfl rfl ?_
          refine Ops.st (.lss rfl rfl) rfl rfl rfl ?_
          refine Ops.st (.move rfl) rfl rfl rfl ?_
          refine Ops.splitD (t := 52) rfl (fun h1 => ?_) (fun h1 => ?_)
          ·
            obtain ⟨c, hc⟩ : ∃ c, l[i]? = some c := ⟨_, List.getElem?_eq_getElem (by omega)⟩
            refine Ops.stG rfl rfl rfl (decide_eq_true h1) (.move rfl) rfl rfl ?_
            refine Ops.stG rfl rfl rfl (decide_eq_true h1) (.move rfl) rfl rfl ?_
            refine Ops.stG rfl rfl rfl (decide_eq_true h1) (.indexAddr (j := i) rfl rfl (Rd.ro hr) Try.runUnderlying22 Try.sizeOf5 rfl (by omega) (Nat.mul_one i)) rfl rfl ?_
            refine Ops.stG rfl rfl rfl (decide_eq_true h1) (.load_elem rfl (Rd.ro hr) Try.isAgg5 (u8s_get hc)) rfl rfl ?_
            refine Ops.stG rfl rfl rfl (decide_eq_true h1) (.eql rfl rfl) rfl rfl ?_
            refine Ops.st (.pickT rfl (decide_eq_true h1) rfl) rfl rfl rfl ?_
            refine Ops.nil ?_
            refine Ext.seq ?_
            refine Cod.condD rfl (fun h2 => ?_) (fun h2 => ?_)
            ·
              refine Cod.region ?_
              refine Ops.st (.assign rfl) rfl rfl rfl ?_
              refine Ops.nil ?_
              exact Ext.at_ () trivial ⟨rfl, rfl, (by simp [offN, hc, u8_eq (k := 2) h2, Env.get, Nat.beq]), rfl, rfl, rfl, trivial⟩ (Ent.refl _)
            ·
              refine Cod.skip ?_
              exact Ext.at_ () trivial ⟨rfl, rfl, (by simp [offN, hc, u8_ne (d := 2) h2 rfl, Env.get, Nat.beq]), rfl, rfl, rfl, trivial⟩ (Ent.refl _)
          ·
            refine Ops.skipG rfl rfl rfl (decide_eq_false h1) rfl rfl ?_
            refine Ops.skipG rfl rfl rfl (decide_eq_false h1) rfl rfl ?_
            refine Ops.skipG rfl rfl rfl (decide_eq_false h1) rfl rfl ?_
            refine Ops.skipG rfl rfl rfl (decide_eq_false h1) rfl rfl ?_
            refine Ops.skipG rfl rfl rfl (decide_eq_false h1) rfl rfl ?_
            refine Ops.st (.pickF rfl (decide_eq_false h1) rfl) rfl rfl rfl ?_
            refine Ops.nil ?_
            refine Ext.seq ?_
            refine Cod.condF rfl rfl ?_
            refine Cod.skip ?_
            exact Ext.at_ () trivial ⟨rfl, rfl, (by simp [offN, List.getElem?_eq_none (show l.length ≤ i by omega), Env.get, Nat.beq]), rfl, rfl, rfl, trivial⟩ (Ent.refl _)
        ·
          rintro _ _
          dsimp only
          refine Cod.seq ?_
          refine Cod.cutK (fun _ : Unit => ⟨True, [(0, v), (4, .pointer (some ⟨b, 0, none⟩)), (6, .bool (offN l i off)), (7, .int .u8 ((lastN l i off last).toNat : Int)), (8, .int .i64 i), (9, .int .i64 (wantN l i off))], [disk b D]⟩) ?_ ?_
          ·
            refine Cod.block ?_
            refine Cod.seq ?_
            refine Cod.region ?_
            refine Ops.st (.move rfl) rfl rfl rfl ?_
            refine Ops.st (.assign rfl) rfl rfl rfl ?_
            refine Ops.nil ?_
            refine Ext.seq ?_
            refine Cod.cond rfl (fun h3 => ?_) (fun h3 => ?_)
            ·
              refine Cod.region ?_
              refine Ops.st (.assign rfl) rfl rfl rfl ?_
              refine Ops.nil ?_
              refine Ext.block ?_
              exact Ext.at_ () trivial ⟨rfl, rfl, rfl, (by simp [lastN, wantN, h3, Env.get, Nat.beq]), rfl, (by simp [wantN, h3, Env.get, Nat.beq]), trivial⟩ (Ent.refl _)
            ·
              refine Cod.seq ?_
              refine Cod.region ?_
              refine Ops.st (.move rfl) rfl rfl rfl ?_
              refine Ops.st (.move rfl) rfl rfl rfl ?_
              refine Ops.st (.len rfl (Rd.ro hr) Try.runUnderlying22) rfl rfl rfl ?_
              refine Ops.st (.lss rfl rfl) rfl rfl rfl ?_
              refine Ops.st (.move rfl) rfl rfl rfl ?_
              refine Ops.splitD (t := 69) rfl (fun h1 => ?_) (fun h1 => ?_)
              ·
                obtain ⟨c, hc⟩ : ∃ c, l[i]? = some c := ⟨_, List.getElem?_eq_getElem (by omega)⟩
                refine Ops.stG rfl rfl rfl (decide_eq_true h1) (.move rfl) rfl rfl ?_
                refine Ops.stG rfl rfl rfl (decide_eq_true h1) (.move rfl) rfl rfl ?_
                refine Ops.stG rfl rfl rfl (decide_eq_true h1) (.indexAddr (j := i) rfl rfl (Rd.ro hr) Try.runUnderlying22 Try.sizeOf5 rfl (by omega) (Nat.mul_one i)) rfl rfl ?_
                refine Ops.stG rfl rfl rfl (decide_eq_true h1) (.load_elem rfl (Rd.ro hr) Try.isAgg5 (u8s_get hc)) rfl rfl ?_
                refine Ops.stG rfl rfl rfl (decide_eq_true h1) (.eql rfl rfl) rfl rfl ?_
                refine Ops.st (.pickT rfl (decide_eq_true h1) rfl) rfl rfl rfl ?_
                refine Ops.st (.assign rfl) rfl rfl rfl ?_
                refine Ops.nil ?_
                refine Ext.seq ?_
                refine Cod.condD rfl (fun h2 => ?_) (fun h2 => ?_)
                ·
                  refine Cod.region ?_
                  refine Ops.st (.assign rfl) rfl rfl rfl ?_
                  refine Ops.nil ?_
                  refine Ext.block ?_
                  exact Ext.at_ () trivial ⟨rfl, rfl, rfl, (by simp [lastN, wantN, h3, hc, u8_eq (k := 1) h2, Env.get, Nat.beq]), rfl, (by simp [wantN, h3, hc, u8_eq (k := 1) h2, Env.get, Nat.beq]), trivial⟩ (Ent.refl _)
                ·
                  refine Cod.region ?_
                  have hwz : wantN l i off = 0 := by simp [wantN, h3, hc, u8_ne (d := 1) h2 rfl]
                  refine Ops.st (.move rfl) rfl rfl rfl ?_
                  refine Ops.st (.add rfl rfl (by first | exact IntWalk.i64_in _ (by omega) | rfl)) rfl rfl rfl ?_
                  refine Ops.st (.conv rfl Try.runUnderlying3 Try.runUnderlying5 (r := ((UInt8.ofNat (i + 1)).toNat : Int)) (byte_of (by omega))) rfl rfl rfl ?_
                  refine Ops.st (.assign rfl) rfl rfl rfl ?_
                  refine Ops.nil ?_
                  refine Ext.block ?_
                  exact Ext.at_ () trivial ⟨rfl, rfl, rfl, (by simp [lastN, hwz, Env.get, Nat.beq]), rfl, (by simp [hwz, Env.get, Nat.beq]), trivial⟩ (Ent.refl _)
              ·
                refine Ops.skipG rfl rfl rfl (decide_eq_false h1) rfl rfl ?_
                refine Ops.skipG rfl rfl rfl (decide_eq_false h1) rfl rfl ?_
                refine Ops.skipG rfl rfl rfl (decide_eq_false h1) rfl rfl ?_
                refine Ops.skipG rfl rfl rfl (decide_eq_false h1) rfl rfl ?_
                refine Ops.skipG rfl rfl rfl (decide_eq_false h1) rfl rfl ?_
                refine Ops.st (.pickF rfl (decide_eq_false h1) rfl) rfl rfl rfl ?_
                refine Ops.st (.assign rfl) rfl rfl rfl ?_
                refine Ops.nil ?_
                refine Ext.seq ?_
                refine Cod.condF rfl rfl ?_
                refine Cod.region ?_
                have hwz : wantN l i off = 0 := by simp [wantN, h3, List.getElem?_eq_none (show l.length ≤ i by omega)]
                refine Ops.st (.move rfl) rfl rfl rfl ?_
                refine Ops.st (.add rfl rfl (by first | exact IntWalk.i64_in _ (by omega) | rfl)) rfl rfl rfl ?_
                refine Ops.st (.conv rfl Try.runUnderlying3 Try.runUnderlying5 (r := ((UInt8.ofNat (i + 1)).toNat : Int)) (byte_of (by omega))) rfl rfl rfl ?_
                refine Ops.st (.assign rfl) rfl rfl rfl ?_
                refine Ops.nil ?_
                refine Ext.block ?_
                exact Ext.at_ () trivial ⟨rfl, rfl, rfl, (by simp [lastN, hwz, Env.get, Nat.beq]), rfl, (by simp [hwz, Env.get, Nat.beq]), trivial⟩ (Ent.refl _)
          ·
            rintro _ _
            dsimp only
            refine Cod.seq ?_
            refine Cod.region ?_
            refine Ops.st (.move rfl) rfl rfl rfl ?_
            refine Ops.st (.move rfl) rfl rfl rfl ?_
            refine Ops.st (.add rfl rfl (by first | exact IntWalk.i64_in _ (by omega) | rfl)) rfl rfl rfl ?_
            refine Ops.st (.conv rfl Try.runUnderlying3 Try.runUnderlying5 (r := ((UInt8.ofNat (i + 1)).toNat : Int)) (byte_of (by omega))) rfl rfl rfl ?_
            refine Ops.ef (.lit1 ei22 rfl rfl rfl (by repeat' first | exact One.nil | apply One.cons rfl | (apply One.cons (Sl.one (by assumption))))) rfl rfl rfl ?_
            rintro u0 _ ⟨hu0, rfl⟩
            refine Ops.call ⟨Try.call11⟩ rfl rfl rfl (by repeat' first | exact Takes.nil _ | exact TakeP.here _ | apply TakeP.there | apply Takes.cons) (fun F' hF => write_any (k := 0) (l := [UInt8.ofNat (i + 1)]) ((Rd.vec (n := 1) (xs := u8s [UInt8.ofNat (i + 1)]) (by repeat first | exact TakeP.here _ | apply TakeP.there)).wider hF) (by simp)) rfl rfl rfl ?_
            rintro _ _ ⟨rfl, rfl⟩
            obtain ⟨hw1, hI2⟩ := meet_round hI (by omega) (UInt8.ofNat (i + 1))
            replace hI2 := hI2 rfl
            rw [hw1]
            generalize (D.write 0 [UInt8.ofNat (i + 1)]).2 = D2 at hI2 ⊢
            refine Ops.st (.assign rfl) rfl rfl rfl ?_
            refine Ops.nil ?_
            refine Ext.seq ?_
            refine Cod.seq ?_
            refine Cod.region ?_
            refine Ops.st (.move rfl) rfl rfl rfl ?_
            refine Ops.call ⟨Try.call12⟩ rfl rfl rfl (by repeat' first | exact Takes.nil _ | exact TakeP.here _ | apply TakeP.there | apply Takes.cons) (fun F' hF => read_uni) rfl rfl rfl ?_
            rintro _ _ ⟨u1, rfl, hu1, rfl⟩
            refine Ops.st (.move rfl) rfl rfl rfl ?_
            refine Ops.st (.extract rfl rfl) rfl rfl rfl ?_
            refine Ops.st (.extract rfl rfl) rfl rfl rfl ?_
            refine Ops.st (.assign rfl) rfl rfl rfl ?_
            refine Ops.st (.assign rfl) rfl rfl rfl ?_
            refine Ops.nil ?_
            refine Ext.seq ?_
            refine Cod.seq ?_
            refine Cod.region ?_
            refine Ops.st (.move rfl) rfl rfl rfl ?_
            refine Ops.st (.move rfl) rfl rfl rfl ?_
            refine Ops.st (.neq rfl rfl) rfl rfl rfl ?_
            refine Ops.st (.move rfl) rfl rfl rfl ?_
            refine Ops.stG rfl rfl rfl (by simp) (.move rfl) rfl rfl ?_
            refine Ops.callG rfl rfl rfl (by simp) ⟨Try.call16⟩ rfl rfl rfl (by repeat' first | exact Takes.nil _ | exact TakeP.here _ | apply TakeP.there | apply Takes.cons) (fun F' hF => off_uni) rfl rfl ?_
            rintro _ _ ⟨rfl, rfl⟩
            rw [hI2.eoff]
            refine Ops.stG rfl rfl rfl (by simp) (.move rfl) rfl rfl ?_
            refine Ops.stG rfl rfl rfl (by simp) (.neB rfl rfl Try.underlying4) rfl rfl ?_
            refine Ops.st (.pickF rfl (by simp) rfl) rfl rfl rfl ?_
            refine Ops.st (.move rfl) rfl rfl rfl ?_
            refine Ops.stG rfl rfl rfl (by simp) (.move rfl) rfl rfl ?_
            refine Ops.stG rfl rfl rfl (by simp) (.notB rfl) rfl rfl ?_
            refine Ops.stG rfl rfl rfl (by simp) (.move rfl) rfl rfl ?_
            refine Ops.splitB (t := 99) rfl (fun h4 => ?_) (fun h4 => ?_)
            ·
              have h5 : offN l i off = false := by simpa using h4
              obtain ⟨hr1, hr2⟩ := pinv_rd hI2 h5
              refine Ops.stG rfl rfl rfl h4 (.move rfl) rfl rfl ?_
              refine Ops.stG rfl rfl rfl h4 (.neq rfl rfl) rfl rfl ?_
              refine Ops.stG rfl rfl rfl h4 (.move rfl) rfl rfl ?_
              refine Ops.stG rfl rfl rfl (by rw [hr1]; rfl) (.move rfl) rfl rfl ?_
              refine Ops.stG rfl rfl rfl (by rw [hr1]; rfl) (.indexAddr (v := u1) (j := 0) rfl rfl (Rd.vec (by repeat first | exact TakeP.here _ | apply TakeP.there)) Try.runUnderlying22 Try.sizeOf5 rfl (by have := (List.getElem?_eq_some_iff.1 hr2).1; exact this) rfl) rfl rfl ?_
              refine Ops.stG rfl rfl rfl (by rw [hr1]; rfl) (.load_elem (v := u1) rfl (Rd.vec (by repeat first | exact TakeP.here _ | apply TakeP.there)) Try.isAgg5 (u8s_get hr2)) rfl rfl ?_
              refine Ops.stG rfl rfl rfl (by rw [hr1]; rfl) (.move rfl) rfl rfl ?_
              refine Ops.stG rfl rfl rfl (by rw [hr1]; rfl) (.neq rfl rfl) rfl rfl ?_
              refine Ops.stG rfl rfl rfl h4 (.pickF rfl (by rw [hr1]; rfl) rfl) rfl rfl ?_
              refine Ops.stG rfl rfl rfl (by simp) (.pickT rfl h4 rfl) rfl rfl ?_
              refine Ops.st (.pickF rfl (by simp) rfl) rfl rfl rfl ?_
              refine Ops.nil ?_
              refine Ext.seq ?_
              refine Cod.condF rfl (by simp) ?_
              refine Cod.skip ?_
              refine Ext.block ?_
              refine Ext.seq ?_
              refine Cod.region ?_
              refine Ops.st (.move rfl) rfl rfl rfl ?_
              refine Ops.st (.add rfl rfl (by first | exact IntWalk.i64_in _ (by omega) | rfl)) rfl rfl rfl ?_
              refine Ops.st (.assign rfl) rfl rfl rfl ?_
              refine Ops.nil ?_
              exact Ext.back (i + 1, D2, offN l i off, lastN l i off last) (by dsimp only; omega) hI2 ⟨rfl, rfl, rfl, rfl, rfl, trivial⟩ (Ent.take (by repeat' first | exact Takes.nil _ | exact TakeP.here _ | apply TakeP.there | apply Takes.cons))
            ·
              refine Ops.skipG rfl rfl rfl h4 rfl rfl ?_
              refine Ops.skipG rfl rfl rfl h4 rfl rfl ?_
              refine Ops.skipG rfl rfl rfl h4 rfl rfl ?_
              refine Ops.skipU rfl rfl rfl rfl rfl ?_
              refine Ops.skipU rfl rfl rfl rfl rfl ?_
              refine Ops.skipU rfl rfl rfl rfl rfl ?_
              refine Ops.skipU rfl rfl rfl rfl rfl ?_
              refine Ops.skipU rfl rfl rfl rfl rfl ?_
              refine Ops.skipG rfl rfl rfl h4 rfl rfl ?_
              refine Ops.stG rfl rfl rfl (by simp) (.pickF rfl h4 rfl) rfl rfl ?_
              refine Ops.st (.pickF rfl (by simp) rfl) rfl rfl rfl ?_
              refine Ops.nil ?_
              refine Ext.seq ?_
              refine Cod.condF rfl rfl ?_
              refine Cod.skip ?_
              refine Ext.block ?_
              refine Ext.seq ?_
              refine Cod.region ?_
              refine Ops.st (.move rfl) rfl rfl rfl ?_
              refine Ops.st (.add rfl rfl (by first | exact IntWalk.i64_in _ (by omega) | rfl)) rfl rfl rfl ?_
              refine Ops.st (.assign rfl) rfl rfl rfl ?_
              refine Ops.nil ?_
              exact Ext.back (i + 1, D2, offN l i off, lastN l i off last) (by dsimp only; omega) hI2 ⟨rfl, rfl, rfl, rfl, rfl, trivial⟩ (Ent.take (by repeat' first | exact Takes.nil _ | exact TakeP.here _ | apply TakeP.there | apply Takes.cons))
      ·
        refine Cod.exit (Ext.seqX (Ext.stopX (Ext.hit ?_)))
        exact Ext.at_ () trivial trivial (Ent.nil _)
    ·
      rintro _ _
      dsimp only
      refine Cod.seq ?_
      refine Cod.region ?_
      refine Ops.st (.assign rfl) rfl rfl rfl ?_
      refine Ops.nil ?_
      refine Ext.seq ?_
      exact Cod.ret (Ext.ret rfl rfl rfl)
end Go.Proofs.Ytjlgdbmeajdciaa
