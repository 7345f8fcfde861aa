/- How many values there are; are fields and a record not too many; arguments that are fields and records, opened. No condition. -/
import Derived.Test.YtacgngfjanlfnaaPJ
import Derived.Test.YtacgngfjanlfnaaLF
import Derived.Test.YtacgngfjanlfnaaLL
namespace Go.Proofs.Ytacgngfjanlfnaa
open Go Go.ChangeShapes Go.WideShapes Go.ChangeAt Go.RowKit

theorem wtQ_mem : ∀ {l : List (List Val)} {j : Nat} {r : List Val}, l[j]? = some r → wtR r + wtQ (l.drop (j + 1)) = wtQ (l.drop j) := by
  intro l j r h
  rw [drop_get h, wtQ]
theorem wtR_get {vs : List Val} {i : Nat} {n : UInt64} {b : List UInt8} {l : List (List Val)} (h : vs[i]? = some (.mk n b l)) : wtR (vs.drop i) = 8 + b.length + wtQ l + wtR (vs.drop (i + 1)) := by
  rw [drop_get h, wtR, wtV]
theorem wtR_drop : ∀ (vs : List Val) (i : Nat), wtR (vs.drop i) ≤ wtR vs
  | [], i => by simp
  | v :: vs, 0 => Nat.le_refl _
  | v :: vs, i + 1 => by
    have := wtR_drop vs i
    rw [List.drop_succ_cons, wtR]
    omega
theorem wtQ_drop : ∀ (l : List (List Val)) (i : Nat), wtQ (l.drop i) ≤ wtQ l
  | [], i => by simp
  | v :: l, 0 => Nat.le_refl _
  | v :: l, i + 1 => by
    have := wtQ_drop l i
    rw [List.drop_succ_cons, wtQ]
    omega

theorem values_step {N : Nat} (ih : ∀ {F : Fr} {vv : Value} {ws : List Value} {vs : List Val} {left : Int}, wtR vs < N → SlR F.hf vv 3 vs.length ws → ValsR F.hf vs ws → -100000000000000000 ≤ left → left ≤ 5000 →
      Spec Try.prog F 25 [vv, .int .i64 left] [] (fun u hs' => (∃ r : Int, u = .int .i64 r ∧ -100000000000000000 ≤ r ∧ r ≤ left ∧ (0 < r → (wtR vs : Int) + 108 * r ≤ 108 * left)) ∧ hs' = []))
    {F : Fr} {vv : Value} {ws : List Value} {vs : List Val} {left : Int} (hN : wtR vs < N + 1) (hs : SlR F.hf vv 3 vs.length ws) (hw : ValsR F.hf vs ws) (hlo : -100000000000000000 ≤ left) (hhi : left ≤ 5000) :
    Spec Try.prog F 25 [vv, .int .i64 left] [] (fun u hs' => (∃ r : Int, u = .int .i64 r ∧ -100000000000000000 ≤ r ∧ r ≤ left ∧ (0 < r → (wtR vs : Int) + 108 * r ≤ 108 * left)) ∧ hs' = []) := by
  have hvl := hs.small
  refine Spec.body Try.func25 rfl Try.ntmps25 rfl ?_
  refine Cod.seq ?_
  refine Cod.region ?_
  refine Ops.st (.assign rfl) rfl rfl rfl ?_
  refine Ops.nil ?_
  refine Ext.seq ?_
  refine Cod.seq ?_
  refine Cod.seq ?_
  refine Cod.region ?_
  refine Ops.st (.assign rfl) rfl rfl rfl ?_
  refine Ops.nil ?_
  refine Ext.seq ?_
  refine Cod.block ?_
  refine Cod.loop (fun g : Nat × Int => ⟨g.1 ≤ vs.length ∧ -100000000000000000 ≤ g.2 ∧ g.2 ≤ left ∧ (0 < g.2 → (wtR vs : Int) + 108 * g.2 ≤ 108 * left + wtR (vs.drop g.1)), [(0, vv), (1, .int .i64 g.2), (5, .int .i64 g.1)], []⟩) (fun g => vs.length - g.1) (0, left) ⟨Nat.zero_le _, hlo, Int.le_refl _, fun _ => by dsimp only; rw [List.drop_zero]; omega⟩ ⟨rfl, rfl, rfl, trivial⟩ (Ent.nil _) ?_
  rintro ⟨i, x⟩ ⟨hi, hx1, hx2, hx3⟩
  dsimp only
  refine Cod.seq ?_
  refine Cod.seq ?_
  refine Cod.region ?_
  dsimp only at hi hx1 hx2 hx3
  refine Ops.st (.move rfl) rfl rfl rfl ?_
  refine Ops.st (.move rfl) rfl rfl rfl ?_
  refine Ops.st (.len rfl (Rd.ro hs) Try.runUnderlying23) rfl rfl rfl ?_
  refine Ops.st (.lss rfl rfl) rfl rfl rfl ?_
  refine Ops.st (.move rfl) rfl rfl rfl ?_
  refine Ops.splitD (t := 11) rfl (fun h1 => ?_) (fun h1 => ?_)
  ·
    refine Ops.stG rfl rfl rfl (decide_eq_true h1) (.move rfl) rfl rfl ?_
    refine Ops.stG rfl rfl rfl (decide_eq_true h1) (.gtr rfl rfl) rfl rfl ?_
    refine Ops.st (.pickT rfl (decide_eq_true h1) rfl) rfl rfl rfl ?_
    refine Ops.nil ?_
    refine Ext.seq ?_
    refine Cod.condD rfl (fun h2 => ?_) (fun h2 => ?_)
    ·
      refine Cod.skip ?_
      refine Ext.seq ?_
      refine Cod.seq ?_
      refine Cod.block ?_
      refine Cod.seq ?_
      refine Cod.region ?_
      obtain ⟨n, b, l, hv⟩ : ∃ n b l, vs[i]? = some (.mk n b l) := by rcases he : vs[i]'(by omega) with ⟨n, b, l⟩; exact ⟨n, b, l, by rw [List.getElem?_eq_getElem (by omega), he]⟩
      obtain ⟨xv, yv, rows, hvrow, hxr, hyr, hrs⟩ := hw.get hv
      have hbl := hxr.small
      have hll := hyr.small
      have hwt := wtR_get hv
      have hwd := wtR_drop vs i
      refine Ops.st (.move rfl) rfl rfl rfl ?_
      refine Ops.st (.sub rfl rfl (by first | exact IntWalk.i64_in _ (by omega) | rfl)) rfl rfl rfl ?_
      refine Ops.st (.move rfl) rfl rfl rfl ?_
      refine Ops.st (.move rfl) rfl rfl rfl ?_
      refine Ops.st (.indexAddr (j := i) (off := i * 3) rfl rfl (Rd.ro hs) Try.runUnderlying23 Try.sizeOf40 rfl (by omega) rfl) rfl rfl rfl ?_
      refine Ops.st (.fieldAddr_elem (j := i * 3 + 1) rfl (Rd.ro hs) fa40_1 (by omega) rfl) rfl rfl rfl ?_
      refine Ops.st (.load_elem rfl (Rd.ro hs) Try.isAgg26 (row_at hvrow 1 _ rfl)) rfl rfl rfl ?_
      refine Ops.st (.len rfl (Rd.ro hxr) Try.runUnderlying26) rfl rfl rfl ?_
      refine Ops.st (.quo (r := ((b.length / 100 : Nat) : Int)) rfl rfl (by decide) (by rw [IntWalk.i64_quo _ _ (by omega)]; omega)) rfl rfl rfl ?_
      refine Ops.st (.sub rfl rfl (by first | exact IntWalk.i64_in _ (by omega) | rfl)) rfl rfl rfl ?_
      refine Ops.st (.assign rfl) rfl rfl rfl ?_
      refine Ops.nil ?_
      refine Ext.seq ?_
      refine Cod.seq ?_
      refine Cod.region ?_
      refine Ops.st (.assign rfl) rfl rfl rfl ?_
      refine Ops.nil ?_
      refine Ext.seq ?_
      refine Cod.block ?_
      refine Cod.loop (fun g : Nat × Int => ⟨g.1 ≤ l.length ∧ -100000000000000000 ≤ g.2 ∧ g.2 ≤ left ∧ (0 < g.2 → (wtR vs : Int) + 108 * g.2 ≤ 108 * left + wtR (vs.drop (i + 1)) + wtQ (l.drop g.1)), [(0, vv), (1, .int .i64 g.2), (5, .int .i64 i), (6, .int .i64 g.1)], []⟩) (fun g => l.length - g.1) (0, x - 1 - ((b.length / 100 : Nat) : Int)) ⟨Nat.zero_le _, by dsimp only; omega, by dsimp only; omega, fun _ => by have := hx3 h2; dsimp only; rw [List.drop_zero]; omega⟩ ⟨rfl, rfl, rfl, rfl, trivial⟩ (Ent.nil _) ?_
      rintro ⟨j, y⟩ ⟨hj, hy1, hy2, hy3⟩
      dsimp only
      refine Cod.seq ?_
      refine Cod.seq ?_
      refine Cod.region ?_
      dsimp only at hj hy1 hy2 hy3
      refine Ops.st (.move rfl) rfl rfl rfl ?_
      refine Ops.st (.move rfl) rfl rfl rfl ?_
      refine Ops.st (.move rfl) rfl rfl rfl ?_
      refine Ops.st (.indexAddr (j := i) (off := i * 3) rfl rfl (Rd.ro hs) Try.runUnderlying23 Try.sizeOf40 rfl (by omega) rfl) rfl rfl rfl ?_
      refine Ops.st (.fieldAddr_elem (j := i * 3 + 2) rfl (Rd.ro hs) fa40_2 (by omega) rfl) rfl rfl rfl ?_
      refine Ops.st (.load_elem rfl (Rd.ro hs) Try.isAgg38 (row_at hvrow 2 _ rfl)) rfl rfl rfl ?_
      refine Ops.st (.len rfl (Rd.ro hyr) Try.runUnderlying38) rfl rfl rfl ?_
      refine Ops.st (.lss rfl rfl) rfl rfl rfl ?_
      refine Ops.st (.move rfl) rfl rfl rfl ?_
      refine Ops.splitD (t := 35) rfl (fun h3 => ?_) (fun h3 => ?_)
      ·
        refine Ops.stG rfl rfl rfl (decide_eq_true h3) (.move rfl) rfl rfl ?_
        refine Ops.stG rfl rfl rfl (decide_eq_true h3) (.gtr rfl rfl) rfl rfl ?_
        refine Ops.st (.pickT rfl (decide_eq_true h3) rfl) rfl rfl rfl ?_
        refine Ops.nil ?_
        refine Ext.seq ?_
        refine Cod.condD rfl (fun h4 => ?_) (fun h4 => ?_)
        ·
          refine Cod.skip ?_
          refine Ext.seq ?_
          refine Cod.seq ?_
          refine Cod.block ?_
          refine Cod.region ?_
          obtain ⟨r, hrj⟩ : ∃ r, l[j]? = some r := ⟨l[j]'(by omega), List.getElem?_eq_getElem (by omega)⟩
          obtain ⟨rv, rcs, hrv, hrr, hrq⟩ := hrs.get hrj
          have hq1 := wtQ_mem hrj
          have hq2 := wtQ_drop l j
          refine Ops.st (.move rfl) rfl rfl rfl ?_
          refine Ops.st (.move rfl) rfl rfl rfl ?_
          refine Ops.st (.indexAddr (j := i) (off := i * 3) rfl rfl (Rd.ro hs) Try.runUnderlying23 Try.sizeOf40 rfl (by omega) rfl) rfl rfl rfl ?_
          refine Ops.st (.fieldAddr_elem (j := i * 3 + 2) rfl (Rd.ro hs) fa40_2 (by omega) rfl) rfl rfl rfl ?_
          refine Ops.st (.load_elem rfl (Rd.ro hs) Try.isAgg38 (row_at hvrow 2 _ rfl)) rfl rfl rfl ?_
          refine Ops.st (.move rfl) rfl rfl rfl ?_
          refine Ops.st (.indexAddr (j := j) (off := j) rfl rfl (Rd.ro hyr) Try.runUnderlying38 Try.sizeOf23 rfl (by omega) (by omega)) rfl rfl rfl ?_
          refine Ops.st (.load_elem rfl (Rd.ro hyr) Try.isAgg23 hrv) rfl rfl rfl ?_
          refine Ops.st (.move rfl) rfl rfl rfl ?_
          refine Ops.st (.sub rfl rfl (by first | exact IntWalk.i64_in _ (by omega) | rfl)) rfl rfl rfl ?_
          refine Ops.call ⟨Try.call25⟩ rfl rfl rfl (by repeat' first | exact Takes.nil _ | exact TakeP.here _ | apply TakeP.there | apply Takes.cons) (fun F' hF => ih (left := y - 1) (by omega) (hrr.mono hF.hf) (hrq.mono hF.hf r) (by omega) (by omega)) rfl rfl rfl ?_
          rintro _ _ ⟨⟨z, rfl, hz1, hz2, hz3⟩, rfl⟩
          refine Ops.st (.assign rfl) rfl rfl rfl ?_
          refine Ops.nil ?_
          refine Ext.block ?_
          refine Ext.seq ?_
          refine Cod.region ?_
          refine Ops.st (.move rfl) rfl rfl rfl ?_
          refine Ops.st (.add rfl rfl (by first | exact IntWalk.i64_in _ (by omega) | rfl)) rfl rfl rfl ?_
          refine Ops.st (.assign rfl) rfl rfl rfl ?_
          refine Ops.nil ?_
          exact Ext.back (j + 1, z) (by dsimp only; omega) ⟨by dsimp only; omega, hz1, by dsimp only; omega, fun h => by dsimp only at h ⊢; have h5 := hz3 h; have h6 := hy3 h4; omega⟩ ⟨rfl, rfl, rfl, rfl, trivial⟩ (Ent.nil _)
        ·
          refine Cod.exit (Ext.seqX (Ext.stopX (Ext.hit ?_)))
          refine Ext.block ?_
          refine Ext.seq ?_
          refine Cod.region ?_
          refine Ops.st (.move rfl) rfl rfl rfl ?_
          refine Ops.st (.add rfl rfl (by first | exact IntWalk.i64_in _ (by omega) | rfl)) rfl rfl rfl ?_
          refine Ops.st (.assign rfl) rfl rfl rfl ?_
          refine Ops.nil ?_
          exact Ext.back (i + 1, y) (by dsimp only; omega) ⟨by dsimp only; omega, hy1, by dsimp only; omega, fun h => absurd h h4⟩ ⟨rfl, rfl, rfl, trivial⟩ (Ent.nil _)
      ·
        refine Ops.skipG rfl rfl rfl (decide_eq_false h3) rfl rfl ?_
        refine Ops.skipG rfl rfl rfl (decide_eq_false h3) rfl rfl ?_
        refine Ops.st (.pickF rfl (decide_eq_false h3) rfl) rfl rfl rfl ?_
        refine Ops.nil ?_
        refine Ext.seq ?_
        refine Cod.condF rfl (by simp) ?_
        refine Cod.exit (Ext.seqX (Ext.stopX (Ext.hit ?_)))
        refine Ext.block ?_
        refine Ext.seq ?_
        refine Cod.region ?_
        refine Ops.st (.move rfl) rfl rfl rfl ?_
        refine Ops.st (.add rfl rfl (by first | exact IntWalk.i64_in _ (by omega) | rfl)) rfl rfl rfl ?_
        refine Ops.st (.assign rfl) rfl rfl rfl ?_
        refine Ops.nil ?_
        exact Ext.back (i + 1, y) (by dsimp only; omega) ⟨by dsimp only; omega, hy1, by dsimp only; omega, fun h => by have h6 := hy3 h; rw [List.drop_of_length_le (by omega : l.length ≤ j), wtQ] at h6; dsimp only; omega⟩ ⟨rfl, rfl, rfl, trivial⟩ (Ent.nil _)
    ·
      refine Cod.exit (Ext.seqX (Ext.stopX (Ext.hit ?_)))
      refine Ext.seq ?_
      refine Cod.seq ?_
      refine Cod.region ?_
      refine Ops.st (.move rfl) rfl rfl rfl ?_
      refine Ops.st (.assign rfl) rfl rfl rfl ?_
      refine Ops.nil ?_
      refine Ext.seq ?_
      exact Cod.ret (Ext.ret rfl rfl ⟨⟨x, rfl, hx1, hx2, fun h => absurd h h2⟩, rfl⟩)
  ·
    refine Ops.skipG rfl rfl rfl (decide_eq_false h1) rfl rfl ?_
    refine Ops.skipG rfl rfl rfl (decide_eq_false h1) rfl rfl ?_
    refine Ops.st (.pickF rfl (decide_eq_false h1) rfl) rfl rfl rfl ?_
    refine Ops.nil ?_
    refine Ext.seq ?_
    refine Cod.condF rfl (by simp) ?_
    refine Cod.exit (Ext.seqX (Ext.stopX (Ext.hit ?_)))
    refine Ext.seq ?_
    refine Cod.seq ?_
    refine Cod.region ?_
    refine Ops.st (.move rfl) rfl rfl rfl ?_
    refine Ops.st (.assign rfl) rfl rfl rfl ?_
    refine Ops.nil ?_
    refine Ext.seq ?_
    exact Cod.ret (Ext.ret rfl rfl ⟨⟨x, rfl, hx1, hx2, fun h => by have h6 := hx3 h; rw [List.drop_of_length_le (by omega : vs.length ≤ i), wtR] at h6; omega⟩, rfl⟩)
theorem values_any : ∀ (N : Nat) {F : Fr} {vv : Value} {ws : List Value} {vs : List Val} {left : Int}, wtR vs < N → SlR F.hf vv 3 vs.length ws → ValsR F.hf vs ws → -100000000000000000 ≤ left → left ≤ 5000 →
      Spec Try.prog F 25 [vv, .int .i64 left] [] (fun u hs' => (∃ r : Int, u = .int .i64 r ∧ -100000000000000000 ≤ r ∧ r ≤ left ∧ (0 < r → (wtR vs : Int) + 108 * r ≤ 108 * left)) ∧ hs' = [])
  | 0, _, _, _, _, _, h, _, _, _, _ => absurd h (Nat.not_lt_zero _)
  | N + 1, _, _, _, _, _, h, hs, hw, h1, h2 => values_step (fun {F vv ws vs left} => values_any N) h hs hw h1 h2
theorem few_any {F : Fr} {lv vv : Value} {cs ws : List Value} {fs : List Fld} {vs : List Val} (hr : SlR F.hf lv 4 fs.length cs) (hc : FldsR F.hf fs cs) (hs : SlR F.hf vv 3 vs.length ws) (hw : ValsR F.hf vs ws) :
    Spec Try.prog F 12 [lv, vv] [] (fun u hs' => (∃ b : Bool, u = .bool b ∧ (b = true → wtR vs ≤ 70368744177664)) ∧ hs' = []) := by
  refine Spec.body Try.func12 rfl Try.ntmps12 rfl ?_
  refine Cod.seq ?_
  refine Cod.region ?_
  refine Ops.st (.assign rfl) rfl rfl rfl ?_
  refine Ops.nil ?_
  refine Ext.seq ?_
  refine Cod.seq ?_
  refine Cod.region ?_
  refine Ops.st (.move rfl) rfl rfl rfl ?_
  refine Ops.call ⟨Try.call16⟩ rfl rfl rfl (by repeat' first | exact Takes.nil _ | exact TakeP.here _ | apply TakeP.there | apply Takes.cons) (fun F' hF => fields_any 6 1 rfl (hr.mono hF.hf) (hc.mono hF.hf fs)) rfl rfl rfl ?_
  rintro _ _ ⟨⟨b, rfl⟩, rfl⟩
  refine Ops.st (.assign rfl) rfl rfl rfl ?_
  refine Ops.nil ?_
  refine Ext.seq ?_
  refine Cod.seq ?_
  refine Cod.region ?_
  refine Ops.st (.move rfl) rfl rfl rfl ?_
  refine Ops.st (.move rfl) rfl rfl rfl ?_
  refine Ops.splitB (t := 9) rfl (fun h1 => ?_) (fun h1 => ?_)
  ·
    refine Ops.stG rfl rfl rfl h1 (.move rfl) rfl rfl ?_
    refine Ops.callG rfl rfl rfl h1 ⟨Try.call25⟩ rfl rfl rfl (by repeat' first | exact Takes.nil _ | exact TakeP.here _ | apply TakeP.there | apply Takes.cons) (fun F' hF => values_any (wtR vs + 1) (Nat.lt_succ_self _) (hs.mono hF.hf) (hw.mono hF.hf vs) (by decide) (by decide)) rfl rfl ?_
    rintro _ _ ⟨⟨r, rfl, hr1, hr2, hr3⟩, rfl⟩
    refine Ops.stG rfl rfl rfl h1 (.gtr rfl rfl) rfl rfl ?_
    refine Ops.st (.pickT rfl h1 rfl) rfl rfl rfl ?_
    refine Ops.st (.assign rfl) rfl rfl rfl ?_
    refine Ops.nil ?_
    refine Ext.seq ?_
    exact Cod.ret (Ext.ret rfl rfl ⟨⟨_, rfl, fun h => by have h6 : 0 < r := (by simpa using h); have h5 := hr3 h6; omega⟩, rfl⟩)
  ·
    refine Ops.skipG rfl rfl rfl h1 rfl rfl ?_
    refine Ops.skipG rfl rfl rfl h1 rfl rfl ?_
    refine Ops.skipG rfl rfl rfl h1 rfl rfl ?_
    refine Ops.st (.pickF rfl h1 rfl) rfl rfl rfl ?_
    refine Ops.st (.assign rfl) rfl rfl rfl ?_
    refine Ops.nil ?_
    refine Ext.seq ?_
    exact Cod.ret (Ext.ret rfl rfl ⟨⟨_, rfl, fun h => by cases h⟩, rfl⟩)
end Go.Proofs.Ytacgngfjanlfnaa
