/- append onto a slice that is owned. No condition. -/
import Derived.Test.YtjlimnckdblkhaaL5
namespace Go.Proofs.Ytjlimnckdblkhaa
open Go
section
variable {P : Program} {F : Fr} {env : Env} {hs r : List SP} {dst : Option Tmp} {ty : TypeId} {pos : String} {after : Array Edge} {g : Option (Nat × Bool)} {x y c : Operand} {u v : Value} {T e t t' : TypeId} {sz n m : Nat} {xs ys : List Value}

theorem Ef.sl {o : Oper} {r : List SP} (h : Ef P F env hs o (fun u hs' => hs' = vec u T sz n xs :: r)) : Ef P F env hs o (fun u hs' => Sl u ∧ hs' = vec u T sz n xs :: r) := fun n' a w ha s => by
  obtain ⟨v, w', hs', h1, rfl, h2⟩ := h n' a w ha s
  exact ⟨v, w', _, h1, ⟨vec_sl (.here _) w' h2, rfl⟩, h2⟩
/-- append: onto a slice that is owned. -/
theorem Ef.append_ {xo so : Operand} {bytes m : Nat} {zs : List Value} {s' : Value} (hx : ev env so = some v) (hy : ev env xo = some s') (hk : TakeP (vec v e sz n xs) hs r) (hr : Rd F r s' sz m ys) (ei : EI P t e sz bytes zs)
    (hb : (n + m) * bytes ≤ 140737488355328) (hm : n + m ≤ maxLen) :
    Ef P F env hs ⟨dst, .call { callee := .builtin .append, args := #[so, xo], argTypes := #[t, t] }, ty, pos, after, g⟩ (fun u hs' => hs' = vec u e sz (n + m) (xs ++ ys) :: r) := by
  intro _ a w ha s
  obtain ⟨i, zv, hi, hsz, hby, hz, hzs⟩ := ei.info
  have hsm : n + m ≤ 9223372036854775807 := by simp only [maxLen] at hm; omega
  subst hsz hby
  have sr : Sat F r w := s.ent (hk.ent.trans Ent.drop)
  have hrd := hr.at sr
  obtain ⟨ao, cap2, rfl, hc2, hm2, h02, hh2⟩ := hrd.ex
  have hyl := hrd.len
  obtain ⟨q, hq, hql⟩ := (s.ent hk.ent).le
  have hv := hq.slR
  have hxl := hv.len
  -- what a longer row comes to
  have grow : ∀ (w1 : World), Sat F r w1 → ∀ old, old < n + m → Sat F (vec (.slice (some ⟨w1.heap.size, 0, none⟩) (n + m) (grownCap w (n + m) old e)) e i.size (n + m) (xs ++ ys) :: r)
      (w1.alloc (.cells (xs.toArray ++ ys.toArray ++ Builtin.zeroCells zv.cells (grownCap w (n + m) old e - (n + m))) e (0, 0))) := by
    intro w1 s1 old ho
    have hge := grownCap_ge w (n + m) old e
    have hcm := grownCap_le_maxLen w (n + m) old e hm
    have hlen : (xs ++ ys).length = (n + m) * i.size := by rw [List.length_append, hxl, hyl, Nat.add_mul]
    refine s1.newVec e _ (xs ++ ys) (Builtin.zeroCells zv.cells (grownCap w (n + m) old e - (n + m))).toList hlen hge hcm ?_ (hv.one.app hrd.one) _ (Array.ext' (by simp))
    rw [hlen, Array.length_toList, size_zeroCells, hzs, List.size_toArray, ei.len, ← Nat.add_mul]
    exact Nat.mul_le_mul_right _ (by omega)
  have ex : execOp a.eval ⟨dst, .call { callee := .builtin .append, args := #[so, xo], argTypes := #[t, t] }, ty, pos, after, g⟩ = Next.value <$> Builtin.append_ #[t, t] ty #[v, .slice ao m cap2] := by
    simp only [execOp, resolve]
    simp [ha.ev hx, ha.ev hy, invoke, builtin]
  rw [ex]
  have fin : ∀ (u : Value) (w' : World), (Builtin.append_ #[t, t] ty #[v, .slice ao m cap2]).run P w = .ok u w' → Sat F (vec u e i.size (n + m) (xs ++ ys) :: r) w' →
      ∃ v_1 w' hs', ((Next.value <$> Builtin.append_ #[t, t] ty #[v, .slice ao m cap2]).run P w = .ok (.value v_1) w' ∨ (Next.value <$> Builtin.append_ #[t, t] ty #[v, .slice ao m cap2]).run P w = .ok .skip w' ∧ v_1 = undef) ∧ hs' = vec v_1 e i.size (n + m) (xs ++ ys) :: r ∧ Sat F hs' w' := by
    intro u w' h1 h2
    exact ⟨u, w', _, .inl (by simp [h1]), rfl, h2⟩
  by_cases hm0 : m = 0
  · -- nothing is put behind
    subst hm0
    obtain rfl : ys = [] := List.eq_nil_of_length_eq_zero (by simpa using hyl)
    have hnew : ∀ w1, (Builtin.firstCells i.size 0 (.slice ao 0 cap2)).run P w1 = .ok #[] w1 := by
      intro w1; cases ao <;> simp [Builtin.firstCells, loadCells, loadCellsFrom]
    have hnc : ∃ bo cap, v = .slice bo n cap ∧ n ≤ cap := by obtain ⟨bo, cap, e1, e2, _⟩ := hv.ex; exact ⟨bo, cap, e1, e2⟩
    obtain ⟨bo, cap, rfl, hnc⟩ := hnc
    refine fin (.slice bo n cap) w ?_ (by simpa using s.ent hk.ent)
    cases bo <;> simp [Builtin.append_, run_underlying ei.und, sizeOf, typeInfo, hi, Builtin.lenOf, hnc, hnew, storeCells]
  · have hao : ∃ p, ao = some p := by
      cases ao with
      | none => have := (h02 rfl).1; omega
      | some p => exact ⟨p, rfl⟩
    obtain ⟨p, rfl⟩ := hao
    have hys : ∀ j u, ys[j]? = some u → w.cell? (p.add j) = some u := fun j u hu => (hh2 p rfl j u hu).cell
    cases hq with
    | nil hvn hn hx' =>
      subst hvn hn hx'
      have hrun := run_append_nil (P := P) w t ty e i zv ei.und hi hz p m cap2 ys hyl hys (by omega) (by omega) (by simp only [Nat.zero_add] at hb; omega)
      refine fin _ _ hrun ?_
      have := grow w.drew sr.drew 0 (by omega)
      simpa using this
    | mk b off cap pre post hvn ho hl hc hmc hs' h1 =>
      subst hvn
      by_cases hroom : n + m ≤ cap
      · -- it has room
        have sp : Sat F (pt b e (pre ++ xs ++ post) :: r) w := by
          obtain ⟨z, d, uu, z1, z2, hd, rfl, hz1, hz2⟩ := (s.ent hk.ent).heap
          have : z1 = Hp.one b (.cells (pre ++ xs ++ post).toArray e (0, 0)) := by
            have e1 : hp w b = some (.cells (pre ++ xs ++ post).toArray e (0, 0)) := hql _ _ (Hp.one_self _ _)
            cases hz1 with
            | nil h _ _ => cases h
            | mk b' off' cap' pre' post' hv' ho' hl' hc' hm' hs'' h1' =>
              simp only [Value.slice.injEq, Option.some.injEq, Addr.mk.injEq] at hv'
              obtain ⟨⟨rfl, rfl, _⟩, _, rfl⟩ := hv'
              have e2 : hp w b = some (.cells (pre' ++ xs ++ post').toArray e (0, 0)) := by rw [uu]; exact Hp.un_of_left (Hp.un_of_left (Hp.one_self _ _))
              rw [e2] at e1
              exact congrArg (Hp.one b) (Option.some.inj e1)
          exact ⟨(s.ent hk.ent).os, (s.ent hk.ent).out, (s.ent hk.ent).tape, _, d, uu, z1, z2, hd, rfl, by rw [this]; exact .mk, hz2⟩
        have hfit : off + n * i.size + ys.length ≤ (pre ++ xs ++ post).length := by
          have : (n + m) * i.size ≤ cap * i.size := Nat.mul_le_mul_right _ hroom
          rw [Nat.add_mul] at this
          simp only [List.length_append, ho]
          omega
        obtain ⟨w', hst, hsat⟩ := storeCells_run (P := P) (o := off + n * i.size) (vs := ys) sp hfit hrd.one
        have hf := run_firstCells_some (P := P) w i.size m p m cap2 ys hyl hys
        refine fin (.slice (some ⟨b, off, none⟩) (n + m) cap) w' ?_ ?_
        · simp [Builtin.append_, run_underlying ei.und, sizeOf, typeInfo, hi, Builtin.lenOf, hroom, hf, Addr.add_lit, hst]
        · refine hsat.ent (Ent.one fun z hz => ?_)
          cases hz
          have hcs : (pre ++ xs ++ post).take (off + n * i.size) ++ ys ++ (pre ++ xs ++ post).drop (off + n * i.size + ys.length) = pre ++ (xs ++ ys) ++ post.drop ys.length := by
            have e1 : (pre ++ xs ++ post).take (off + n * i.size) = pre ++ xs := by
              rw [List.take_append_of_le_length (by simp [ho, hl]), List.take_of_length_le (by simp [ho, hl])]
            have e2 : (pre ++ xs ++ post).drop (off + n * i.size + ys.length) = post.drop ys.length := by
              rw [List.drop_append, List.drop_of_length_le (by simp [ho, hl])]
              simp only [List.nil_append, List.length_append, ho, hl]
              congr 1
              omega
            rw [e1, e2]
            simp
          rw [hcs]
          refine vec.mk b off cap pre (post.drop ys.length) rfl ho (by rw [List.length_append, hxl, hyl, Nat.add_mul]) hroom hmc ?_ (h1.app hrd.one)
          simp only [List.length_append, List.length_drop] at hfit ⊢
          omega
      · have hxs : ∀ j u, xs[j]? = some u → w.cell? ((⟨b, off, none⟩ : Addr).add j) = some u := by
          obtain ⟨ao', cap', e1, _, _, _, hh⟩ := hv.ex
          simp only [Value.slice.injEq] at e1
          obtain ⟨rfl, _, rfl⟩ := e1
          exact fun j u hu => ((hh _ rfl j u hu).mono hql).cell
        have hrun := run_append_grow (P := P) w t ty e i zv ei.und hi hz ⟨b, off, none⟩ n cap xs hxl hxs p m cap2 ys hyl hys (by omega) (by omega) (growslice_fits (by omega) hb)
        exact fin _ _ hrun (grow w.drew sr.drew cap (by omega))

theorem Ef.append {xo so : Operand} {bytes m : Nat} {zs : List Value} {s' : Value} (hx : ev env so = some v) (hy : ev env xo = some s') (hk : TakeP (vec v e sz n xs) hs r) (hr : Rd F r s' sz m ys) (ei : EI P t e sz bytes zs)
    (hb : (n + m) * bytes ≤ 140737488355328) (hm : n + m ≤ maxLen) :
    Ef P F env hs ⟨dst, .call { callee := .builtin .append, args := #[so, xo], argTypes := #[t, t] }, ty, pos, after, g⟩ (fun u hs' => Sl u ∧ hs' = vec u e sz (n + m) (xs ++ ys) :: r) :=
  (Ef.append_ hx hy hk hr ei hb hm).sl
end
end Go.Proofs.Ytjlimnckdblkhaa
