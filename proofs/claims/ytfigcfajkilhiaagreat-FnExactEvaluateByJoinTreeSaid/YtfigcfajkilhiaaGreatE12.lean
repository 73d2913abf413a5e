/- Contracts of functions that the statement reaches. -/
import Derived.Deep.DeepCutAuto
import Derived.Test.YtfigcfajkilhiaaGreatE10
import Derived.Test.YtfigcfajkilhiaaGreatE11
namespace Go.Proofs.YtfigcfajkilhiaaGreat
open Go.RowKit
def slLen : Value → Nat
  | .slice _ n _ => n
  | _ => 0
def SrtP (rows : List (List Int)) (w : World) (e : Ending) (w' : World) : Prop := ∃ (A : Option Addr) (c : Nat), e = .returned (.slice A (sortR rows).length c) ∧ (sortR rows).length ≤ c ∧ RII w' A (sortR rows) ∧ ∃ y, w' = ext w y
theorem RV.headR {w : World} {A : Option Addr} {x : List Int} {xs : List (List Int)} (h : RII w A (x :: xs)) : ∃ b o A1 c1, A = some ⟨b, o, none⟩ ∧ b < w.heap.size ∧ w.cell? ⟨b, o, none⟩ = some (.slice A1 x.length c1) ∧ RI w A1 x ∧ x.length ≤ c1 ∧ RII w (some ⟨b, o + 1, none⟩) xs ∧ (xs = [] → RII w A xs) := by
  obtain ⟨b, o, h1, h2, c, hc, hr, ⟨A1, c1, he, hv⟩⟩ := h.get (k := 0) (by simp)
  subst he h1
  refine ⟨b, o, A1, _, rfl, h2, by simpa using hr 0 (by simp), hv, by simp, ?_, fun e => by subst e; exact RV.nil⟩
  exact h.from (q := 1) (A' := some ⟨b, o + 1, none⟩) (fun b' o' e _ => by injection e with e; injection e with e1 e2; subst e1 e2; simp)
def StepI (rows out ls rs : List (List Int)) (z : List Int) : Prop := ((∀ u, out.getLast? = some u → cmpL u z ≠ 0) → MI rows (out ++ [z]) ls rs) ∧ (z ∈ out → MI rows out ls rs) ∧ z ∈ rows
theorem stepI_l {rows out ls rs : List (List Int)} {x : List Int} (h : MI rows out (x :: ls) rs) (hb : ∀ y ∈ rs, cmpL x y ≤ 0) : StepI rows out ls rs x := ⟨h.left hb, h.skipL, (h.m x).2 (by simp)⟩
theorem stepI_r {rows out ls rs : List (List Int)} {y : List Int} (h : MI rows out ls (y :: rs)) (hb : ∀ x ∈ ls, cmpL y x ≤ 0) : StepI rows out ls rs y := ⟨h.right hb, h.skipR, (h.m y).2 (by simp)⟩
def CutI (rows out : List (List Int)) (W wr : World) (n : Nat) (a b v : Value) (wc : World) : Prop :=
  ∃ (ls rs : List (List Int)) (Aa Ab Az : Option Addr) (ca cb cz : Nat) (z : List Int), a = .slice Aa ls.length ca ∧ b = .slice Ab rs.length cb ∧ v = .slice Az z.length cz ∧ ls.length ≤ ca ∧ rs.length ≤ cb ∧ z.length ≤ cz ∧ RII W Aa ls ∧ RII W Ab rs ∧ RI W Az z ∧ StepI rows out ls rs z ∧ ls.length + rs.length + 1 = n ∧ ∃ y, wc = ext wr y
set_option maxRecDepth 100000 in
set_option maxHeartbeats 16000000 in
theorem l5Sort_any : ∀ (n : Nat) (A : Option Addr) (c : Nat) (rows : List (List Int)) (w : World) (_ : rows.length ≤ n) (_ : rows.length ≤ 1000000000) (_ : rows.length ≤ c) (_ : ∀ x ∈ rows, x.length ≤ 1000000000) (_ : RII w A rows),
    Calls Tryz.prog 111 #[.slice A rows.length c] w (SrtP rows w) := by
  intro n
  induction n with
  | zero =>
    intro A c rows w hn hx hc hxl h1
    obtain rfl := List.eq_nil_of_length_eq_zero (Nat.le_zero.1 hn)
    clear hn
    go_enter Tryz.func111, Tryz.ntmps111
    go_wp2
    go_ret
    exact ⟨A, c, rfl, by simp [sortR], by rw [sortR_small (by simp)]; exact h1, refl_ext w⟩
  | succ n ih =>
    intro A c rows w hn hx hcap hxl h1
    have IH := Lib.hid ih
    have Hxl := Lib.hid hxl
    clear ih hxl
    by_cases hs : rows.length < 2
    · have HS := Lib.hid (sortR_small hs)
      go_enter Tryz.func111, Tryz.ntmps111
      go_wp2
      go_ret
      exact ⟨A, c, by rw [HS.out]; rfl, by rw [HS.out]; omega, by rw [HS.out]; exact h1, refl_ext w⟩
    · obtain ⟨m, hm⟩ : ∃ m, rows.length / 2 = m := ⟨_, rfl⟩
      have HM := Lib.hid (show (rows.length : Int) / 2 = (m : Int) by omega)
      have m1 : m < rows.length := by omega
      have m2 : 0 < m := by omega
      have hne : ¬ c = m := by omega
      have hn2 : rows.length - m ≤ n := by omega
      have hn1 : m ≤ n := by omega
      have q0 : (m : Int) ≤ (c : Int) := by omega
      obtain ⟨b, o, hA⟩ := h1.pl (by omega)
      subst hA
      have HL := Lib.hid (show (rows.take m).length = m by simp; omega)
      have HR := Lib.hid (show (rows.drop m).length = rows.length - m by simp)
      have hv1 := h1.pre m
      have hv2 := h1.from (q := m) (A' := some ⟨b, o + m, none⟩) (fun b' o' e _ => by injection e with e; injection e with e1 e2; subst e1 e2; simp)
      go_enter Tryz.func111, Tryz.ntmps111
      go_upto_region 4 with fail
      rw [HM.out]
      go_wp2_with fail
      have I1 := IH.out (some ⟨b, o, none⟩) c (rows.take m) w (by rw [HL.out]; exact hn1) (by rw [HL.out]; omega) (by rw [HL.out]; omega) (fun x hx => Hxl.out x (List.mem_of_mem_take hx)) hv1
      rw [HL.out] at I1
      refine I1.mono ?_
      rintro e w1 ⟨Aa, ca, rfl, hca, hva, hx1⟩
      have I2 := IH.out (some ⟨b, o + m, none⟩) (c - m) (rows.drop m) w1 (by rw [HR.out]; exact hn2) (by rw [HR.out]; omega) (by rw [HR.out]; omega) (fun x hx => Hxl.out x (List.mem_of_mem_drop hx)) (hv2.toExt hx1)
      rw [HR.out] at I2
      clear I1
      go_wp2_with fail
      refine I2.mono ?_
      rintro e W ⟨Ab, cb, rfl, hcb, hvb, hx2⟩
      clear I2
      have hxW := trans_ext hx1 hx2
      have hMI := MI.start (rows := rows) (a := sortR (rows.take m)) (b := sortR (rows.drop m)) (by rw [hm]) (by rw [hm])
      have hla := sortR_length (rows.take m)
      have hlb := sortR_length (rows.drop m)
      rw [HL.out] at hla
      rw [HR.out] at hlb
      have hva := hva.toExt hx2
      obtain ⟨sa, hsa⟩ : ∃ s, sortR (rows.take m) = s := ⟨_, rfl⟩
      obtain ⟨sb, hsb⟩ : ∃ s, sortR (rows.drop m) = s := ⟨_, rfl⟩
      rw [hsa] at hMI hla hca hva ⊢
      rw [hsb] at hMI hlb hcb hvb ⊢
      have HMI := Lib.hid hMI
      have hS0 := SV.empty (te := 26) (size := 1) (E := sOld (vSl 1 vI) W) W
      clear hMI hsa hsb hm hv1 hv2 h1
      go_wp2
      go_loopw [4, 5, 6] (fun a b o wr => ∃ (ls rs out : List (List Int)) (Aa Ab : Option Addr) (ca cb : Nat) (F : List Nat), a = .slice Aa ls.length ca ∧ b = .slice Ab rs.length cb ∧ ls.length ≤ ca ∧ rs.length ≤ cb ∧ RII W Aa ls ∧ RII W Ab rs ∧ SV 26 1 (sOld (vSl 1 vI) W) wr o out F ∧ (∀ b ∈ F, W.heap.size ≤ b) ∧ (∃ y, wr = ext W y) ∧ Hid (MI rows out ls rs) ∧ out.length + ls.length + rs.length ≤ 1000000000) (fun a b _ _ => slLen a + slLen b)
      case atStart => exact ⟨sa, sb, [], Aa, Ab, ca, cb, _, rfl, rfl, hca, hcb, hva, hvb, hS0, by simp, alloc_ext _ _, HMI, by simp; omega⟩
      case round =>
        obtain ⟨ls, rs, out, Aa, Ab, ca, cb, F, rfl, rfl, hca, hcb, hva, hvb, hS, hF, hy, HM, hlen⟩ := hrel
        have HF := Lib.hid hF
        clear hF
        obtain ⟨Ao, co, rfl, hco, _, rv⟩ := hS.view (V := vSl 1 vI) (sOld_v hy)
        have hsw := size_of_ext hy
        match ls, rs with
        | [], [] =>
          have HD := Lib.hid HM.out.done
          go_wp2
          go_ret
          exact ⟨Ao, co, by rw [← HD.out]; rfl, by rw [← HD.out]; exact hco, by rw [← HD.out]; exact rv, trans_ext hxW hy⟩
        | [], y :: rs =>
          obtain ⟨b2, o2, A2, c2, rfl, hb2, hc2, hv2, hl2, hvb', hvn2⟩ := hvb.headR
          have hb2r : b2 < wr.heap.size := by omega
          have hc2r : wr.cell? ⟨b2, o2, none⟩ = some (.slice A2 y.length c2) := by obtain ⟨q, e⟩ := hy; rw [e, cell_ext hb2]; exact hc2
          have hlt2 : rs.length + 1 ≤ cb := hcb
          have HST := Lib.hid (stepI_r HM.out (by simp))
          go_upto_if 50 with fail
          have HTOT := Lib.hid (show ([] : List (List Int)).length + rs.length + 1 = rs.length + 1 by simp)
          go_cut [4, 5, 8] (CutI rows out W wr (rs.length + 1))
          case first =>
            by_cases e1 : cb = 1
            · obtain rfl : rs = [] := List.eq_nil_of_length_eq_zero (by omega)
              subst e1
              have hvq := hvn2 rfl
              clear hvn2
              go_wp2
              go_meet
              exact ⟨[], [], _, _, _, _, _, _, y, rfl, rfl, rfl, hca, by simp, hl2, hva, hvq, hv2, HST.out, HTOT.out, (by refine x'z ?_; repeat (with_reducible (first | exact x'a _ _ | exact x'b _ | exact x'c (by assumption) | refine x'd ?_ (by assumption) | refine x'e ?_ _ | refine x'f ?_ _ | refine x'g ?_ | refine x'h ?_ ?_ _ | refine x'i ?_ _ | refine x'j ?_ | refine x'k ?_ _ | refine x'l ?_ _ _ | refine x'm ?_ | assumption | (refine x'n ?_; omega) | omega)))⟩
            · go_wp2
              go_meet
              exact ⟨[], rs, _, _, _, _, _, _, y, rfl, rfl, rfl, hca, by omega, hl2, hva, hvb', hv2, HST.out, HTOT.out, (by refine x'z ?_; repeat (with_reducible (first | exact x'a _ _ | exact x'b _ | exact x'c (by assumption) | refine x'd ?_ (by assumption) | refine x'e ?_ _ | refine x'f ?_ _ | refine x'g ?_ | refine x'h ?_ ?_ _ | refine x'i ?_ _ | refine x'j ?_ | refine x'k ?_ _ | refine x'l ?_ _ _ | refine x'm ?_ | assumption | (refine x'n ?_; omega) | omega)))⟩
          obtain ⟨ls', rs', Aa', Ab', Az, ca', cb', cz, z, rfl, rfl, rfl, hca', hcb', hcz, hva2, hvb2, hvz, HSt, hn', hyc⟩ := hcut
          obtain ⟨wd, rfl⟩ : ∃ W, W = wc := ⟨_, rfl⟩
          have hyd := trans_ext hy hyc
          have hSd := hS.toExt hyc
          have lz := Hxl.out z HSt.2.2
          have hlen' : out.length + ls'.length + rs'.length + 1 ≤ 1000000000 := by simp only [List.length_cons] at hlen hn'; omega
          obtain ⟨kz, rfl⟩ : ∃ k, cz = z.length + k := ⟨cz - z.length, by omega⟩
          have HSt := Lib.hid HSt
          have HN' := Lib.hid hn'
          clear hn'
          by_cases ho : out.length = 0
          · have HSI := Lib.hid (HSt.out.1 (by rw [List.eq_nil_of_length_eq_zero ho]; simp))
            go_wp2_with (at_builtin; refine wpList_app1 (E := sOld (vSl 1 vI) W) (d := z) rfl _ _ _ rfl tIIr rfl rfl rfl (by simp) (fun _ => ⟨⟨Az, kz, rfl, hvz⟩, rfl⟩) rfl (by simp [Value.oneCell']) hSd (by omega) (by omega) ?_; intro v' w' F' hS' hC' hF')
            exact ⟨⟨ls', rs', out ++ [z], Aa', Ab', ca', cb', F', rfl, rfl, hca', hcb', hva2, hvb2, hS', newer HF.out (size_of_ext hyd) hF', hC'.isExt hyd HF.out, Lib.hid HSI.out, by simp; omega⟩, by have := HN'.out; simp [slLen] at this ⊢; omega⟩
          · obtain ⟨us, u, rfl⟩ : ∃ us u, out = us ++ [u] := ⟨out.dropLast, out.getLast (by intro e; subst e; simp at ho), (List.dropLast_concat_getLast _).symm⟩
            have rvd := rv.toExt hyc
            obtain ⟨bo, oo, Au, cu, rfl, hbo, hco2, hvu⟩ := rvd.atV (k := us.length) (by simp)
            rw [show (us ++ [u])[us.length]'(by simp) = u by simp] at hco2 hvu
            have lu := Hxl.out u (by have := (HM.out.m u).2 (.inl (by simp)); exact this)
            have hlu : us.length + 1 ≤ co := by simpa using hco
            rw [show (us ++ [u]).length = us.length + 1 by simp] at hSd
            have hus : us.length + 1 ≤ 1000000000 := by simp at hlen'; omega
            obtain ⟨C, hC⟩ : ∃ C, cmpL u z = C := ⟨_, rfl⟩
            have HC := Lib.hid hC
            by_cases h0 : C = 0
            · subst h0
              have HSI := Lib.hid (HSt.out.2.1 (by rw [cmpL_zero.1 hC]; simp))
              clear hC
              go_wp2_with (go_at_call 88; refine (specCompareRows_any lu hvu lz (hvz.toExt hyd)).mono ?_; rintro e w3 ⟨rfl, hx3⟩; rw [HC.out])
              exact ⟨⟨ls', rs', us ++ [u], Aa', Ab', ca', cb', F, rfl, rfl, hca', hcb', hva2, hvb2, hSd.toExt hx3, HF.out, trans_ext hyd hx3, Lib.hid HSI.out, by omega⟩, by have := HN'.out; simp [slLen] at this ⊢; omega⟩
            · have h9 : (C != 0) = true := by simpa using h0
              have HSI := Lib.hid (HSt.out.1 (by simp only [List.getLast?_append, List.getLast?_singleton]; rintro v ⟨⟩; rw [hC]; exact h0))
              clear hC h0
              go_wp2_with (first
                | (go_at_call 88; refine (specCompareRows_any lu hvu lz (hvz.toExt hyd)).mono ?_; rintro e w3 ⟨rfl, hx3⟩; rw [HC.out])
                | (at_builtin; refine wpList_app1 (E := sOld (vSl 1 vI) W) (d := z) rfl _ _ _ rfl tIIr rfl rfl rfl (by simp) (fun _ => ⟨⟨Az, kz, rfl, hvz⟩, rfl⟩) rfl (by simp [Value.oneCell']) (hSd.toExt hx3) (by omega) (by omega) ?_; intro v' w' F' hS' hC' hF'))
              exact ⟨⟨ls', rs', us ++ [u] ++ [z], Aa', Ab', ca', cb', F', rfl, rfl, hca', hcb', hva2, hvb2, hS', newer HF.out (size_of_ext (trans_ext hyd hx3)) hF', hC'.isExt (trans_ext hyd hx3) HF.out, Lib.hid HSI.out, by simp at hlen' ⊢; omega⟩, by have := HN'.out; simp [slLen] at this ⊢; omega⟩
        | x :: ls, [] =>
          obtain ⟨b1, o1, A1, c1, rfl, hb1, hc1, hv, hl1, hva', hvn⟩ := hva.headR
          have hb1r : b1 < wr.heap.size := by omega
          have hc1r : wr.cell? ⟨b1, o1, none⟩ = some (.slice A1 x.length c1) := by obtain ⟨q, e⟩ := hy; rw [e, cell_ext hb1]; exact hc1
          have hlt1 : ls.length + 1 ≤ ca := hca
          have HST := Lib.hid (stepI_l HM.out (by simp))
          go_upto_if 50 with fail
          have HTOT := Lib.hid (show ls.length + ([] : List (List Int)).length + 1 = ls.length + 1 by simp)
          go_cut [4, 5, 8] (CutI rows out W wr (ls.length + 1))
          case first =>
            by_cases e1 : ca = 1
            · obtain rfl : ls = [] := List.eq_nil_of_length_eq_zero (by omega)
              subst e1
              have hvq := hvn rfl
              clear hvn
              go_wp2
              go_meet
              exact ⟨[], [], _, _, _, _, _, _, x, rfl, rfl, rfl, by simp, hcb, hl1, hvq, hvb, hv, HST.out, HTOT.out, (by refine x'z ?_; repeat (with_reducible (first | exact x'a _ _ | exact x'b _ | exact x'c (by assumption) | refine x'd ?_ (by assumption) | refine x'e ?_ _ | refine x'f ?_ _ | refine x'g ?_ | refine x'h ?_ ?_ _ | refine x'i ?_ _ | refine x'j ?_ | refine x'k ?_ _ | refine x'l ?_ _ _ | refine x'm ?_ | assumption | (refine x'n ?_; omega) | omega)))⟩
            · go_wp2
              go_meet
              exact ⟨ls, [], _, _, _, _, _, _, x, rfl, rfl, rfl, by omega, hcb, hl1, hva', hvb, hv, HST.out, HTOT.out, (by refine x'z ?_; repeat (with_reducible (first | exact x'a _ _ | exact x'b _ | exact x'c (by assumption) | refine x'd ?_ (by assumption) | refine x'e ?_ _ | refine x'f ?_ _ | refine x'g ?_ | refine x'h ?_ ?_ _ | refine x'i ?_ _ | refine x'j ?_ | refine x'k ?_ _ | refine x'l ?_ _ _ | refine x'm ?_ | assumption | (refine x'n ?_; omega) | omega)))⟩
          obtain ⟨ls', rs', Aa', Ab', Az, ca', cb', cz, z, rfl, rfl, rfl, hca', hcb', hcz, hva2, hvb2, hvz, HSt, hn', hyc⟩ := hcut
          obtain ⟨wd, rfl⟩ : ∃ W, W = wc := ⟨_, rfl⟩
          have hyd := trans_ext hy hyc
          have hSd := hS.toExt hyc
          have lz := Hxl.out z HSt.2.2
          have hlen' : out.length + ls'.length + rs'.length + 1 ≤ 1000000000 := by simp only [List.length_cons] at hlen hn'; omega
          obtain ⟨kz, rfl⟩ : ∃ k, cz = z.length + k := ⟨cz - z.length, by omega⟩
          have HSt := Lib.hid HSt
          have HN' := Lib.hid hn'
          clear hn'
          by_cases ho : out.length = 0
          · have HSI := Lib.hid (HSt.out.1 (by rw [List.eq_nil_of_length_eq_zero ho]; simp))
            go_wp2_with (at_builtin; refine wpList_app1 (E := sOld (vSl 1 vI) W) (d := z) rfl _ _ _ rfl tIIr rfl rfl rfl (by simp) (fun _ => ⟨⟨Az, kz, rfl, hvz⟩, rfl⟩) rfl (by simp [Value.oneCell']) hSd (by omega) (by omega) ?_; intro v' w' F' hS' hC' hF')
            exact ⟨⟨ls', rs', out ++ [z], Aa', Ab', ca', cb', F', rfl, rfl, hca', hcb', hva2, hvb2, hS', newer HF.out (size_of_ext hyd) hF', hC'.isExt hyd HF.out, Lib.hid HSI.out, by simp; omega⟩, by have := HN'.out; simp [slLen] at this ⊢; omega⟩
          · obtain ⟨us, u, rfl⟩ : ∃ us u, out = us ++ [u] := ⟨out.dropLast, out.getLast (by intro e; subst e; simp at ho), (List.dropLast_concat_getLast _).symm⟩
            have rvd := rv.toExt hyc
            obtain ⟨bo, oo, Au, cu, rfl, hbo, hco2, hvu⟩ := rvd.atV (k := us.length) (by simp)
            rw [show (us ++ [u])[us.length]'(by simp) = u by simp] at hco2 hvu
            have lu := Hxl.out u (by have := (HM.out.m u).2 (.inl (by simp)); exact this)
            have hlu : us.length + 1 ≤ co := by simpa using hco
            rw [show (us ++ [u]).length = us.length + 1 by simp] at hSd
            have hus : us.length + 1 ≤ 1000000000 := by simp at hlen'; omega
            obtain ⟨C, hC⟩ : ∃ C, cmpL u z = C := ⟨_, rfl⟩
            have HC := Lib.hid hC
            by_cases h0 : C = 0
            · subst h0
              have HSI := Lib.hid (HSt.out.2.1 (by rw [cmpL_zero.1 hC]; simp))
              clear hC
              go_wp2_with (go_at_call 88; refine (specCompareRows_any lu hvu lz (hvz.toExt hyd)).mono ?_; rintro e w3 ⟨rfl, hx3⟩; rw [HC.out])
              exact ⟨⟨ls', rs', us ++ [u], Aa', Ab', ca', cb', F, rfl, rfl, hca', hcb', hva2, hvb2, hSd.toExt hx3, HF.out, trans_ext hyd hx3, Lib.hid HSI.out, by omega⟩, by have := HN'.out; simp [slLen] at this ⊢; omega⟩
            · have h9 : (C != 0) = true := by simpa using h0
              have HSI := Lib.hid (HSt.out.1 (by simp only [List.getLast?_append, List.getLast?_singleton]; rintro v ⟨⟩; rw [hC]; exact h0))
              clear hC h0
              go_wp2_with (first
                | (go_at_call 88; refine (specCompareRows_any lu hvu lz (hvz.toExt hyd)).mono ?_; rintro e w3 ⟨rfl, hx3⟩; rw [HC.out])
                | (at_builtin; refine wpList_app1 (E := sOld (vSl 1 vI) W) (d := z) rfl _ _ _ rfl tIIr rfl rfl rfl (by simp) (fun _ => ⟨⟨Az, kz, rfl, hvz⟩, rfl⟩) rfl (by simp [Value.oneCell']) (hSd.toExt hx3) (by omega) (by omega) ?_; intro v' w' F' hS' hC' hF'))
              exact ⟨⟨ls', rs', us ++ [u] ++ [z], Aa', Ab', ca', cb', F', rfl, rfl, hca', hcb', hva2, hvb2, hS', newer HF.out (size_of_ext (trans_ext hyd hx3)) hF', hC'.isExt (trans_ext hyd hx3) HF.out, Lib.hid HSI.out, by simp at hlen' ⊢; omega⟩, by have := HN'.out; simp [slLen] at this ⊢; omega⟩
        | x :: ls, y :: rs =>
          obtain ⟨b1, o1, A1, c1, rfl, hb1, hc1, hv, hl1, hva', hvn⟩ := hva.headR
          have hb1r : b1 < wr.heap.size := by omega
          have hc1r : wr.cell? ⟨b1, o1, none⟩ = some (.slice A1 x.length c1) := by obtain ⟨q, e⟩ := hy; rw [e, cell_ext hb1]; exact hc1
          have hlt1 : ls.length + 1 ≤ ca := hca
          obtain ⟨b2, o2, A2, c2, rfl, hb2, hc2, hv2, hl2, hvb', hvn2⟩ := hvb.headR
          have hb2r : b2 < wr.heap.size := by omega
          have hc2r : wr.cell? ⟨b2, o2, none⟩ = some (.slice A2 y.length c2) := by obtain ⟨q, e⟩ := hy; rw [e, cell_ext hb2]; exact hc2
          have hlt2 : rs.length + 1 ≤ cb := hcb
          have lx := Hxl.out x ((HM.out.m x).2 (by simp))
          have ly := Hxl.out y ((HM.out.m y).2 (by simp))
          have HTOT := Lib.hid (show ls.length + (y :: rs).length + 1 = ls.length + rs.length + 2 by simp; omega)
          have HTOT2 := Lib.hid (show (x :: ls).length + rs.length + 1 = ls.length + rs.length + 2 by simp; omega)
          obtain ⟨C, hC⟩ : ∃ C, cmpL x y = C := ⟨_, rfl⟩
          have HC := Lib.hid hC
          by_cases h0 : 0 < C
          · have HST := Lib.hid (stepI_r HM.out (le_tail HM.out.sa (Int.le_of_lt (cmpL_pos (by rw [hC]; exact h0)))))
            clear hC
            go_upto_region 13 with fail
            refine wp_region_ext (by kernel_rfl) (by kernel_rfl) ?_
            repeat (go_big_quiet_step ((go_at_call 88; exact quietEj (specCompareRows_any lx (hv.toExt (trans_ext hy (by refine x'z ?_; repeat (with_reducible (first | exact x'a _ _ | exact x'b _ | exact x'c (by assumption) | refine x'd ?_ (by assumption) | refine x'e ?_ _ | refine x'f ?_ _ | refine x'g ?_ | refine x'h ?_ ?_ _ | refine x'i ?_ _ | refine x'j ?_ | refine x'k ?_ _ | refine x'l ?_ _ _ | refine x'm ?_ | assumption | (refine x'n ?_; omega) | omega))))) ly (hv2.toExt (trans_ext hy (by refine x'z ?_; repeat (with_reducible (first | exact x'a _ _ | exact x'b _ | exact x'c (by assumption) | refine x'd ?_ (by assumption) | refine x'e ?_ _ | refine x'f ?_ _ | refine x'g ?_ | refine x'h ?_ ?_ _ | refine x'i ?_ _ | refine x'j ?_ | refine x'k ?_ _ | refine x'l ?_ _ _ | refine x'm ?_ | assumption | (refine x'n ?_; omega) | omega)))))) HC.out)))
            refine wpQuiet_nil ?_
            rintro _ ⟨zz, rfl⟩
            go_upto_if 50 with fail
            go_cut [4, 5, 8] (CutI rows out W wr (ls.length + rs.length + 2))
            case first =>
              by_cases e1 : cb = 1
              · obtain rfl : rs = [] := List.eq_nil_of_length_eq_zero (by omega)
                subst e1
                have hvq := hvn2 rfl
                clear hvn2
                go_wp2
                go_meet
                exact ⟨(x :: ls), [], _, _, _, _, _, _, y, rfl, rfl, rfl, hca, by simp, hl2, hva, hvq, hv2, HST.out, HTOT2.out, (by refine x'z ?_; repeat (with_reducible (first | exact x'a _ _ | exact x'b _ | exact x'c (by assumption) | refine x'd ?_ (by assumption) | refine x'e ?_ _ | refine x'f ?_ _ | refine x'g ?_ | refine x'h ?_ ?_ _ | refine x'i ?_ _ | refine x'j ?_ | refine x'k ?_ _ | refine x'l ?_ _ _ | refine x'm ?_ | assumption | (refine x'n ?_; omega) | omega)))⟩
              · go_wp2
                go_meet
                exact ⟨(x :: ls), rs, _, _, _, _, _, _, y, rfl, rfl, rfl, hca, by omega, hl2, hva, hvb', hv2, HST.out, HTOT2.out, (by refine x'z ?_; repeat (with_reducible (first | exact x'a _ _ | exact x'b _ | exact x'c (by assumption) | refine x'd ?_ (by assumption) | refine x'e ?_ _ | refine x'f ?_ _ | refine x'g ?_ | refine x'h ?_ ?_ _ | refine x'i ?_ _ | refine x'j ?_ | refine x'k ?_ _ | refine x'l ?_ _ _ | refine x'm ?_ | assumption | (refine x'n ?_; omega) | omega)))⟩
            obtain ⟨ls', rs', Aa', Ab', Az, ca', cb', cz, z, rfl, rfl, rfl, hca', hcb', hcz, hva2, hvb2, hvz, HSt, hn', hyc⟩ := hcut
            obtain ⟨wd, rfl⟩ : ∃ W, W = wc := ⟨_, rfl⟩
            have hyd := trans_ext hy hyc
            have hSd := hS.toExt hyc
            have lz := Hxl.out z HSt.2.2
            have hlen' : out.length + ls'.length + rs'.length + 1 ≤ 1000000000 := by simp only [List.length_cons] at hlen hn'; omega
            obtain ⟨kz, rfl⟩ : ∃ k, cz = z.length + k := ⟨cz - z.length, by omega⟩
            have HSt := Lib.hid HSt
            have HN' := Lib.hid hn'
            clear hn'
            by_cases ho : out.length = 0
            · have HSI := Lib.hid (HSt.out.1 (by rw [List.eq_nil_of_length_eq_zero ho]; simp))
              go_wp2_with (at_builtin; refine wpList_app1 (E := sOld (vSl 1 vI) W) (d := z) rfl _ _ _ rfl tIIr rfl rfl rfl (by simp) (fun _ => ⟨⟨Az, kz, rfl, hvz⟩, rfl⟩) rfl (by simp [Value.oneCell']) hSd (by omega) (by omega) ?_; intro v' w' F' hS' hC' hF')
              exact ⟨⟨ls', rs', out ++ [z], Aa', Ab', ca', cb', F', rfl, rfl, hca', hcb', hva2, hvb2, hS', newer HF.out (size_of_ext hyd) hF', hC'.isExt hyd HF.out, Lib.hid HSI.out, by simp; omega⟩, by have := HN'.out; simp [slLen] at this ⊢; omega⟩
            · obtain ⟨us, u, rfl⟩ : ∃ us u, out = us ++ [u] := ⟨out.dropLast, out.getLast (by intro e; subst e; simp at ho), (List.dropLast_concat_getLast _).symm⟩
              have rvd := rv.toExt hyc
              obtain ⟨bo, oo, Au, cu, rfl, hbo, hco2, hvu⟩ := rvd.atV (k := us.length) (by simp)
              rw [show (us ++ [u])[us.length]'(by simp) = u by simp] at hco2 hvu
              have lu := Hxl.out u (by have := (HM.out.m u).2 (.inl (by simp)); exact this)
              have hlu : us.length + 1 ≤ co := by simpa using hco
              rw [show (us ++ [u]).length = us.length + 1 by simp] at hSd
              have hus : us.length + 1 ≤ 1000000000 := by simp at hlen'; omega
              obtain ⟨C, hC⟩ : ∃ C, cmpL u z = C := ⟨_, rfl⟩
              have HC := Lib.hid hC
              by_cases h0 : C = 0
              · subst h0
                have HSI := Lib.hid (HSt.out.2.1 (by rw [cmpL_zero.1 hC]; simp))
                clear hC
                go_wp2_with (go_at_call 88; refine (specCompareRows_any lu hvu lz (hvz.toExt hyd)).mono ?_; rintro e w3 ⟨rfl, hx3⟩; rw [HC.out])
                exact ⟨⟨ls', rs', us ++ [u], Aa', Ab', ca', cb', F, rfl, rfl, hca', hcb', hva2, hvb2, hSd.toExt hx3, HF.out, trans_ext hyd hx3, Lib.hid HSI.out, by omega⟩, by have := HN'.out; simp [slLen] at this ⊢; omega⟩
              · have h9 : (C != 0) = true := by simpa using h0
                have HSI := Lib.hid (HSt.out.1 (by simp only [List.getLast?_append, List.getLast?_singleton]; rintro v ⟨⟩; rw [hC]; exact h0))
                clear hC h0
                go_wp2_with (first
                  | (go_at_call 88; refine (specCompareRows_any lu hvu lz (hvz.toExt hyd)).mono ?_; rintro e w3 ⟨rfl, hx3⟩; rw [HC.out])
                  | (at_builtin; refine wpList_app1 (E := sOld (vSl 1 vI) W) (d := z) rfl _ _ _ rfl tIIr rfl rfl rfl (by simp) (fun _ => ⟨⟨Az, kz, rfl, hvz⟩, rfl⟩) rfl (by simp [Value.oneCell']) (hSd.toExt hx3) (by omega) (by omega) ?_; intro v' w' F' hS' hC' hF'))
                exact ⟨⟨ls', rs', us ++ [u] ++ [z], Aa', Ab', ca', cb', F', rfl, rfl, hca', hcb', hva2, hvb2, hS', newer HF.out (size_of_ext (trans_ext hyd hx3)) hF', hC'.isExt (trans_ext hyd hx3) HF.out, Lib.hid HSI.out, by simp at hlen' ⊢; omega⟩, by have := HN'.out; simp [slLen] at this ⊢; omega⟩
          · have HST := Lib.hid (stepI_l HM.out (le_tail HM.out.sb (by rw [hC]; omega)))
            clear hC
            go_upto_region 13 with fail
            refine wp_region_ext (by kernel_rfl) (by kernel_rfl) ?_
            repeat (go_big_quiet_step ((go_at_call 88; exact quietEj (specCompareRows_any lx (hv.toExt (trans_ext hy (by refine x'z ?_; repeat (with_reducible (first | exact x'a _ _ | exact x'b _ | exact x'c (by assumption) | refine x'd ?_ (by assumption) | refine x'e ?_ _ | refine x'f ?_ _ | refine x'g ?_ | refine x'h ?_ ?_ _ | refine x'i ?_ _ | refine x'j ?_ | refine x'k ?_ _ | refine x'l ?_ _ _ | refine x'm ?_ | assumption | (refine x'n ?_; omega) | omega))))) ly (hv2.toExt (trans_ext hy (by refine x'z ?_; repeat (with_reducible (first | exact x'a _ _ | exact x'b _ | exact x'c (by assumption) | refine x'd ?_ (by assumption) | refine x'e ?_ _ | refine x'f ?_ _ | refine x'g ?_ | refine x'h ?_ ?_ _ | refine x'i ?_ _ | refine x'j ?_ | refine x'k ?_ _ | refine x'l ?_ _ _ | refine x'm ?_ | assumption | (refine x'n ?_; omega) | omega)))))) HC.out)))
            refine wpQuiet_nil ?_
            rintro _ ⟨zz, rfl⟩
            go_upto_if 50 with fail
            go_cut [4, 5, 8] (CutI rows out W wr (ls.length + rs.length + 2))
            case first =>
              by_cases e1 : ca = 1
              · obtain rfl : ls = [] := List.eq_nil_of_length_eq_zero (by omega)
                subst e1
                have hvq := hvn rfl
                clear hvn
                go_wp2
                go_meet
                exact ⟨[], (y :: rs), _, _, _, _, _, _, x, rfl, rfl, rfl, by simp, hcb, hl1, hvq, hvb, hv, HST.out, HTOT.out, (by refine x'z ?_; repeat (with_reducible (first | exact x'a _ _ | exact x'b _ | exact x'c (by assumption) | refine x'd ?_ (by assumption) | refine x'e ?_ _ | refine x'f ?_ _ | refine x'g ?_ | refine x'h ?_ ?_ _ | refine x'i ?_ _ | refine x'j ?_ | refine x'k ?_ _ | refine x'l ?_ _ _ | refine x'm ?_ | assumption | (refine x'n ?_; omega) | omega)))⟩
              · go_wp2
                go_meet
                exact ⟨ls, (y :: rs), _, _, _, _, _, _, x, rfl, rfl, rfl, by omega, hcb, hl1, hva', hvb, hv, HST.out, HTOT.out, (by refine x'z ?_; repeat (with_reducible (first | exact x'a _ _ | exact x'b _ | exact x'c (by assumption) | refine x'd ?_ (by assumption) | refine x'e ?_ _ | refine x'f ?_ _ | refine x'g ?_ | refine x'h ?_ ?_ _ | refine x'i ?_ _ | refine x'j ?_ | refine x'k ?_ _ | refine x'l ?_ _ _ | refine x'm ?_ | assumption | (refine x'n ?_; omega) | omega)))⟩
            obtain ⟨ls', rs', Aa', Ab', Az, ca', cb', cz, z, rfl, rfl, rfl, hca', hcb', hcz, hva2, hvb2, hvz, HSt, hn', hyc⟩ := hcut
            obtain ⟨wd, rfl⟩ : ∃ W, W = wc := ⟨_, rfl⟩
            have hyd := trans_ext hy hyc
            have hSd := hS.toExt hyc
            have lz := Hxl.out z HSt.2.2
            have hlen' : out.length + ls'.length + rs'.length + 1 ≤ 1000000000 := by simp only [List.length_cons] at hlen hn'; omega
            obtain ⟨kz, rfl⟩ : ∃ k, cz = z.length + k := ⟨cz - z.length, by omega⟩
            have HSt := Lib.hid HSt
            have HN' := Lib.hid hn'
            clear hn'
            by_cases ho : out.length = 0
            · have HSI := Lib.hid (HSt.out.1 (by rw [List.eq_nil_of_length_eq_zero ho]; simp))
              go_wp2_with (at_builtin; refine wpList_app1 (E := sOld (vSl 1 vI) W) (d := z) rfl _ _ _ rfl tIIr rfl rfl rfl (by simp) (fun _ => ⟨⟨Az, kz, rfl, hvz⟩, rfl⟩) rfl (by simp [Value.oneCell']) hSd (by omega) (by omega) ?_; intro v' w' F' hS' hC' hF')
              exact ⟨⟨ls', rs', out ++ [z], Aa', Ab', ca', cb', F', rfl, rfl, hca', hcb', hva2, hvb2, hS', newer HF.out (size_of_ext hyd) hF', hC'.isExt hyd HF.out, Lib.hid HSI.out, by simp; omega⟩, by have := HN'.out; simp [slLen] at this ⊢; omega⟩
            · obtain ⟨us, u, rfl⟩ : ∃ us u, out = us ++ [u] := ⟨out.dropLast, out.getLast (by intro e; subst e; simp at ho), (List.dropLast_concat_getLast _).symm⟩
              have rvd := rv.toExt hyc
              obtain ⟨bo, oo, Au, cu, rfl, hbo, hco2, hvu⟩ := rvd.atV (k := us.length) (by simp)
              rw [show (us ++ [u])[us.length]'(by simp) = u by simp] at hco2 hvu
              have lu := Hxl.out u (by have := (HM.out.m u).2 (.inl (by simp)); exact this)
              have hlu : us.length + 1 ≤ co := by simpa using hco
              rw [show (us ++ [u]).length = us.length + 1 by simp] at hSd
              have hus : us.length + 1 ≤ 1000000000 := by simp at hlen'; omega
              obtain ⟨C, hC⟩ : ∃ C, cmpL u z = C := ⟨_, rfl⟩
              have HC := Lib.hid hC
              by_cases h0 : C = 0
              · subst h0
                have HSI := Lib.hid (HSt.out.2.1 (by rw [cmpL_zero.1 hC]; simp))
                clear hC
                go_wp2_with (go_at_call 88; refine (specCompareRows_any lu hvu lz (hvz.toExt hyd)).mono ?_; rintro e w3 ⟨rfl, hx3⟩; rw [HC.out])
                exact ⟨⟨ls', rs', us ++ [u], Aa', Ab', ca', cb', F, rfl, rfl, hca', hcb', hva2, hvb2, hSd.toExt hx3, HF.out, trans_ext hyd hx3, Lib.hid HSI.out, by omega⟩, by have := HN'.out; simp [slLen] at this ⊢; omega⟩
              · have h9 : (C != 0) = true := by simpa using h0
                have HSI := Lib.hid (HSt.out.1 (by simp only [List.getLast?_append, List.getLast?_singleton]; rintro v ⟨⟩; rw [hC]; exact h0))
                clear hC h0
                go_wp2_with (first
                  | (go_at_call 88; refine (specCompareRows_any lu hvu lz (hvz.toExt hyd)).mono ?_; rintro e w3 ⟨rfl, hx3⟩; rw [HC.out])
                  | (at_builtin; refine wpList_app1 (E := sOld (vSl 1 vI) W) (d := z) rfl _ _ _ rfl tIIr rfl rfl rfl (by simp) (fun _ => ⟨⟨Az, kz, rfl, hvz⟩, rfl⟩) rfl (by simp [Value.oneCell']) (hSd.toExt hx3) (by omega) (by omega) ?_; intro v' w' F' hS' hC' hF'))
                exact ⟨⟨ls', rs', us ++ [u] ++ [z], Aa', Ab', ca', cb', F', rfl, rfl, hca', hcb', hva2, hvb2, hS', newer HF.out (size_of_ext (trans_ext hyd hx3)) hF', hC'.isExt (trans_ext hyd hx3) HF.out, Lib.hid HSI.out, by simp at hlen' ⊢; omega⟩, by have := HN'.out; simp [slLen] at this ⊢; omega⟩
end Go.Proofs.YtfigcfajkilhiaaGreat
