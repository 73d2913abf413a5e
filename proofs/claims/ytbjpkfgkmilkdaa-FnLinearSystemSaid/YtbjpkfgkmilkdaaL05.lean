/- Contracts of functions that the statement reaches. -/
import Derived.Test.YtbjpkfgkmilkdaaL04
import Derived.Test.YtbjpkfgkmilkdaaL03
import Derived.Test.YtbjpkfgkmilkdaaL01
namespace Go.Proofs.Ytbjpkfgkmilkdaa
open Go.RowKit
def ElP (te : Nat) (w : World) (v : Value) (F : List Nat) (o : Option (List Q2)) (e : Ending) (w' : World) : Prop := e = .returned (.bool o.isSome) ∧ Chg F w w' ∧ ∀ r, o = some r → SV te 2 sR w' v r F
set_option maxRecDepth 100000 in
set_option maxHeartbeats 8000000 in
theorem eliminate_any {A A' : Option Addr} {c c' p : Nat} {row piv : List Q2} {F G : List Nat} {w : World} (hS : SV 67 2 sR w (.slice A row.length c) row F) (hP : SV 67 2 sR w (.slice A' piv.length c') piv G) (hd : ∀ b ∈ G, b ∉ F)
    (hl : row.length ≤ 1000) (hl1 : row.length ≤ piv.length) (hl2 : piv.length ≤ row.length) (hp : p < row.length) :
    Calls Try.prog 51 #[.slice A row.length c, .slice A' piv.length c', .int .i64 p] w (ElP 67 w (.slice A row.length c) F (elimR p piv row)) := by
  obtain ⟨g, cap, hA, hgF, _, _⟩ := hS.block (by intro e; rw [e] at hp; simp at hp)
  injection hA with hA _ hcp
  subst hA hcp
  have hp2 : p < piv.length := by omega
  obtain ⟨b1, o1, e1, hb1, hc1, hc1'⟩ := (hS.toView sR_v).atR hp
  injection e1 with e1
  injection e1 with e1 e1'
  subst e1 e1'
  simp only [Nat.zero_add] at hc1 hc1'
  obtain ⟨b2, o2, rfl, hb2, hc2, hc2'⟩ := (hP.toView sR_v).atR hp2
  have Hd := Lib.hid hd
  have HS := Lib.hid hS
  have HP := Lib.hid hP
  clear hd hS hP
  obtain ⟨od, hod⟩ : ∃ o, divR row[p] piv[p] = o := ⟨_, rfl⟩
  have HD := Lib.hid hod
  have HE := Lib.hid (show elimR p piv row = elimO p piv row od by unfold elimR; rw [gq_at hp, gq_at hp2, hod])
  clear hod
  go_enter Try.func51, Try.ntmps51
  go_wp2_with fail
  go_region_held3 (fun w' => (∀ a : Addr, a.block < w.heap.size → w'.cell? a = w.cell? a) ∧ ∃ y, w' = ext w y) (first | exact heldE (by refine x'z ?_; repeat (with_reducible (first | exact x'a _ _ | exact x'b _ | exact x'c (by assumption) | refine x'd ?_ (by assumption) | refine x'e ?_ _ | refine x'f ?_ _ | refine x'g ?_ | refine x'h ?_ ?_ _ | refine x'i ?_ _ | refine x'j ?_ | refine x'k ?_ _ | refine x'l ?_ _ _ | refine x'm ?_ | assumption | (refine x'n ?_; omega) | omega)))) (first | (go_at_call 52; refine DivRational_any.mono ?_; rintro e w2 ⟨rfl, hx2⟩; rw [HD.out]; try (obtain ⟨_, l4, b4, b4', f4⟩ := box2 (BoxAt.toExt (BoxAt.new w _ _).drew hx2))))
  all_goals
    go_upto_region 2 with fail
    refine wp_name ?_
    intro W hW
    have xW : ∃ y, W = ext w y := by rw [hW.out]; exact (by refine x'z ?_; repeat (with_reducible (first | exact x'a _ _ | exact x'b _ | exact x'c (by assumption) | refine x'd ?_ (by assumption) | refine x'e ?_ _ | refine x'f ?_ _ | refine x'g ?_ | refine x'h ?_ ?_ _ | refine x'i ?_ _ | refine x'j ?_ | refine x'k ?_ _ | refine x'l ?_ _ _ | refine x'm ?_ | assumption | (refine x'n ?_; omega) | omega)))
    (first
      | (have Bb7 : BoxAt W w.heap.size #[.int .i64 (od.getD (0, 0)).1, .int .i64 (od.getD (0, 0)).2] := (by rw [hW.out]; (repeat (with_reducible (first | assumption | exact BoxAt.new _ _ _ | apply BoxAt.set2 | refine BoxAt.set2' ?_ (by omega) | apply BoxAt.setP0 | apply BoxAt.setP1 | refine BoxAt.setO ?_ (by omega) | refine BoxAt.alloc ?_ _ | refine BoxAt.drew ?_ | refine BoxAt.toExt ?_ (by assumption)))); done)
         obtain ⟨b7, qb7⟩ : ∃ b, w.heap.size = b := ⟨_, rfl⟩
         have hb7 : w.heap.size ≤ b7 := (by omega)
         rw [qb7] at Bb7 ⊢)
      | (have Bb7 : BoxAt W w2.heap.size #[.int .i64 (od.getD (0, 0)).1, .int .i64 (od.getD (0, 0)).2] := (by rw [hW.out]; (repeat (with_reducible (first | assumption | exact BoxAt.new _ _ _ | apply BoxAt.set2 | refine BoxAt.set2' ?_ (by omega) | apply BoxAt.setP0 | apply BoxAt.setP1 | refine BoxAt.setO ?_ (by omega) | refine BoxAt.alloc ?_ _ | refine BoxAt.drew ?_ | refine BoxAt.toExt ?_ (by assumption)))); done)
         obtain ⟨b7, qb7⟩ : ∃ b, w2.heap.size = b := ⟨_, rfl⟩
         have hb7 : w.heap.size ≤ b7 := (by rw [← qb7]; exact size_of_ext (by refine x'z ?_; repeat (with_reducible (first | exact x'a _ _ | exact x'b _ | exact x'c (by assumption) | refine x'd ?_ (by assumption) | refine x'e ?_ _ | refine x'f ?_ _ | refine x'g ?_ | refine x'h ?_ ?_ _ | refine x'i ?_ _ | refine x'j ?_ | refine x'k ?_ _ | refine x'l ?_ _ _ | refine x'm ?_ | assumption | (refine x'n ?_; omega) | omega))))
         rw [qb7] at Bb7 ⊢))
    clear qb7 hW
    have hS1 := HS.out.toExt xW
    have HxW := Lib.hid xW
    clear hx2 xW
    cases od with
    | none =>
      go_wp2
      go_ret
      exact ⟨by rw [HE.out]; rfl, Chg.ofExt HxW.out, fun r hr => by rw [HE.out] at hr; cases hr⟩
    | some f =>
      simp only [Option.getD_some, Option.isSome_some] at Bb7 ⊢
      clear hc1 hc1' hc2 hc2' hb1 hb2
      go_wp2
      go_loopw [9] (fun i wr => ∃ (k : Nat) (cur : List Q2), i = .int .i64 k ∧ p ≤ k ∧ k ≤ row.length ∧ cur.length ≤ row.length ∧ row.length ≤ cur.length ∧ SV 67 2 sR wr (.slice (some ⟨g, 0, none⟩) row.length c) cur F ∧ BoxAt wr b7 #[.int .i64 f.1, .int .i64 f.2] ∧ Chg F w wr ∧ Hid (elimS f piv (row.length - k) k cur = elimS f piv (row.length - p) p row)) (fun i _ => row.length - (intOf i).toNat)
      case atStart => exact ⟨p, row, rfl, by omega, by omega, by omega, by omega, hS1, Bb7, Chg.ofExt HxW.out, Lib.hid rfl⟩
      case round =>
        clear hS1 Bb7
        obtain ⟨k, cur, rfl, hk0, hk, hcl1, hcl2, hSr, B7, hC, Hj⟩ := hrel
        have HC := Lib.hid hC
        have hPr := HP.out.chg hC Hd.out
        have HSr := Lib.hid hSr
        have hzr := hC.size
        clear hC
        obtain ⟨_, l7, c7, c7', f7⟩ := box2 B7
        by_cases hlt : k < row.length
        · have hk1 : k < cur.length := by omega
          have hk2 : k < piv.length := by omega
          obtain ⟨b3, o3, e3, hb3, hc3, hc3'⟩ := (hPr.toView sR_v).atR hk2
          injection e3 with e3
          injection e3 with e3 e3'
          subst e3 e3'
          obtain ⟨om, hom⟩ : ∃ o, mulR f piv[k] = o := ⟨_, rfl⟩
          obtain ⟨os, hos⟩ : ∃ o, subR cur[k] (om.getD (0, 0)) = o := ⟨_, rfl⟩
          have HM := Lib.hid hom
          have HO := Lib.hid hos
          have hmb : -9223372036854775807 ≤ (om.getD (0, 0)).1 ∧ (om.getD (0, 0)).1 ≤ 9223372036854775807 := by
            cases om with
            | none => simp
            | some x => have := mulR_b hom; simp only [Option.getD_some]; omega
          obtain ⟨mb1, mb2⟩ := hmb
          clear hom hos hPr hSr
          go_wp2_with fail
          go_region_held3 (fun w' => (∀ a : Addr, a.block < wr.heap.size → w'.cell? a = wr.cell? a) ∧ ∃ y, w' = ext wr y) (first | exact heldE (by refine x'z ?_; repeat (with_reducible (first | exact x'a _ _ | exact x'b _ | exact x'c (by assumption) | refine x'd ?_ (by assumption) | refine x'e ?_ _ | refine x'f ?_ _ | refine x'g ?_ | refine x'h ?_ ?_ _ | refine x'i ?_ _ | refine x'j ?_ | refine x'k ?_ _ | refine x'l ?_ _ _ | refine x'm ?_ | assumption | (refine x'n ?_; omega) | omega)))) (first | (go_at_call 92; refine MulRational_any.mono ?_; rintro e w3 ⟨rfl, hx3⟩; rw [HM.out]; try (obtain ⟨_, l4, b4, b4', f4⟩ := box2 (BoxAt.toExt (BoxAt.new wr _ _).drew hx3))))
          all_goals
            go_upto_region 8 with fail
            refine wp_name ?_
            intro W1 hW1
            have xW1 : ∃ y, W1 = ext wr y := by rw [hW1.out]; exact (by refine x'z ?_; repeat (with_reducible (first | exact x'a _ _ | exact x'b _ | exact x'c (by assumption) | refine x'd ?_ (by assumption) | refine x'e ?_ _ | refine x'f ?_ _ | refine x'g ?_ | refine x'h ?_ ?_ _ | refine x'i ?_ _ | refine x'j ?_ | refine x'k ?_ _ | refine x'l ?_ _ _ | refine x'm ?_ | assumption | (refine x'n ?_; omega) | omega)))
            (first
              | (have Bb10 : BoxAt W1 wr.heap.size #[.int .i64 (om.getD (0, 0)).1, .int .i64 (om.getD (0, 0)).2] := (by rw [hW1.out]; (repeat (with_reducible (first | assumption | exact BoxAt.new _ _ _ | apply BoxAt.set2 | refine BoxAt.set2' ?_ (by omega) | apply BoxAt.setP0 | apply BoxAt.setP1 | refine BoxAt.setO ?_ (by omega) | refine BoxAt.alloc ?_ _ | refine BoxAt.drew ?_ | refine BoxAt.toExt ?_ (by assumption)))); done)
                 obtain ⟨b10, qb10⟩ : ∃ b, wr.heap.size = b := ⟨_, rfl⟩
                 have hb10 : wr.heap.size ≤ b10 := (by omega)
                 rw [qb10] at Bb10 ⊢)
              | (have Bb10 : BoxAt W1 w3.heap.size #[.int .i64 (om.getD (0, 0)).1, .int .i64 (om.getD (0, 0)).2] := (by rw [hW1.out]; (repeat (with_reducible (first | assumption | exact BoxAt.new _ _ _ | apply BoxAt.set2 | refine BoxAt.set2' ?_ (by omega) | apply BoxAt.setP0 | apply BoxAt.setP1 | refine BoxAt.setO ?_ (by omega) | refine BoxAt.alloc ?_ _ | refine BoxAt.drew ?_ | refine BoxAt.toExt ?_ (by assumption)))); done)
                 obtain ⟨b10, qb10⟩ : ∃ b, w3.heap.size = b := ⟨_, rfl⟩
                 have hb10 : wr.heap.size ≤ b10 := (by rw [← qb10]; exact size_of_ext (by refine x'z ?_; repeat (with_reducible (first | exact x'a _ _ | exact x'b _ | exact x'c (by assumption) | refine x'd ?_ (by assumption) | refine x'e ?_ _ | refine x'f ?_ _ | refine x'g ?_ | refine x'h ?_ ?_ _ | refine x'i ?_ _ | refine x'j ?_ | refine x'k ?_ _ | refine x'l ?_ _ _ | refine x'm ?_ | assumption | (refine x'n ?_; omega) | omega))))
                 rw [qb10] at Bb10 ⊢))
            clear qb10 hW1
            have HB7 := Lib.hid (B7.toExt xW1)
            have hS1 := HSr.out.toExt xW1
            obtain ⟨b5, o5, e5, hb5, hc5, hc5'⟩ := (hS1.toView sR_v).atR hk1
            injection e5 with e5
            injection e5 with e5 e5'
            subst e5 e5'
            simp only [Nat.zero_add] at hc5 hc5'
            obtain ⟨_, l10, c10, c10', f10⟩ := box2 Bb10
            have HS1 := Lib.hid hS1
            clear hS1 hx3 l7 c7 c7' f7 hb3 hc3 hc3'
            go_wp2_with fail
            go_region_held3 (fun w' => (∀ a : Addr, a.block < W1.heap.size → w'.cell? a = W1.cell? a) ∧ ∃ y, w' = ext W1 y) (first | exact heldE (by refine x'z ?_; repeat (with_reducible (first | exact x'a _ _ | exact x'b _ | exact x'c (by assumption) | refine x'd ?_ (by assumption) | refine x'e ?_ _ | refine x'f ?_ _ | refine x'g ?_ | refine x'h ?_ ?_ _ | refine x'i ?_ _ | refine x'j ?_ | refine x'k ?_ _ | refine x'l ?_ _ _ | refine x'm ?_ | assumption | (refine x'n ?_; omega) | omega)))) (first | (go_at_call 93; refine (SubRational_any mb1 mb2).mono ?_; rintro e w4 ⟨rfl, hx4⟩; rw [HO.out]; try (obtain ⟨_, l4, b4, b4', f4⟩ := box2 (BoxAt.toExt (BoxAt.new W1 _ _).drew hx4))))
          all_goals
            go_upto_region 9 with fail
            refine wp_name ?_
            intro W2 hW2
            have xW2 : ∃ y, W2 = ext W1 y := by rw [hW2.out]; exact (by refine x'z ?_; repeat (with_reducible (first | exact x'a _ _ | exact x'b _ | exact x'c (by assumption) | refine x'd ?_ (by assumption) | refine x'e ?_ _ | refine x'f ?_ _ | refine x'g ?_ | refine x'h ?_ ?_ _ | refine x'i ?_ _ | refine x'j ?_ | refine x'k ?_ _ | refine x'l ?_ _ _ | refine x'm ?_ | assumption | (refine x'n ?_; omega) | omega)))
            (first
              | (have Bb12 : BoxAt W2 W1.heap.size #[.int .i64 (os.getD (0, 0)).1, .int .i64 (os.getD (0, 0)).2] := (by rw [hW2.out]; (repeat (with_reducible (first | assumption | exact BoxAt.new _ _ _ | apply BoxAt.set2 | refine BoxAt.set2' ?_ (by omega) | apply BoxAt.setP0 | apply BoxAt.setP1 | refine BoxAt.setO ?_ (by omega) | refine BoxAt.alloc ?_ _ | refine BoxAt.drew ?_ | refine BoxAt.toExt ?_ (by assumption)))); done)
                 obtain ⟨b12, qb12⟩ : ∃ b, W1.heap.size = b := ⟨_, rfl⟩
                 have hb12 : W1.heap.size ≤ b12 := (by omega)
                 rw [qb12] at Bb12 ⊢)
              | (have Bb12 : BoxAt W2 w4.heap.size #[.int .i64 (os.getD (0, 0)).1, .int .i64 (os.getD (0, 0)).2] := (by rw [hW2.out]; (repeat (with_reducible (first | assumption | exact BoxAt.new _ _ _ | apply BoxAt.set2 | refine BoxAt.set2' ?_ (by omega) | apply BoxAt.setP0 | apply BoxAt.setP1 | refine BoxAt.setO ?_ (by omega) | refine BoxAt.alloc ?_ _ | refine BoxAt.drew ?_ | refine BoxAt.toExt ?_ (by assumption)))); done)
                 obtain ⟨b12, qb12⟩ : ∃ b, w4.heap.size = b := ⟨_, rfl⟩
                 have hb12 : W1.heap.size ≤ b12 := (by rw [← qb12]; exact size_of_ext (by refine x'z ?_; repeat (with_reducible (first | exact x'a _ _ | exact x'b _ | exact x'c (by assumption) | refine x'd ?_ (by assumption) | refine x'e ?_ _ | refine x'f ?_ _ | refine x'g ?_ | refine x'h ?_ ?_ _ | refine x'i ?_ _ | refine x'j ?_ | refine x'k ?_ _ | refine x'l ?_ _ _ | refine x'm ?_ | assumption | (refine x'n ?_; omega) | omega))))
                 rw [qb12] at Bb12 ⊢))
            clear qb12 hW2
            have HB72 := Lib.hid (HB7.out.toExt xW2)
            have hS2 := HS1.out.toExt xW2
            have HC2 := Lib.hid ((HC.out.trans0 xW1).trans0 xW2)
            obtain ⟨_, l12, c12, c12', f12⟩ := box2 Bb12
            clear hx4 hb5 hc5 hc5' l10 c10 c10' f10 mb1 mb2 B7 Bb10 hzr
            cases om with
            | none =>
              have HR := Lib.hid (show elimR p piv row = none by rw [HE.out]; exact Hj.out.symm.trans (elimS_mul0 hlt (by rw [gq_at hk2]; exact HM.out)))
              go_wp2
              go_ret
              exact ⟨by rw [HR.out]; rfl, HC2.out, fun r hr => by rw [HR.out] at hr; cases hr⟩
            | some x =>
              cases os with
              | none =>
                have HR := Lib.hid (show elimR p piv row = none by rw [HE.out]; exact Hj.out.symm.trans (elimS_sub0 hlt (by rw [gq_at hk2]; exact HM.out) (by rw [gq_at hk1]; exact HO.out)))
                go_wp2
                go_ret
                exact ⟨by rw [HR.out]; rfl, HC2.out, fun r hr => by rw [HR.out] at hr; cases hr⟩
              | some y =>
                have HR := Lib.hid ((elimS_go hlt (show mulR f (gq piv k) = some x by rw [gq_at hk2]; exact HM.out) (show subR (gq cur k) x = some y by rw [gq_at hk1]; exact HO.out)).symm.trans Hj.out)
                obtain ⟨⟨_, i0⟩, i1, i2⟩ := hS2.cell (by omega) (j := k * 2) (by omega)
                obtain ⟨⟨_, i3⟩, i4, _⟩ := hS2.cell (by omega) (j := k * 2 + 1) (by omega)
                obtain ⟨hS3, hC3⟩ := hS2.set2 (by omega) hlt (u := .int .i64 y.1) (v := .int .i64 y.2) (d := y) (fun _ => ⟨rfl, rfl⟩)
                have hg7 : b7 ∉ [g] := fun h => by have := HS.out.lt g hgF; rw [List.mem_singleton.1 h] at hb7; omega
                have HH := Lib.hid (And.intro hS3 (And.intro (HB72.out.chg hC3 hg7) (HC2.out.trans hC3 (fun x hx => .inl (by rw [List.mem_singleton.1 hx]; exact hgF)))))
                simp only [Option.getD_some] at c12 c12'
                clear hS2 hS3 hC3
                go_wp2
                exact ⟨⟨k + 1, cur.set k y, by go_num, by omega, by omega, by simp; omega, by simp; omega, HH.out.1, HH.out.2.1, HH.out.2.2, HR⟩, by simp [intOf]; omega⟩
        · go_wp2
          go_ret
          have e := Hj.out
          rw [elimS_end hlt] at e
          have HR := Lib.hid (show elimR p piv row = some cur by rw [HE.out]; exact e.symm)
          exact ⟨by rw [HR.out]; rfl, HC.out, fun r hr => by rw [HR.out] at hr; injection hr with hr; rw [← hr]; exact HSr.out⟩
end Go.Proofs.Ytbjpkfgkmilkdaa
