/- Contracts of functions that the statement reaches. -/
import Derived.Test.YtfigcfajkilhiaaGreatE23
import Derived.Test.YtfigcfajkilhiaaGreatE24
namespace Go.Proofs.YtfigcfajkilhiaaGreat
open Go.RowKit
def VRRes (d : VRd) (w : World) (e : Ending) (w' : World) : Prop := ∃ v0 v1 v2 F, e = .returned (.agg #[v0, v1, v2]) ∧ (∃ y, w' = ext w y) ∧ sVR w' [v0, v1, v2] d F ∧ F.Nodup ∧ ∀ b ∈ F, w.heap.size ≤ b
theorem nodup_less {F G : List Nat} {n : Nat} (h1 : F.Nodup) (h2 : G.Nodup) (h3 : ∀ b ∈ G, b < n) (h4 : ∀ b ∈ F, n ≤ b) : (F ++ G).Nodup :=
  List.nodup_append.2 ⟨h1, h2, fun a ha b hb e => by have := h4 a ha; have := h3 b hb; omega⟩
theorem cell_st3 {w : World} {B b o : Nat} {u v x y : Value} (h : w.cell? ⟨b, o, none⟩ = some y) (hl : b < w.heap.size) (hne : b ≠ B) : (((w.setCell ⟨B, 0, none⟩ u).setCell ⟨B, 1, none⟩ v).setCell ⟨B, 2, none⟩ x).cell? ⟨b, o, none⟩ = some y :=
  (Chg.cell ((((Chg.refl [B] w).setCell (.inl (by simp)) u).setCell (.inl (by simp)) v).setCell (.inl (by simp)) x) (by simpa using hne) hl).trans h
set_option maxRecDepth 100000 in
set_option maxHeartbeats 8000000 in
theorem AtomRelation_any {A B : Option Addr} {c e : Nat} {d : Dbd} {a : At} {w : World} (hd : WDb d) (h1 : RV 3 vTb w A d) (hx : a.2.length ≤ 1000000000) (h2 : RI w B a.2) :
    Calls Tryz.prog 40 #[.agg #[.slice A d.length c], .agg #[.string a.1, .slice B a.2.length e]] w (VRRes (atomVR d a) w) := by
  have HD := Lib.hid hd
  clear hd
  go_enter Tryz.func40, Tryz.ntmps40
  go_upto_region 1 with fail
  refine wp_name ?_
  intro W hW
  have xW : ∃ y, W = ext w y := by rw [hW.out]; exact (by refine x'z ?_; repeat (with_reducible (first | exact x'a _ _ | exact x'b _ | exact x'c (by assumption) | refine x'd ?_ (by assumption) | refine x'e ?_ _ | refine x'f ?_ _ | refine x'g ?_ | refine x'h ?_ ?_ _ | refine x'i ?_ _ | refine x'j ?_ | refine x'k ?_ _ | refine x'l ?_ _ _ | refine x'm ?_ | assumption | (refine x'n ?_; omega) | omega)))
  have PW : BoxAt W w.heap.size #[.slice A d.length c] := by rw [hW.out]; exact (by repeat (with_reducible (first | assumption | exact BoxAt.new _ _ _ | apply BoxAt.set10 | apply BoxAt.set2 | refine BoxAt.set2' ?_ (by omega) | apply BoxAt.setP0 | apply BoxAt.setP1 | refine BoxAt.setO ?_ (by omega) | refine BoxAt.alloc ?_ _ | refine BoxAt.drew ?_ | refine BoxAt.toExt ?_ (by assumption))))
  have QW : BoxAt W (w.heap.size + 1) #[.string a.1, .slice B a.2.length e] := by rw [hW.out]; refine ⟨?_, fun j => ?_, fun j => ?_⟩ <;> go_simp
  have RW : BoxAt W (w.heap.size + 1 + 1) #[.slice none 0 0, .int .i64 0, .slice none 0 0] := by rw [hW.out]; refine ⟨?_, fun j => ?_, fun j => ?_⟩ <;> go_simp
  obtain ⟨lp, p0, fp⟩ := bx1 PW
  obtain ⟨lq, q0, q1, fq⟩ := bx2 QW
  have hRs := RW.1
  clear hW
  go_region_held3 (fun w' => w'.cell? ⟨w.heap.size, 0, none⟩ = some (.slice A d.length c) ∧ w'.cell? ⟨w.heap.size + 1, 0, none⟩ = some (.string a.1) ∧ w'.cell? ⟨w.heap.size + 1, 1, none⟩ = some (.slice B a.2.length e)) (first | exact ⟨kp, kq, kq'⟩ | exact ⟨cell_st3 kp lpv (by omega), cell_st3 kq lqv (by omega), cell_st3 kq' lqv (by omega)⟩ | go_keep) (first
    | (go_at_call 78; refine (AtomVariables_any (by omega) (h2.toExt (trans_ext xW (by refine x'z ?_; repeat (with_reducible (first | exact x'a _ _ | exact x'b _ | exact x'c (by assumption) | refine x'd ?_ (by assumption) | refine x'e ?_ _ | refine x'f ?_ _ | refine x'g ?_ | refine x'h ?_ ?_ _ | refine x'i ?_ _ | refine x'j ?_ | refine x'k ?_ _ | refine x'l ?_ _ _ | refine x'm ?_ | assumption | (refine x'n ?_; omega) | omega)))))).mono ?_; rintro e wv ⟨vv, Fv, rfl, hxv, hSv, hFv⟩; obtain ⟨Av, cv, rfl, _, _⟩ := hSv.form; have hyv : ∃ y, wv = ext W y := (by refine x'z ?_; repeat (with_reducible (first | exact x'a _ _ | exact x'b _ | exact x'c (by assumption) | refine x'd ?_ (by assumption) | refine x'e ?_ _ | refine x'f ?_ _ | refine x'g ?_ | refine x'h ?_ ?_ _ | refine x'i ?_ _ | refine x'j ?_ | refine x'k ?_ _ | refine x'l ?_ _ _ | refine x'm ?_ | assumption | (refine x'n ?_; omega) | omega))); obtain ⟨lpv, kp, fpv⟩ := bx1 (PW.toExt hyv); obtain ⟨lqv, kq, kq', fqv⟩ := bx2 (QW.toExt hyv); obtain ⟨lv, r0v, r1v, r2v, frv⟩ := box3 (RW.toExt hyv))
    | (go_at_call 79; refine (AtomBindings_any HD.out (h1.toExt (trans_ext xW (by refine x'z ?_; repeat (with_reducible (first | exact x'a _ _ | exact x'b _ | exact x'c (by assumption) | refine x'd ?_ (by assumption) | refine x'e ?_ _ | refine x'f ?_ _ | refine x'g ?_ | refine x'h ?_ ?_ _ | refine x'i ?_ _ | refine x'j ?_ | refine x'k ?_ _ | refine x'l ?_ _ _ | refine x'm ?_ | assumption | (refine x'n ?_; omega) | omega))))) (by omega) (h2.toExt (trans_ext xW (by refine x'z ?_; repeat (with_reducible (first | exact x'a _ _ | exact x'b _ | exact x'c (by assumption) | refine x'd ?_ (by assumption) | refine x'e ?_ _ | refine x'f ?_ _ | refine x'g ?_ | refine x'h ?_ ?_ _ | refine x'i ?_ _ | refine x'j ?_ | refine x'k ?_ _ | refine x'l ?_ _ _ | refine x'm ?_ | assumption | (refine x'n ?_; omega) | omega)))))).mono ?_; rintro e wb ⟨u0, u1, Fb, rfl, hxb, hSb, hNb, hFb⟩; obtain ⟨Ab, cb, rfl, rfl, hIb⟩ := sRel_form hSb; have hyb : ∃ y, wb = ext W y := (by refine x'z ?_; repeat (with_reducible (first | exact x'a _ _ | exact x'b _ | exact x'c (by assumption) | refine x'd ?_ (by assumption) | refine x'e ?_ _ | refine x'f ?_ _ | refine x'g ?_ | refine x'h ?_ ?_ _ | refine x'i ?_ _ | refine x'j ?_ | refine x'k ?_ _ | refine x'l ?_ _ _ | refine x'm ?_ | assumption | (refine x'n ?_; omega) | omega))); obtain ⟨lpv, kp, fpv⟩ := bx1 (PW.toExt hyb); obtain ⟨lqv, kq, kq', fqv⟩ := bx2 (QW.toExt hyb); obtain ⟨lb, r0b, r1b, r2b, frb⟩ := box3 (RW.toExt hyb)))
  all_goals
    go_wp2_with fail
    have hzv := size_of_ext hyv
    have hzb := size_of_ext hyb
    have hlv := hSv.lt
    have hlb : ∀ b ∈ Fb, b < wb.heap.size := SMono.lt hSb
    have hSv2 : ∀ x ∈ Fv, W.heap.size ≤ x := fun x hx => Nat.le_trans (size_of_ext (by refine x'z ?_; repeat (with_reducible (first | exact x'a _ _ | exact x'b _ | exact x'c (by assumption) | refine x'd ?_ (by assumption) | refine x'e ?_ _ | refine x'f ?_ _ | refine x'g ?_ | refine x'h ?_ ?_ _ | refine x'i ?_ _ | refine x'j ?_ | refine x'k ?_ _ | refine x'l ?_ _ _ | refine x'm ?_ | assumption | (refine x'n ?_; omega) | omega)))) (hFv x hx)
    have hSb2 : ∀ x ∈ Fb, W.heap.size ≤ x := fun x hx => Nat.le_trans (size_of_ext (by refine x'z ?_; repeat (with_reducible (first | exact x'a _ _ | exact x'b _ | exact x'c (by assumption) | refine x'd ?_ (by assumption) | refine x'e ?_ _ | refine x'f ?_ _ | refine x'g ?_ | refine x'h ?_ ?_ _ | refine x'i ?_ _ | refine x'j ?_ | refine x'k ?_ _ | refine x'l ?_ _ _ | refine x'm ?_ | assumption | (refine x'n ?_; omega) | omega)))) (hFb x hx)
    refine bodyPost_ret (v := .agg #[.slice Av (avars 5 0 a.2).length cv, .int .i64 (atomBd d a).1, .slice Ab (atomBd d a).2.length cb]) (by simp [results, Tryz.results40, go_sem, *]) rfl ⟨_, _, _, Fv ++ Fb, rfl, (by refine x'z ?_; repeat (with_reducible (first | exact x'a _ _ | exact x'b _ | exact x'c (by assumption) | refine x'd ?_ (by assumption) | refine x'e ?_ _ | refine x'f ?_ _ | refine x'g ?_ | refine x'h ?_ ?_ _ | refine x'i ?_ _ | refine x'j ?_ | refine x'k ?_ _ | refine x'l ?_ _ _ | refine x'm ?_ | assumption | (refine x'n ?_; omega) | omega))), ?_, ?_, fun b hb => ?_⟩
    · first
        | exact sVR_mk (z := (atomBd d a).1) ((hSv.toExt hxb).chg (G := [w.heap.size + 1 + 1]) (by repeat (with_reducible (first | exact Chg.refl _ _ | refine Chg.trans0 ?_ (by assumption) | refine Chg.extS ?_ _ | refine Chg.alloc ?_ _ | refine Chg.drew ?_ | refine Chg.setCell ?_ (.inl (by simp)) _))) (fun b hb h => by have := hSv2 b hb; rw [List.mem_singleton.1 h] at this; omega)) (OD.chg (E := sII) (G := [w.heap.size + 1 + 1]) hIb (by repeat (with_reducible (first | exact Chg.refl _ _ | refine Chg.trans0 ?_ (by assumption) | refine Chg.extS ?_ _ | refine Chg.alloc ?_ _ | refine Chg.drew ?_ | refine Chg.setCell ?_ (.inl (by simp)) _))) (fun b hb h => by have := hSb2 b hb; rw [List.mem_singleton.1 h] at this; omega))
        | exact sVR_mk (z := (atomBd d a).1) (hSv.chg (G := [w.heap.size + 1 + 1]) (by repeat (with_reducible (first | exact Chg.refl _ _ | refine Chg.trans0 ?_ (by assumption) | refine Chg.extS ?_ _ | refine Chg.alloc ?_ _ | refine Chg.drew ?_ | refine Chg.setCell ?_ (.inl (by simp)) _))) (fun b hb h => by have := hSv2 b hb; rw [List.mem_singleton.1 h] at this; omega)) (OD.chg (E := sII) (G := [w.heap.size + 1 + 1]) (OD.toExt hIb hxv) (by repeat (with_reducible (first | exact Chg.refl _ _ | refine Chg.trans0 ?_ (by assumption) | refine Chg.extS ?_ _ | refine Chg.alloc ?_ _ | refine Chg.drew ?_ | refine Chg.setCell ?_ (.inl (by simp)) _))) (fun b hb h => by have := hSb2 b hb; rw [List.mem_singleton.1 h] at this; omega))
    · first
        | exact nodup_more hSv.nodup hNb hlv hFb
        | exact nodup_less hSv.nodup hNb hlb hFv
    · rcases List.mem_append.1 hb with h | h
      · have := hSv2 b h; omega
      · have := hSb2 b h; omega
set_option maxRecDepth 100000 in
set_option maxHeartbeats 8000000 in
theorem specAtomRelation_any {A B : Option Addr} {c e : Nat} {d : Dbd} {a : At} {w : World} (hd : WDb d) (h1 : RV 3 vTb w A d) (hx : a.2.length ≤ 1000000000) (h2 : RI w B a.2) :
    Calls Tryz.prog 32 #[.agg #[.slice A d.length c], .agg #[.string a.1, .slice B a.2.length e]] w (VRRes (atomVR d a) w) := by
  have HD := Lib.hid hd
  clear hd
  go_enter Tryz.func32, Tryz.ntmps32
  go_upto_region 1 with fail
  refine wp_name ?_
  intro W hW
  have xW : ∃ y, W = ext w y := by rw [hW.out]; exact (by refine x'z ?_; repeat (with_reducible (first | exact x'a _ _ | exact x'b _ | exact x'c (by assumption) | refine x'd ?_ (by assumption) | refine x'e ?_ _ | refine x'f ?_ _ | refine x'g ?_ | refine x'h ?_ ?_ _ | refine x'i ?_ _ | refine x'j ?_ | refine x'k ?_ _ | refine x'l ?_ _ _ | refine x'm ?_ | assumption | (refine x'n ?_; omega) | omega)))
  have PW : BoxAt W w.heap.size #[.slice A d.length c] := by rw [hW.out]; exact (by repeat (with_reducible (first | assumption | exact BoxAt.new _ _ _ | apply BoxAt.set10 | apply BoxAt.set2 | refine BoxAt.set2' ?_ (by omega) | apply BoxAt.setP0 | apply BoxAt.setP1 | refine BoxAt.setO ?_ (by omega) | refine BoxAt.alloc ?_ _ | refine BoxAt.drew ?_ | refine BoxAt.toExt ?_ (by assumption))))
  have QW : BoxAt W (w.heap.size + 1) #[.string a.1, .slice B a.2.length e] := by rw [hW.out]; refine ⟨?_, fun j => ?_, fun j => ?_⟩ <;> go_simp
  have RW : BoxAt W (w.heap.size + 1 + 1) #[.slice none 0 0, .int .i64 0, .slice none 0 0] := by rw [hW.out]; refine ⟨?_, fun j => ?_, fun j => ?_⟩ <;> go_simp
  obtain ⟨lp, p0, fp⟩ := bx1 PW
  obtain ⟨lq, q0, q1, fq⟩ := bx2 QW
  have hRs := RW.1
  clear hW
  go_region_held3 (fun w' => w'.cell? ⟨w.heap.size, 0, none⟩ = some (.slice A d.length c) ∧ w'.cell? ⟨w.heap.size + 1, 0, none⟩ = some (.string a.1) ∧ w'.cell? ⟨w.heap.size + 1, 1, none⟩ = some (.slice B a.2.length e)) (first | exact ⟨kp, kq, kq'⟩ | exact ⟨cell_st3 kp lpv (by omega), cell_st3 kq lqv (by omega), cell_st3 kq' lqv (by omega)⟩ | go_keep) (first
    | (go_at_call 67; refine (specAtomVariables_any (by omega) (h2.toExt (trans_ext xW (by refine x'z ?_; repeat (with_reducible (first | exact x'a _ _ | exact x'b _ | exact x'c (by assumption) | refine x'd ?_ (by assumption) | refine x'e ?_ _ | refine x'f ?_ _ | refine x'g ?_ | refine x'h ?_ ?_ _ | refine x'i ?_ _ | refine x'j ?_ | refine x'k ?_ _ | refine x'l ?_ _ _ | refine x'm ?_ | assumption | (refine x'n ?_; omega) | omega)))))).mono ?_; rintro e wv ⟨vv, Fv, rfl, hxv, hSv, hFv⟩; obtain ⟨Av, cv, rfl, _, _⟩ := hSv.form; have hyv : ∃ y, wv = ext W y := (by refine x'z ?_; repeat (with_reducible (first | exact x'a _ _ | exact x'b _ | exact x'c (by assumption) | refine x'd ?_ (by assumption) | refine x'e ?_ _ | refine x'f ?_ _ | refine x'g ?_ | refine x'h ?_ ?_ _ | refine x'i ?_ _ | refine x'j ?_ | refine x'k ?_ _ | refine x'l ?_ _ _ | refine x'm ?_ | assumption | (refine x'n ?_; omega) | omega))); obtain ⟨lpv, kp, fpv⟩ := bx1 (PW.toExt hyv); obtain ⟨lqv, kq, kq', fqv⟩ := bx2 (QW.toExt hyv); obtain ⟨lv, r0v, r1v, r2v, frv⟩ := box3 (RW.toExt hyv))
    | (go_at_call 68; refine (specAtomBindings_any HD.out (h1.toExt (trans_ext xW (by refine x'z ?_; repeat (with_reducible (first | exact x'a _ _ | exact x'b _ | exact x'c (by assumption) | refine x'd ?_ (by assumption) | refine x'e ?_ _ | refine x'f ?_ _ | refine x'g ?_ | refine x'h ?_ ?_ _ | refine x'i ?_ _ | refine x'j ?_ | refine x'k ?_ _ | refine x'l ?_ _ _ | refine x'm ?_ | assumption | (refine x'n ?_; omega) | omega))))) (by omega) (h2.toExt (trans_ext xW (by refine x'z ?_; repeat (with_reducible (first | exact x'a _ _ | exact x'b _ | exact x'c (by assumption) | refine x'd ?_ (by assumption) | refine x'e ?_ _ | refine x'f ?_ _ | refine x'g ?_ | refine x'h ?_ ?_ _ | refine x'i ?_ _ | refine x'j ?_ | refine x'k ?_ _ | refine x'l ?_ _ _ | refine x'm ?_ | assumption | (refine x'n ?_; omega) | omega)))))).mono ?_; rintro e wb ⟨u0, u1, Fb, rfl, hxb, hSb, hNb, hFb⟩; obtain ⟨Ab, cb, rfl, rfl, hIb⟩ := sRel_form hSb; have hyb : ∃ y, wb = ext W y := (by refine x'z ?_; repeat (with_reducible (first | exact x'a _ _ | exact x'b _ | exact x'c (by assumption) | refine x'd ?_ (by assumption) | refine x'e ?_ _ | refine x'f ?_ _ | refine x'g ?_ | refine x'h ?_ ?_ _ | refine x'i ?_ _ | refine x'j ?_ | refine x'k ?_ _ | refine x'l ?_ _ _ | refine x'm ?_ | assumption | (refine x'n ?_; omega) | omega))); obtain ⟨lpv, kp, fpv⟩ := bx1 (PW.toExt hyb); obtain ⟨lqv, kq, kq', fqv⟩ := bx2 (QW.toExt hyb); obtain ⟨lb, r0b, r1b, r2b, frb⟩ := box3 (RW.toExt hyb)))
  all_goals
    go_wp2_with fail
    have hzv := size_of_ext hyv
    have hzb := size_of_ext hyb
    have hlv := hSv.lt
    have hlb : ∀ b ∈ Fb, b < wb.heap.size := SMono.lt hSb
    have hSv2 : ∀ x ∈ Fv, W.heap.size ≤ x := fun x hx => Nat.le_trans (size_of_ext (by refine x'z ?_; repeat (with_reducible (first | exact x'a _ _ | exact x'b _ | exact x'c (by assumption) | refine x'd ?_ (by assumption) | refine x'e ?_ _ | refine x'f ?_ _ | refine x'g ?_ | refine x'h ?_ ?_ _ | refine x'i ?_ _ | refine x'j ?_ | refine x'k ?_ _ | refine x'l ?_ _ _ | refine x'm ?_ | assumption | (refine x'n ?_; omega) | omega)))) (hFv x hx)
    have hSb2 : ∀ x ∈ Fb, W.heap.size ≤ x := fun x hx => Nat.le_trans (size_of_ext (by refine x'z ?_; repeat (with_reducible (first | exact x'a _ _ | exact x'b _ | exact x'c (by assumption) | refine x'd ?_ (by assumption) | refine x'e ?_ _ | refine x'f ?_ _ | refine x'g ?_ | refine x'h ?_ ?_ _ | refine x'i ?_ _ | refine x'j ?_ | refine x'k ?_ _ | refine x'l ?_ _ _ | refine x'm ?_ | assumption | (refine x'n ?_; omega) | omega)))) (hFb x hx)
    refine bodyPost_ret (v := .agg #[.slice Av (avars 5 0 a.2).length cv, .int .i64 (atomBd d a).1, .slice Ab (atomBd d a).2.length cb]) (by simp [results, Tryz.results32, go_sem, *]) rfl ⟨_, _, _, Fv ++ Fb, rfl, (by refine x'z ?_; repeat (with_reducible (first | exact x'a _ _ | exact x'b _ | exact x'c (by assumption) | refine x'd ?_ (by assumption) | refine x'e ?_ _ | refine x'f ?_ _ | refine x'g ?_ | refine x'h ?_ ?_ _ | refine x'i ?_ _ | refine x'j ?_ | refine x'k ?_ _ | refine x'l ?_ _ _ | refine x'm ?_ | assumption | (refine x'n ?_; omega) | omega))), ?_, ?_, fun b hb => ?_⟩
    · first
        | exact sVR_mk (z := (atomBd d a).1) ((hSv.toExt hxb).chg (G := [w.heap.size + 1 + 1]) (by repeat (with_reducible (first | exact Chg.refl _ _ | refine Chg.trans0 ?_ (by assumption) | refine Chg.extS ?_ _ | refine Chg.alloc ?_ _ | refine Chg.drew ?_ | refine Chg.setCell ?_ (.inl (by simp)) _))) (fun b hb h => by have := hSv2 b hb; rw [List.mem_singleton.1 h] at this; omega)) (OD.chg (E := sII) (G := [w.heap.size + 1 + 1]) hIb (by repeat (with_reducible (first | exact Chg.refl _ _ | refine Chg.trans0 ?_ (by assumption) | refine Chg.extS ?_ _ | refine Chg.alloc ?_ _ | refine Chg.drew ?_ | refine Chg.setCell ?_ (.inl (by simp)) _))) (fun b hb h => by have := hSb2 b hb; rw [List.mem_singleton.1 h] at this; omega))
        | exact sVR_mk (z := (atomBd d a).1) (hSv.chg (G := [w.heap.size + 1 + 1]) (by repeat (with_reducible (first | exact Chg.refl _ _ | refine Chg.trans0 ?_ (by assumption) | refine Chg.extS ?_ _ | refine Chg.alloc ?_ _ | refine Chg.drew ?_ | refine Chg.setCell ?_ (.inl (by simp)) _))) (fun b hb h => by have := hSv2 b hb; rw [List.mem_singleton.1 h] at this; omega)) (OD.chg (E := sII) (G := [w.heap.size + 1 + 1]) (OD.toExt hIb hxv) (by repeat (with_reducible (first | exact Chg.refl _ _ | refine Chg.trans0 ?_ (by assumption) | refine Chg.extS ?_ _ | refine Chg.alloc ?_ _ | refine Chg.drew ?_ | refine Chg.setCell ?_ (.inl (by simp)) _))) (fun b hb h => by have := hSb2 b hb; rw [List.mem_singleton.1 h] at this; omega))
    · first
        | exact nodup_more hSv.nodup hNb hlv hFb
        | exact nodup_less hSv.nodup hNb hlb hFv
    · rcases List.mem_append.1 hb with h | h
      · have := hSv2 b h; omega
      · have := hSb2 b h; omega
theorem AtomRelation_x {A B : Option Addr} {c e : Nat} {d : Dbd} {s : ByteArray} {xs : List Int} {w : World} (hd : WDb d) (h1 : RV 3 vTb w A d) (hx : xs.length ≤ 1000000000) (h2 : RI w B xs) :
    Calls Tryz.prog 40 #[.agg #[.slice A d.length c], .agg #[.string s, .slice B xs.length e]] w (VRRes (atomVR d (s, xs)) w) := AtomRelation_any (a := (s, xs)) hd h1 hx h2
theorem specAtomRelation_x {A B : Option Addr} {c e : Nat} {d : Dbd} {s : ByteArray} {xs : List Int} {w : World} (hd : WDb d) (h1 : RV 3 vTb w A d) (hx : xs.length ≤ 1000000000) (h2 : RI w B xs) :
    Calls Tryz.prog 32 #[.agg #[.slice A d.length c], .agg #[.string s, .slice B xs.length e]] w (VRRes (atomVR d (s, xs)) w) := specAtomRelation_any (a := (s, xs)) hd h1 hx h2
end Go.Proofs.YtfigcfajkilhiaaGreat
