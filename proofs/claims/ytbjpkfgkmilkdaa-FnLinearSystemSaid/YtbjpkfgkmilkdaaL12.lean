/- Contracts of functions that the statement reaches. -/
import Derived.Test.YtbjpkfgkmilkdaaL08
import Derived.Test.YtbjpkfgkmilkdaaL10
import Derived.Test.YtbjpkfgkmilkdaaL03
import Derived.Test.YtbjpkfgkmilkdaaL11
namespace Go.Proofs.Ytbjpkfgkmilkdaa
open Go.RowKit
noncomputable def sSR10 : Code := ((Try.f9.body.bind (regionOf 10)).getD .skip)
set_option maxRecDepth 1000000 in
set_option maxHeartbeats 16000000 in
theorem sSR10_any {Q : Exit → Act → World → Prop} {w : World} {ba oa na ca br ro nb cb k cr : Nat} {Ar : Option Addr} {row : List Q2} {x : Q2} {m : List (List Q2)} {F : List Nat} {v : Value}
    (ha : w.cell? ⟨ba, oa + k, none⟩ = some (.slice Ar row.length cr)) (hb1 : w.cell? ⟨br, ro + k * 2, none⟩ = some (.int .i64 x.1)) (hb2 : w.cell? ⟨br, ro + k * 2 + 1, none⟩ = some (.int .i64 x.2)) (hba : ba < w.heap.size) (hbr : br < w.heap.size) (hbaF : ba ∉ F) (hbrF : br ∉ F) (hka : k < na) (hkb : k < nb)
    (hV : RR w Ar row) (hl : row.length ≤ 1000000000) (hS : SV 26 1 (sSl 67 2 sR) w v m F) (hN : F.Nodup) (hml : m.length + 1 ≤ 2000000000)
    {t2 t3 t4 t5 t6 t9 t10 t11 t12 t13 t14 t15 t16 t17 t18 t19 t20 t21 t22 t23 t24 t25 t26 t27 t28 t29 t30 t31 t32 t33 t34 t35 t36 t37 t38 t39 t40 t41 t42 t43 t44 t45 t46 t47 t48 t49 t50 t51 t52 t53 t54 t55 t56 t57 t58 t59 t60 t61 t62 t63 t64 t65 t66 t67 t68 t69 t70 t71 t72 t73 t74 t75 t76 t77 t78 t79 t80 t81 t82 t83 t84 t85 t86 t87 t88 t89 t90 t91 t92 t93 t94 t95 t96 t97 t98 t99 t100 t101 t102 t103 t104 t105 t106 t107 t108 t109 t110 t111 t112 t113 t114 t115 t116 t117 t118 t119 t120 t121 t122 t123 t124 t125 t126 t127 t128 t129 t130 t131 t132 t133 : Value}
    (hQ : ∀ (x41 x42 x43 x44 x45 x46 x47 x48 x49 x50 x51 x52 x53 x54 x55 v6 : Value) (w6 : World) (F6 : List Nat), SV 26 1 (sSl 67 2 sR) w6 v6 (m ++ [row ++ [x]]) F6 → F6.Nodup → Chg F w w6 → (∀ b ∈ F6, b ∈ F ∨ w.heap.size ≤ b) → Q .normal ⟨#[.slice (some ⟨ba, oa, none⟩) na ca, .slice (some ⟨br, ro, none⟩) nb cb, t2, t3, t4, t5, t6, v6, .int .i64 k, t9, t10, t11, t12, t13, t14, t15, t16, t17, t18, t19, t20, t21, t22, t23, t24, t25, t26, t27, t28, t29, t30, t31, t32, t33, t34, t35, t36, t37, t38, t39, t40, x41, x42, x43, x44, x45, x46, x47, x48, x49, x50, x51, x52, x53, x54, x55, t56, t57, t58, t59, t60, t61, t62, t63, t64, t65, t66, t67, t68, t69, t70, t71, t72, t73, t74, t75, t76, t77, t78, t79, t80, t81, t82, t83, t84, t85, t86, t87, t88, t89, t90, t91, t92, t93, t94, t95, t96, t97, t98, t99, t100, t101, t102, t103, t104, t105, t106, t107, t108, t109, t110, t111, t112, t113, t114, t115, t116, t117, t118, t119, t120, t121, t122, t123, t124, t125, t126, t127, t128, t129, t130, t131, t132, t133], []⟩ w6) :
    Code.wp Try.prog sSR10 Q ⟨#[.slice (some ⟨ba, oa, none⟩) na ca, .slice (some ⟨br, ro, none⟩) nb cb, t2, t3, t4, t5, t6, v, .int .i64 k, t9, t10, t11, t12, t13, t14, t15, t16, t17, t18, t19, t20, t21, t22, t23, t24, t25, t26, t27, t28, t29, t30, t31, t32, t33, t34, t35, t36, t37, t38, t39, t40, t41, t42, t43, t44, t45, t46, t47, t48, t49, t50, t51, t52, t53, t54, t55, t56, t57, t58, t59, t60, t61, t62, t63, t64, t65, t66, t67, t68, t69, t70, t71, t72, t73, t74, t75, t76, t77, t78, t79, t80, t81, t82, t83, t84, t85, t86, t87, t88, t89, t90, t91, t92, t93, t94, t95, t96, t97, t98, t99, t100, t101, t102, t103, t104, t105, t106, t107, t108, t109, t110, t111, t112, t113, t114, t115, t116, t117, t118, t119, t120, t121, t122, t123, t124, t125, t126, t127, t128, t129, t130, t131, t132, t133], []⟩ w := by
  have HV := Lib.hid hV
  have HS := Lib.hid hS
  have HN := Lib.hid hN
  clear hV hS hN
  obtain ⟨_, _, rfl, _, _⟩ := HS.out.form
  conv => arg 2; whnf
  refine wp_region_noPanic ?_
  refine wp_region_held_drew (S := (fun w' => w'.cell? ⟨ba, oa + k, none⟩ = some (.slice Ar row.length cr) ∧ w'.cell? ⟨br, ro + k * 2, none⟩ = some (.int .i64 x.1) ∧ w'.cell? ⟨br, ro + k * 2 + 1, none⟩ = some (.int .i64 x.2))) (by kernel_rfl) ?_ (fun hHeld => ?_)
  · ((try dsimp only); (first | done | trivial | go_keep))
  refine wpAnyH_take (i := 0) (v := ?_) (by simp only [List.getElem?_toArray, List.getElem?_cons_zero]; rfl) (by kernel_rfl) (by kernel_rfl) (by kernel_rfl) (by exact fun _ _ _ h => h) (Or.inl ⟨by rfl, ?_⟩) (by assumption) ?_
  rotate_left
  · (intro wS hSw; (try dsimp only at hSw); go_simp; try (with_reducible rfl))
  try simp only [Act.put, List.setIfInBounds_toArray, List.set_cons_zero, List.set_cons_succ]
  refine wpAnyH_take (i := 2) (v := ?_) (by simp only [List.getElem?_toArray, List.getElem?_cons_succ, List.getElem?_cons_zero]; rfl) (by kernel_rfl) (by kernel_rfl) (by kernel_rfl) (by exact fun _ _ _ h => h) (Or.inl ⟨by rfl, ?_⟩) (by assumption) ?_
  rotate_left
  · (intro wS hSw; (try dsimp only at hSw); go_simp; try (with_reducible rfl))
  try simp only [Act.put, List.setIfInBounds_toArray, List.set_cons_zero, List.set_cons_succ]
  refine wpAnyH_take (i := 3) (v := ?_) (by simp only [List.getElem?_toArray, List.getElem?_cons_succ, List.getElem?_cons_zero]; rfl) (by kernel_rfl) (by kernel_rfl) (by kernel_rfl) (by exact fun _ _ _ h => h) (Or.inl ⟨by rfl, ?_⟩) (by assumption) ?_
  rotate_left
  · (intro wS hSw; (try dsimp only at hSw); go_simp; try (with_reducible rfl))
  try simp only [Act.put, List.setIfInBounds_toArray, List.set_cons_zero, List.set_cons_succ]
  refine wpAnyH_take (i := 4) (v := ?_) (by simp only [List.getElem?_toArray, List.getElem?_cons_succ, List.getElem?_cons_zero]; rfl) (by kernel_rfl) (by kernel_rfl) (by kernel_rfl) (by exact fun _ _ _ h => h) (Or.inl ⟨by rfl, ?_⟩) (by assumption) ?_
  rotate_left
  · (intro wS hSw; (try dsimp only at hSw); go_simp; try (with_reducible rfl))
  try simp only [Act.put, List.setIfInBounds_toArray, List.set_cons_zero, List.set_cons_succ]
  refine wpAnyH_take (i := 5) (v := ?_) (by simp only [List.getElem?_toArray, List.getElem?_cons_succ, List.getElem?_cons_zero]; rfl) (by kernel_rfl) (by kernel_rfl) (by kernel_rfl) (by exact fun _ _ _ h => h) (Or.inl ⟨by rfl, ?_⟩) (by assumption) ?_
  rotate_left
  · (intro wS hSw; (try dsimp only at hSw); go_simp; try (with_reducible rfl))
  try simp only [Act.put, List.setIfInBounds_toArray, List.set_cons_zero, List.set_cons_succ]
  refine wpAnyH_take (i := 7) (v := ?_) (by simp only [List.getElem?_toArray, List.getElem?_cons_succ, List.getElem?_cons_zero]; rfl) (by kernel_rfl) (by kernel_rfl) (by kernel_rfl) (by exact fun _ _ _ h => h) (Or.inl ⟨by rfl, ?_⟩) (by assumption) ?_
  rotate_left
  · (intro wS hSw; (try dsimp only at hSw); go_simp; try (with_reducible rfl))
  try simp only [Act.put, List.setIfInBounds_toArray, List.set_cons_zero, List.set_cons_succ]
  refine wpAnyH_take (i := 8) (v := ?_) (by simp only [List.getElem?_toArray, List.getElem?_cons_succ, List.getElem?_cons_zero]; rfl) (by kernel_rfl) (by kernel_rfl) (by kernel_rfl) (by exact fun _ _ _ h => h) (Or.inl ⟨by rfl, ?_⟩) (by assumption) ?_
  rotate_left
  · (intro wS hSw; (try dsimp only at hSw); go_simp; try (with_reducible rfl))
  try simp only [Act.put, List.setIfInBounds_toArray, List.set_cons_zero, List.set_cons_succ]
  refine wpAnyH_take (i := 9) (v := ?_) (by simp only [List.getElem?_toArray, List.getElem?_cons_succ, List.getElem?_cons_zero]; rfl) (by kernel_rfl) (by kernel_rfl) (by kernel_rfl) (by exact fun _ _ _ h => h) (Or.inl ⟨by rfl, ?_⟩) (by assumption) ?_
  rotate_left
  · (intro wS hSw; (try dsimp only at hSw); go_simp; try (with_reducible rfl))
  try simp only [Act.put, List.setIfInBounds_toArray, List.set_cons_zero, List.set_cons_succ]
  refine wpAnyH_take (i := 10) (v := ?_) (by simp only [List.getElem?_toArray, List.getElem?_cons_succ, List.getElem?_cons_zero]; rfl) (by kernel_rfl) (by kernel_rfl) (by kernel_rfl) (by exact fun _ _ _ h => h) (Or.inl ⟨by rfl, ?_⟩) (by assumption) ?_
  rotate_left
  · (intro wS hSw; (try dsimp only at hSw); go_simp; try (with_reducible rfl))
  try simp only [Act.put, List.setIfInBounds_toArray, List.set_cons_zero, List.set_cons_succ]
  refine wpAnyH_ready (rs := [1, 11]) (by kernel_rfl) (by simp) ?_
  refine AllReadyH.cons (by simp only [List.getElem?_toArray, List.getElem?_cons_succ, List.getElem?_cons_zero]; rfl) (fun K hK => ?_) (AllReadyH.cons (by simp only [List.getElem?_toArray, List.getElem?_cons_succ, List.getElem?_cons_zero]; rfl) (fun K hK => ?_) AllReadyH.nil)
  ·
    go_simp
    refine hK.out _ _ ?_ (fun hHeld2 => ?_)
    · ((try dsimp only); go_keep)
    clear hHeld hK K
    have hHeld := hHeld2
    clear hHeld2
    try simp only [Act.put, List.setIfInBounds_toArray, List.set_cons_zero, List.set_cons_succ]
    refine wpAnyH_ready (rs := [6, 11]) (by kernel_rfl) (by simp) ?_
    refine AllReadyH.cons (by simp only [List.getElem?_toArray, List.getElem?_cons_succ, List.getElem?_cons_zero]; rfl) (fun K hK => ?_) (AllReadyH.cons (by simp only [List.getElem?_toArray, List.getElem?_cons_succ, List.getElem?_cons_zero]; rfl) (fun K hK => ?_) AllReadyH.nil)
    ·
      (refine step_appV (E := sR) (V := vR) (es := row) (by rfl) (.tmp 42) (.tmp 46) _ (by rfl) tR (by rfl) (SV.empty' (w := w.drew) rfl rfl) (by rfl) (by rfl) (HV.out.toExt (by refine x'z ?_; repeat (with_reducible (first | exact x'a _ _ | exact x'b _ | exact x'c (by assumption) | refine x'd ?_ (by assumption) | refine x'e ?_ _ | refine x'f ?_ _ | refine x'g ?_ | refine x'h ?_ ?_ _ | refine x'i ?_ _ | refine x'j ?_ | refine x'k ?_ _ | refine x'l ?_ _ _ | refine x'm ?_ | assumption | (refine x'n ?_; omega) | omega)))) vR_s vR_1 (by simp; omega) (by omega) ?_; intro v4 w4 F4 hS4 hC4 hF4; obtain ⟨A4, c4, rfl, _, _⟩ := hS4.form; rw [List.nil_append] at hS4; rw [List.nil_append]; have x4w : ∃ y, w4 = ext w y := hC4.isExt (by refine x'z ?_; repeat (with_reducible (first | exact x'a _ _ | exact x'b _ | exact x'c (by assumption) | refine x'd ?_ (by assumption) | refine x'e ?_ _ | refine x'f ?_ _ | refine x'g ?_ | refine x'h ?_ ?_ _ | refine x'i ?_ _ | refine x'j ?_ | refine x'k ?_ _ | refine x'l ?_ _ _ | refine x'm ?_ | assumption | (refine x'n ?_; omega) | omega))) (by simp); have n4 : ∀ b ∈ F4, w.heap.size ≤ b := (fun b hb => by have q := hF4 b hb; simp at q; omega); have ka4 := cellX x4w hba ha; have kb4 := cellX x4w hbr hb1; have kc4 := cellX x4w hbr hb2; have la4 := ltX x4w hba; have lb4 := ltX x4w hbr)
      refine hK.out _ _ ?_ (fun hHeld2 => ?_)
      · ((try dsimp only); go_keep)
      clear hHeld hK K
      have hHeld := hHeld2
      clear hHeld2
      try simp only [Act.put, List.setIfInBounds_toArray, List.set_cons_zero, List.set_cons_succ]
      refine wpAnyH_ready (rs := [11]) (by kernel_rfl) (by simp) ?_
      refine AllReadyH.cons (by simp only [List.getElem?_toArray, List.getElem?_cons_succ, List.getElem?_cons_zero]; rfl) (fun K hK => ?_) AllReadyH.nil
      go_simp
      refine hK.out _ _ ?_ (fun hHeld2 => ?_)
      · ((try dsimp only); go_keep)
      clear hHeld hK K
      have hHeld := hHeld2
      clear hHeld2
      try simp only [Act.put, List.setIfInBounds_toArray, List.set_cons_zero, List.set_cons_succ]
      refine wpAnyH_ready (rs := [12]) (by kernel_rfl) (by simp) ?_
      refine AllReadyH.cons (by simp only [List.getElem?_toArray, List.getElem?_cons_succ, List.getElem?_cons_zero]; rfl) (fun K hK => ?_) AllReadyH.nil
      (refine step_appB (E := sR) (d := x) (G := []) (cs := #[.int .i64 x.1, .int .i64 x.2]) (by rfl) (.tmp 47) (.tmp 52) _ (by rfl) tR (by rfl) (by rfl) (BoxAt.new _ _ _) (by exact ⟨rfl, rfl⟩) (by rfl) (by simp [Value.oneCell']) (hS4.toExt (alloc_ext _ _)) (by simpa using hS4.nodup) (by omega) (by omega) ?_; intro v5 w5 F5 hS5 hC5 hN5 hF5; obtain ⟨A5, c5, rfl, _, _⟩ := hS5.form; have e5 : (row ++ [x]).length = row.length + 1 := (by simp); rw [e5] at hS5 ⊢; have x5w : ∃ y, w5 = ext w y := hC5.isExt (trans_ext x4w (alloc_ext _ _)) n4; have n5 : ∀ b ∈ F5, w.heap.size ≤ b := (fun b hb => by have z4 := size_of_ext x4w; rcases hF5 b hb with q | q | q <;> first | exact n4 b q | (simp at q; done) | omega | (simp at q; omega)); have ka5 := cellX x5w hba ha; have kb5 := cellX x5w hbr hb1; have kc5 := cellX x5w hbr hb2; have la5 := ltX x5w hba; have lb5 := ltX x5w hbr)
      refine hK.out _ _ ?_ (fun hHeld2 => ?_)
      · ((try dsimp only); go_keep)
      clear hHeld hK K
      have hHeld := hHeld2
      clear hHeld2
      try simp only [Act.put, List.setIfInBounds_toArray, List.set_cons_zero, List.set_cons_succ]
      refine wpAnyH_ready (rs := [13]) (by kernel_rfl) (by simp) ?_
      refine AllReadyH.cons (by simp only [List.getElem?_toArray, List.getElem?_cons_succ, List.getElem?_cons_zero]; rfl) (fun K hK => ?_) AllReadyH.nil
      go_simp
      refine hK.out _ _ ?_ (fun hHeld2 => ?_)
      · ((try dsimp only); go_keep)
      clear hHeld hK K
      have hHeld := hHeld2
      clear hHeld2
      try simp only [Act.put, List.setIfInBounds_toArray, List.set_cons_zero, List.set_cons_succ]
      refine wpAnyH_ready (rs := [14]) (by kernel_rfl) (by simp) ?_
      refine AllReadyH.cons (by simp only [List.getElem?_toArray, List.getElem?_cons_succ, List.getElem?_cons_zero]; rfl) (fun K hK => ?_) AllReadyH.nil
      (refine step_appB (E := sSl 67 2 sR) (d := row ++ [x]) (G := F5) (cs := #[.slice A5 (row.length + 1) c5]) (by rfl) (.tmp 41) (.tmp 54) _ (by rfl) tRRr (by rfl) (by rfl) (BoxAt.new _ _ _) (by exact ⟨_, rfl, hS5.toExt (alloc_ext _ _)⟩) (by rfl) (by simp [Value.oneCell']) (HS.out.toExt (trans_ext x5w (alloc_ext _ _))) (nodup_more HN.out hN5 HS.out.lt n5) hml (by omega) ?_; intro v6 w6 F6 hS6 hC6 hN6 hF6; have ka6 : w6.cell? ⟨ba, oa + k, none⟩ = some (.slice Ar row.length cr) := (by rw [hC6.cell hbaF (by simp; omega)]; simpa using cellX (alloc_ext _ _) la5 ka5); have kb6 : w6.cell? ⟨br, ro + k * 2, none⟩ = some (.int .i64 x.1) := (by rw [hC6.cell hbrF (by simp; omega)]; simpa using cellX (alloc_ext _ _) lb5 kb5); have kc6 : w6.cell? ⟨br, ro + k * 2 + 1, none⟩ = some (.int .i64 x.2) := (by rw [hC6.cell hbrF (by simp; omega)]; simpa using cellX (alloc_ext _ _) lb5 kc5))
      refine hK.out _ _ ?_ (fun hHeld2 => ?_)
      · ((try dsimp only); go_keep)
      clear hHeld hK K
      have hHeld := hHeld2
      clear hHeld2
      try simp only [Act.put, List.setIfInBounds_toArray, List.set_cons_zero, List.set_cons_succ]
      refine wpAnyH_take (i := 15) (v := ?_) (by simp only [List.getElem?_toArray, List.getElem?_cons_succ, List.getElem?_cons_zero]; rfl) (by kernel_rfl) (by kernel_rfl) (by kernel_rfl) (by exact fun _ _ _ h => h) (Or.inl ⟨by rfl, ?_⟩) (by assumption) ?_
      rotate_left
      · (intro wS hSw; (try dsimp only at hSw); go_simp; try (with_reducible rfl))
      try simp only [Act.put, List.setIfInBounds_toArray, List.set_cons_zero, List.set_cons_succ]
      refine wpAnyH_done (by kernel_rfl) ?_ _
      clear hHeld
      refine NoPanic.normal ?_
      exact hQ _ _ _ _ _ _ _ _ _ _ _ _ _ _ _ _ _ F6 hS6 hN6 ((Chg.ofExt (trans_ext x5w (alloc_ext _ _))).trans hC6 (fun y hy => .inl hy)) (fun b hb => by
        rcases hF6 b hb with q | q | q
        · exact .inl q
        · exact .inr (n5 b q)
        · exact .inr (Nat.le_trans (size_of_ext (trans_ext x5w (alloc_ext _ _))) q))
    ·
      go_simp
      refine hK.out _ _ ?_ (fun hHeld2 => ?_)
      · ((try dsimp only); go_keep)
      clear hHeld hK K
      have hHeld := hHeld2
      clear hHeld2
      try simp only [Act.put, List.setIfInBounds_toArray, List.set_cons_zero, List.set_cons_succ]
      refine wpAnyH_ready (rs := [6]) (by kernel_rfl) (by simp) ?_
      refine AllReadyH.cons (by simp only [List.getElem?_toArray, List.getElem?_cons_succ, List.getElem?_cons_zero]; rfl) (fun K hK => ?_) AllReadyH.nil
      (refine step_appV (E := sR) (V := vR) (es := row) (by rfl) (.tmp 42) (.tmp 46) _ (by rfl) tR (by rfl) ((SV.empty' (w := w) rfl rfl).toExt (by refine x'z ?_; repeat (with_reducible (first | exact x'a _ _ | exact x'b _ | exact x'c (by assumption) | refine x'd ?_ (by assumption) | refine x'e ?_ _ | refine x'f ?_ _ | refine x'g ?_ | refine x'h ?_ ?_ _ | refine x'i ?_ _ | refine x'j ?_ | refine x'k ?_ _ | refine x'l ?_ _ _ | refine x'm ?_ | assumption | (refine x'n ?_; omega) | omega)))) (by rfl) (by rfl) (HV.out.toExt (by refine x'z ?_; repeat (with_reducible (first | exact x'a _ _ | exact x'b _ | exact x'c (by assumption) | refine x'd ?_ (by assumption) | refine x'e ?_ _ | refine x'f ?_ _ | refine x'g ?_ | refine x'h ?_ ?_ _ | refine x'i ?_ _ | refine x'j ?_ | refine x'k ?_ _ | refine x'l ?_ _ _ | refine x'm ?_ | assumption | (refine x'n ?_; omega) | omega)))) vR_s vR_1 (by simp; omega) (by omega) ?_; intro v4 w4 F4 hS4 hC4 hF4; obtain ⟨A4, c4, rfl, _, _⟩ := hS4.form; rw [List.nil_append] at hS4; rw [List.nil_append]; have x4w : ∃ y, w4 = ext w y := hC4.isExt (by refine x'z ?_; repeat (with_reducible (first | exact x'a _ _ | exact x'b _ | exact x'c (by assumption) | refine x'd ?_ (by assumption) | refine x'e ?_ _ | refine x'f ?_ _ | refine x'g ?_ | refine x'h ?_ ?_ _ | refine x'i ?_ _ | refine x'j ?_ | refine x'k ?_ _ | refine x'l ?_ _ _ | refine x'm ?_ | assumption | (refine x'n ?_; omega) | omega))) (by simp); have n4 : ∀ b ∈ F4, w.heap.size ≤ b := (fun b hb => by have q := hF4 b hb; simp at q; omega); have ka4 := cellX x4w hba ha; have kb4 := cellX x4w hbr hb1; have kc4 := cellX x4w hbr hb2; have la4 := ltX x4w hba; have lb4 := ltX x4w hbr)
      refine hK.out _ _ ?_ (fun hHeld2 => ?_)
      · ((try dsimp only); go_keep)
      clear hHeld hK K
      have hHeld := hHeld2
      clear hHeld2
      try simp only [Act.put, List.setIfInBounds_toArray, List.set_cons_zero, List.set_cons_succ]
      refine wpAnyH_ready (rs := [12]) (by kernel_rfl) (by simp) ?_
      refine AllReadyH.cons (by simp only [List.getElem?_toArray, List.getElem?_cons_succ, List.getElem?_cons_zero]; rfl) (fun K hK => ?_) AllReadyH.nil
      (refine step_appB (E := sR) (d := x) (G := []) (cs := #[.int .i64 x.1, .int .i64 x.2]) (by rfl) (.tmp 47) (.tmp 52) _ (by rfl) tR (by rfl) (by rfl) (BoxAt.chg (BoxAt.drew (by have h := BoxAt.new (w.alloc (.cells #[] 67)) #[.int .i64 x.1, .int .i64 x.2] 67; rw [World.size_alloc] at h; exact h)) hC4 (by simp)) (by exact ⟨rfl, rfl⟩) (by rfl) (by simp [Value.oneCell']) hS4 (by simpa using hS4.nodup) (by omega) (by omega) ?_; intro v5 w5 F5 hS5 hC5 hN5 hF5; obtain ⟨A5, c5, rfl, _, _⟩ := hS5.form; have e5 : (row ++ [x]).length = row.length + 1 := (by simp); rw [e5] at hS5 ⊢; have x5w : ∃ y, w5 = ext w y := hC5.isExt x4w n4; have n5 : ∀ b ∈ F5, w.heap.size ≤ b := (fun b hb => by have z4 := size_of_ext x4w; rcases hF5 b hb with q | q | q <;> first | exact n4 b q | (simp at q; done) | omega | (simp at q; omega)); have ka5 := cellX x5w hba ha; have kb5 := cellX x5w hbr hb1; have kc5 := cellX x5w hbr hb2; have la5 := ltX x5w hba; have lb5 := ltX x5w hbr)
      refine hK.out _ _ ?_ (fun hHeld2 => ?_)
      · ((try dsimp only); go_keep)
      clear hHeld hK K
      have hHeld := hHeld2
      clear hHeld2
      try simp only [Act.put, List.setIfInBounds_toArray, List.set_cons_zero, List.set_cons_succ]
      refine wpAnyH_ready (rs := [13]) (by kernel_rfl) (by simp) ?_
      refine AllReadyH.cons (by simp only [List.getElem?_toArray, List.getElem?_cons_succ, List.getElem?_cons_zero]; rfl) (fun K hK => ?_) AllReadyH.nil
      go_simp
      refine hK.out _ _ ?_ (fun hHeld2 => ?_)
      · ((try dsimp only); go_keep)
      clear hHeld hK K
      have hHeld := hHeld2
      clear hHeld2
      try simp only [Act.put, List.setIfInBounds_toArray, List.set_cons_zero, List.set_cons_succ]
      refine wpAnyH_ready (rs := [14]) (by kernel_rfl) (by simp) ?_
      refine AllReadyH.cons (by simp only [List.getElem?_toArray, List.getElem?_cons_succ, List.getElem?_cons_zero]; rfl) (fun K hK => ?_) AllReadyH.nil
      (refine step_appB (E := sSl 67 2 sR) (d := row ++ [x]) (G := F5) (cs := #[.slice A5 (row.length + 1) c5]) (by rfl) (.tmp 41) (.tmp 54) _ (by rfl) tRRr (by rfl) (by rfl) (BoxAt.new _ _ _) (by exact ⟨_, rfl, hS5.toExt (alloc_ext _ _)⟩) (by rfl) (by simp [Value.oneCell']) (HS.out.toExt (trans_ext x5w (alloc_ext _ _))) (nodup_more HN.out hN5 HS.out.lt n5) hml (by omega) ?_; intro v6 w6 F6 hS6 hC6 hN6 hF6; have ka6 : w6.cell? ⟨ba, oa + k, none⟩ = some (.slice Ar row.length cr) := (by rw [hC6.cell hbaF (by simp; omega)]; simpa using cellX (alloc_ext _ _) la5 ka5); have kb6 : w6.cell? ⟨br, ro + k * 2, none⟩ = some (.int .i64 x.1) := (by rw [hC6.cell hbrF (by simp; omega)]; simpa using cellX (alloc_ext _ _) lb5 kb5); have kc6 : w6.cell? ⟨br, ro + k * 2 + 1, none⟩ = some (.int .i64 x.2) := (by rw [hC6.cell hbrF (by simp; omega)]; simpa using cellX (alloc_ext _ _) lb5 kc5))
      refine hK.out _ _ ?_ (fun hHeld2 => ?_)
      · ((try dsimp only); go_keep)
      clear hHeld hK K
      have hHeld := hHeld2
      clear hHeld2
      try simp only [Act.put, List.setIfInBounds_toArray, List.set_cons_zero, List.set_cons_succ]
      refine wpAnyH_take (i := 15) (v := ?_) (by simp only [List.getElem?_toArray, List.getElem?_cons_succ, List.getElem?_cons_zero]; rfl) (by kernel_rfl) (by kernel_rfl) (by kernel_rfl) (by exact fun _ _ _ h => h) (Or.inl ⟨by rfl, ?_⟩) (by assumption) ?_
      rotate_left
      · (intro wS hSw; (try dsimp only at hSw); go_simp; try (with_reducible rfl))
      try simp only [Act.put, List.setIfInBounds_toArray, List.set_cons_zero, List.set_cons_succ]
      refine wpAnyH_done (by kernel_rfl) ?_ _
      clear hHeld
      refine NoPanic.normal ?_
      exact hQ _ _ _ _ _ _ _ _ _ _ _ _ _ _ _ _ _ F6 hS6 hN6 ((Chg.ofExt (trans_ext x5w (alloc_ext _ _))).trans hC6 (fun y hy => .inl hy)) (fun b hb => by
        rcases hF6 b hb with q | q | q
        · exact .inl q
        · exact .inr (n5 b q)
        · exact .inr (Nat.le_trans (size_of_ext (trans_ext x5w (alloc_ext _ _))) q))
  ·
    go_simp
    refine hK.out _ _ ?_ (fun hHeld2 => ?_)
    · ((try dsimp only); go_keep)
    clear hHeld hK K
    have hHeld := hHeld2
    clear hHeld2
    try simp only [Act.put, List.setIfInBounds_toArray, List.set_cons_zero, List.set_cons_succ]
    refine wpAnyH_ready (rs := [1]) (by kernel_rfl) (by simp) ?_
    refine AllReadyH.cons (by simp only [List.getElem?_toArray, List.getElem?_cons_succ, List.getElem?_cons_zero]; rfl) (fun K hK => ?_) AllReadyH.nil
    go_simp
    refine hK.out _ _ ?_ (fun hHeld2 => ?_)
    · ((try dsimp only); go_keep)
    clear hHeld hK K
    have hHeld := hHeld2
    clear hHeld2
    try simp only [Act.put, List.setIfInBounds_toArray, List.set_cons_zero, List.set_cons_succ]
    refine wpAnyH_ready (rs := [6]) (by kernel_rfl) (by simp) ?_
    refine AllReadyH.cons (by simp only [List.getElem?_toArray, List.getElem?_cons_succ, List.getElem?_cons_zero]; rfl) (fun K hK => ?_) AllReadyH.nil
    (refine step_appV (E := sR) (V := vR) (es := row) (by rfl) (.tmp 42) (.tmp 46) _ (by rfl) tR (by rfl) (SV.empty' (w := w.drew.alloc (.cells #[.int .i64 x.1, .int .i64 x.2] 67)) rfl (by simp)) (by rfl) (by rfl) (HV.out.toExt (by refine x'z ?_; repeat (with_reducible (first | exact x'a _ _ | exact x'b _ | exact x'c (by assumption) | refine x'd ?_ (by assumption) | refine x'e ?_ _ | refine x'f ?_ _ | refine x'g ?_ | refine x'h ?_ ?_ _ | refine x'i ?_ _ | refine x'j ?_ | refine x'k ?_ _ | refine x'l ?_ _ _ | refine x'm ?_ | assumption | (refine x'n ?_; omega) | omega)))) vR_s vR_1 (by simp; omega) (by omega) ?_; intro v4 w4 F4 hS4 hC4 hF4; obtain ⟨A4, c4, rfl, _, _⟩ := hS4.form; rw [List.nil_append] at hS4; rw [List.nil_append]; have x4w : ∃ y, w4 = ext w y := hC4.isExt (by refine x'z ?_; repeat (with_reducible (first | exact x'a _ _ | exact x'b _ | exact x'c (by assumption) | refine x'd ?_ (by assumption) | refine x'e ?_ _ | refine x'f ?_ _ | refine x'g ?_ | refine x'h ?_ ?_ _ | refine x'i ?_ _ | refine x'j ?_ | refine x'k ?_ _ | refine x'l ?_ _ _ | refine x'm ?_ | assumption | (refine x'n ?_; omega) | omega))) (by simp); have n4 : ∀ b ∈ F4, w.heap.size ≤ b := (fun b hb => by have q := hF4 b hb; simp at q; omega); have ka4 := cellX x4w hba ha; have kb4 := cellX x4w hbr hb1; have kc4 := cellX x4w hbr hb2; have la4 := ltX x4w hba; have lb4 := ltX x4w hbr)
    refine hK.out _ _ ?_ (fun hHeld2 => ?_)
    · ((try dsimp only); go_keep)
    clear hHeld hK K
    have hHeld := hHeld2
    clear hHeld2
    try simp only [Act.put, List.setIfInBounds_toArray, List.set_cons_zero, List.set_cons_succ]
    refine wpAnyH_ready (rs := [12]) (by kernel_rfl) (by simp) ?_
    refine AllReadyH.cons (by simp only [List.getElem?_toArray, List.getElem?_cons_succ, List.getElem?_cons_zero]; rfl) (fun K hK => ?_) AllReadyH.nil
    (refine step_appB (E := sR) (d := x) (G := []) (cs := #[.int .i64 x.1, .int .i64 x.2]) (by rfl) (.tmp 47) (.tmp 52) _ (by rfl) tR (by rfl) (by rfl) (BoxAt.chg ((BoxAt.new w _ _).alloc _).drew hC4 (by simp)) (by exact ⟨rfl, rfl⟩) (by rfl) (by simp [Value.oneCell']) hS4 (by simpa using hS4.nodup) (by omega) (by omega) ?_; intro v5 w5 F5 hS5 hC5 hN5 hF5; obtain ⟨A5, c5, rfl, _, _⟩ := hS5.form; have e5 : (row ++ [x]).length = row.length + 1 := (by simp); rw [e5] at hS5 ⊢; have x5w : ∃ y, w5 = ext w y := hC5.isExt x4w n4; have n5 : ∀ b ∈ F5, w.heap.size ≤ b := (fun b hb => by have z4 := size_of_ext x4w; rcases hF5 b hb with q | q | q <;> first | exact n4 b q | (simp at q; done) | omega | (simp at q; omega)); have ka5 := cellX x5w hba ha; have kb5 := cellX x5w hbr hb1; have kc5 := cellX x5w hbr hb2; have la5 := ltX x5w hba; have lb5 := ltX x5w hbr)
    refine hK.out _ _ ?_ (fun hHeld2 => ?_)
    · ((try dsimp only); go_keep)
    clear hHeld hK K
    have hHeld := hHeld2
    clear hHeld2
    try simp only [Act.put, List.setIfInBounds_toArray, List.set_cons_zero, List.set_cons_succ]
    refine wpAnyH_ready (rs := [13]) (by kernel_rfl) (by simp) ?_
    refine AllReadyH.cons (by simp only [List.getElem?_toArray, List.getElem?_cons_succ, List.getElem?_cons_zero]; rfl) (fun K hK => ?_) AllReadyH.nil
    go_simp
    refine hK.out _ _ ?_ (fun hHeld2 => ?_)
    · ((try dsimp only); go_keep)
    clear hHeld hK K
    have hHeld := hHeld2
    clear hHeld2
    try simp only [Act.put, List.setIfInBounds_toArray, List.set_cons_zero, List.set_cons_succ]
    refine wpAnyH_ready (rs := [14]) (by kernel_rfl) (by simp) ?_
    refine AllReadyH.cons (by simp only [List.getElem?_toArray, List.getElem?_cons_succ, List.getElem?_cons_zero]; rfl) (fun K hK => ?_) AllReadyH.nil
    (refine step_appB (E := sSl 67 2 sR) (d := row ++ [x]) (G := F5) (cs := #[.slice A5 (row.length + 1) c5]) (by rfl) (.tmp 41) (.tmp 54) _ (by rfl) tRRr (by rfl) (by rfl) (BoxAt.new _ _ _) (by exact ⟨_, rfl, hS5.toExt (alloc_ext _ _)⟩) (by rfl) (by simp [Value.oneCell']) (HS.out.toExt (trans_ext x5w (alloc_ext _ _))) (nodup_more HN.out hN5 HS.out.lt n5) hml (by omega) ?_; intro v6 w6 F6 hS6 hC6 hN6 hF6; have ka6 : w6.cell? ⟨ba, oa + k, none⟩ = some (.slice Ar row.length cr) := (by rw [hC6.cell hbaF (by simp; omega)]; simpa using cellX (alloc_ext _ _) la5 ka5); have kb6 : w6.cell? ⟨br, ro + k * 2, none⟩ = some (.int .i64 x.1) := (by rw [hC6.cell hbrF (by simp; omega)]; simpa using cellX (alloc_ext _ _) lb5 kb5); have kc6 : w6.cell? ⟨br, ro + k * 2 + 1, none⟩ = some (.int .i64 x.2) := (by rw [hC6.cell hbrF (by simp; omega)]; simpa using cellX (alloc_ext _ _) lb5 kc5))
    refine hK.out _ _ ?_ (fun hHeld2 => ?_)
    · ((try dsimp only); go_keep)
    clear hHeld hK K
    have hHeld := hHeld2
    clear hHeld2
    try simp only [Act.put, List.setIfInBounds_toArray, List.set_cons_zero, List.set_cons_succ]
    refine wpAnyH_take (i := 15) (v := ?_) (by simp only [List.getElem?_toArray, List.getElem?_cons_succ, List.getElem?_cons_zero]; rfl) (by kernel_rfl) (by kernel_rfl) (by kernel_rfl) (by exact fun _ _ _ h => h) (Or.inl ⟨by rfl, ?_⟩) (by assumption) ?_
    rotate_left
    · (intro wS hSw; (try dsimp only at hSw); go_simp; try (with_reducible rfl))
    try simp only [Act.put, List.setIfInBounds_toArray, List.set_cons_zero, List.set_cons_succ]
    refine wpAnyH_done (by kernel_rfl) ?_ _
    clear hHeld
    refine NoPanic.normal ?_
    exact hQ _ _ _ _ _ _ _ _ _ _ _ _ _ _ _ _ _ F6 hS6 hN6 ((Chg.ofExt (trans_ext x5w (alloc_ext _ _))).trans hC6 (fun y hy => .inl hy)) (fun b hb => by
      rcases hF6 b hb with q | q | q
      · exact .inl q
      · exact .inr (n5 b q)
      · exact .inr (Nat.le_trans (size_of_ext (trans_ext x5w (alloc_ext _ _))) q))
end Go.Proofs.Ytbjpkfgkmilkdaa
