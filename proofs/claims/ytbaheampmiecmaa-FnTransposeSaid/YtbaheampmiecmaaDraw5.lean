/- The reference's draws of matrices: the rows. -/
import Derived.Test.YtbaheampmiecmaaDraw4
import Derived.Deep.RegionLaw
import Derived.Test.YtbaheampmiecmaaDraw3
import Derived.Test.YtbaheampmiecmaaNest2
import Derived.Test.YtbaheampmiecmaaRowsT
namespace Go.Proofs.Ytbaheampmiecmaa
open Go.RowKit

def RwP (w0 : World) (g n m : Nat) (w : World) (e : Ending) (w' : World) : Prop := ∃ v F ds, e = .returned v ∧ SV 24 1 (sSl 31 2 sR) w' v ds F ∧ F.Nodup ∧ (∀ b ∈ F, w.heap.size ≤ b) ∧ ds.length = n ∧ (∀ r ∈ ds, r.length ≤ m + 1) ∧ Cur w0 w' g ∧ Chg [g] w w'
set_option maxRecDepth 100000 in
set_option maxHeartbeats 8000000 in
theorem l13Rows_any {g n m : Nat} {w0 w : World} (hc : Cur w0 w g) (hn : n ≤ 10) (hm : m ≤ 10) :
    Calls Try.prog 30 #[.pointer (some ⟨g, 0, none⟩), .int .i64 n, .int .i64 m] w (RwP w0 g n m w) := by
  have hgw := hc.lt
  have hw0w := size_of_ext hc.2.1
  have HC0 := Lib.hid hc.2.1
  have hS0 := SV.empty (α := List (Int × Int)) (te := 24) (size := 1) (E := sSl 31 2 sR) w
  have hc0 := hc.toExt (alloc_ext w (.cells #[] 24))
  go_enter Try.func30, Try.ntmps30
  go_wp2
  go_loopw [7] (fun v wr => ∃ (ds : List (List (Int × Int))) (F : List Nat), SV 24 1 (sSl 31 2 sR) wr v ds F ∧ F.Nodup ∧ (∀ b ∈ F, w.heap.size ≤ b) ∧ ds.length ≤ n ∧ (∀ r ∈ ds, r.length = m) ∧ Cur w0 wr g ∧ Chg [g] w wr) (fun v _ => n - lenR v)
  case atStart => exact ⟨[], [w.heap.size], hS0, by simp, by simp, by simp, by simp, hc0, (Chg.refl [g] w).alloc _⟩
  case round =>
    clear hS0 hc0 hc
    obtain ⟨ds, F, hS, hN, hF, hl, hr, hcr, hC⟩ := hrel
    have HF := Lib.hid hF
    have HS := Lib.hid hS
    have HN := Lib.hid hN
    have HR := Lib.hid hr
    have HC := Lib.hid hC
    have Hcr := Lib.hid hcr
    have hgr := hcr.lt
    have hzr := hC.size
    have ngF : Hid (∀ b ∈ F, b ∉ [g]) := Lib.hid (fun b hb h => by have := hF b hb; simp at h; omega)
    obtain ⟨A, cap, rfl, _, _⟩ := hS.form
    clear hS hF hC hN hr hcr
    by_cases hlt : ds.length < n
    · have hw0 := size_of_ext Hcr.out.2.1
      have hE0 := SV.empty (α := Int × Int) (te := 31) (size := 2) (E := sR) wr
      have hcE := Hcr.out.toExt (alloc_ext wr (.cells #[] 31))
      go_wp2
      go_loopw [8] (fun v vs => ∃ (xs : List (Int × Int)) (G : List Nat), SV 31 2 sR vs v xs G ∧ (∀ b ∈ G, wr.heap.size ≤ b) ∧ xs.length ≤ m ∧ Cur w0 vs g ∧ Chg [g] wr vs) (fun v _ => m - lenR v)
      case atStart => exact ⟨[], [wr.heap.size], hE0, by simp, by simp, hcE, (Chg.refl [g] wr).alloc _⟩
      case round =>
        clear hE0 hcE
        obtain ⟨xs, G, hX, hG, hxl, hcv, hCv⟩ := hrel
        have HG := Lib.hid hG
        have HX := Lib.hid hX
        have HCv := Lib.hid hCv
        have Hcv := Lib.hid hcv
        have hzv := hCv.size
        have ngG : Hid (∀ b ∈ G, b ∉ [g]) := Lib.hid (fun b hb h => by have := hG b hb; simp at h; omega)
        obtain ⟨A2, cap2, rfl, _, _⟩ := hX.form
        clear hX hG hCv hcv
        by_cases hlt2 : xs.length < m
        · go_wp2_with fail
          refine (l13Small_any Hcv.out).mono ?_
          rintro e w1 ⟨r, rfl, hc1, hC1⟩
          have hX1 := HX.out.chg hC1 ngG.out
          have HC1 := Lib.hid (HCv.out.trans hC1 (fun x hx => .inl hx))
          have Hc1 := Lib.hid hc1
          have hz1 := HC1.out.size
          clear hc1 hC1
          go_wp2_with (at_builtin; refine wpList_app1 (E := sR) (d := r) rfl _ _ _ rfl tR rfl rfl rfl (by simp) (fun _ => ⟨rfl, rfl⟩) rfl (by simp [Value.oneCell']) hX1 (by omega) (by omega) ?_; intro v' w' F' hS' hC' hF')
          exact ⟨⟨xs ++ [r], F', hS', newer HG.out hz1 hF', by simp; omega, Hc1.out.chg hC' (fun h => ngG.out g h (by simp)) (fun b hb => Nat.le_trans hw0 (HG.out b hb)), HC1.out.trans hC' (fun x hx => .inr (HG.out x hx))⟩, by have e := hS'.form; obtain ⟨A', c', rfl, _⟩ := e; simp [lenR]; omega⟩
        · have hSv := HS.out.chg HCv.out ngF.out
          have hN2 := (List.nodup_append.2 ⟨HN.out, HX.out.nodup, fun a ha b hb e => by have := HS.out.lt a ha; have := HG.out b hb; omega⟩ : (F ++ G).Nodup)
          have HX2 := Lib.hid HX.out
          go_wp2_with (at_builtin; refine wpList_appN (E := sSl 31 2 sR) (d := xs) (G := G) rfl _ _ _ rfl tRRr rfl rfl rfl (by simp) ⟨_, rfl, HX2.out⟩ rfl (by simp [Value.oneCell']) hSv hN2 (by omega) (by omega) ?_; intro v' w' F' hS' hC' hN' hF')
          have hFn : ∀ b ∈ F', w.heap.size ≤ b := fun b hb => by
            rcases hF' b hb with h | h | h
            · exact HF.out b h
            · exact Nat.le_trans hzr (HG.out b h)
            · omega
          have hCw := HC.out.trans HCv.out (fun x hx => .inl hx)
          exact ⟨⟨ds ++ [xs], F', hS', hN', hFn, by simp; omega, by intro r hr; rcases List.mem_append.1 hr with h | h; exact HR.out r h; (rw [List.mem_singleton.1 h]; omega), Hcv.out.chg hC' (fun h => ngF.out g h (by simp)) (fun b hb => Nat.le_trans hw0w (HF.out b hb)), hCw.trans hC' (fun x hx => .inr (HF.out x hx))⟩, by have e := hS'.form; obtain ⟨A', c', rfl, _⟩ := e; simp [lenR]; omega⟩
    · have hlen : ds.length = n := by omega
      have HL := Lib.hid hlen
      have hgI : g ∉ [g] ∨ True := .inr trivial
      clear hlen
      go_wp2_with fail
      refine (l1Below_any Hcr.out (by omega) (by omega)).mono ?_
      rintro e w1 ⟨x, rfl, hx0, hx1, hc1, hC1⟩
      have hS1 := HS.out.chg hC1 ngF.out
      have HC1 := Lib.hid (HC.out.trans hC1 (fun x hx => .inl hx))
      have Hc1 := Lib.hid hc1
      clear hc1 hC1
      by_cases h0 : x = 0
      · have e0 : (x == 0) = true := by simp [h0]
        clear h0
        by_cases hnm : 0 < n ∧ 0 < m
        · obtain ⟨hn0, hm0⟩ := hnm
          have hk : 0 < ds.length := by omega
          obtain ⟨g0, cap0, hA, _, _, _⟩ := hS1.block (by intro e; rw [e] at hk; simp at hk)
          injection hA with hA _ hcp
          subst hA hcp
          obtain ⟨v0, F0, l0, c0, f0, hI, hIF, hIN, hg0, hg0F, _, _⟩ := hS1.row HN.out hk
          have hr0 := HR.out ds[0] (List.getElem_mem hk)
          obtain ⟨g1, cap1, rfl, hg1, _, _⟩ := hI.block (by intro e; rw [e] at hr0; simp at hr0; omega)
          have ng0 : g0 ∉ [g] := ngF.out g0 hg0F
          have ngF0 : Hid (∀ b ∈ F0, b ∉ [g]) := Lib.hid (fun b hb => ngF.out b (hIF b hb))
          have HI := Lib.hid hI
          have hr1 : 0 < ds[0].length := by omega
          have hne : g1 ≠ g0 := fun e => hg0 (e ▸ hg1)
          have hne2 : g0 ≠ g1 := fun e => hne e.symm
          have hg1F := hIF g1 hg1
          clear hr0 hIF hI
          go_wp2_with fail
          go_region_held3 (fun w' => w'.cell? ⟨g0, 0, none⟩ = some (.slice (some ⟨g1, 0, none⟩) ds[0].length cap1)) (first | go_keep | (rw [hC2.cell ng0 (by simpa using l0)]; go_simp))
            ((go_at_call 41; refine (l2Any_any (Hc1.out.toExt (drew_ext _))).mono ?_; rintro e w2 ⟨r, rfl, hc2, hC2⟩; obtain ⟨⟨_, i0⟩, i1, i2⟩ := ((HI.out.toExt (drew_ext w1)).chg hC2 ngF0.out).cell rfl (j := 0) (by omega); obtain ⟨⟨_, i3⟩, i4, _⟩ := ((HI.out.toExt (drew_ext w1)).chg hC2 ngF0.out).cell rfl (j := 1) (by omega)))
          have hS2 := (hS1.toExt (drew_ext w1)).chg hC2 ngF.out
          obtain ⟨v0', F0', _, c0', _, hI', hIF', _, _, _, hupd, _⟩ := hS2.row HN.out hk
          have ec : w2.cell? ⟨g0, 0, none⟩ = some (.slice (some ⟨g1, 0, none⟩) ds[0].length cap1) := by rw [hC2.cell ng0 (by simpa using l0)]; simpa using c0
          rw [ec] at c0'
          injection c0' with c0'
          subst c0'
          obtain ⟨hI3, hC3⟩ := hI'.set2 rfl hr1 (u := .int .i64 r.1) (v := .int .i64 r.2) (d := r) (fun _ => ⟨rfl, rfl⟩)
          rw [Nat.zero_mul, Nat.zero_add] at hI3 hC3
          obtain ⟨_, _, e9, hg19, _, _⟩ := hI'.block (by intro e; rw [e] at hr1; simp at hr1)
          injection e9 with e9
          injection e9 with e9
          injection e9 with e9
          subst e9
          have hS3 := hupd _ _ hI3 (hC3.mono (fun x hx => .inl (by rw [List.mem_singleton.1 hx]; exact hg19)))
          have hw0w := size_of_ext Hc1.out.2.1
          have hgg : g ≠ g1 := fun e => ngF.out g1 hg1F (by simp [e])
          have hcf := hc2.chg hC3 (by simpa using hgg) (by intro b hb; rw [List.mem_singleton.1 hb]; exact Nat.le_trans (size_of_ext HC0.out) (HF.out g1 hg1F))
          have hCf := ((HC1.out.drew).trans hC2 (fun x hx => .inl hx)).trans hC3 (fun x hx => .inr (by rw [List.mem_singleton.1 hx]; exact HF.out g1 hg1F))
          have HH := Lib.hid (And.intro hS3 (And.intro hcf hCf))
          have HR0 := Lib.hid (HR.out ds[0] (List.getElem_mem hk))
          clear hS1 hS2 hupd hI' hIF' hI3 hC3 hS3 hcf hCf hC2 hc2 ec
          go_wp2
          go_ret
          refine ⟨_, F, ds.set 0 (ds[0].set 0 r), rfl, HH.out.1, HN.out, HF.out, by rw [List.length_set]; exact HL.out, fun y hy => ?_, HH.out.2.1, HH.out.2.2⟩
          rcases List.mem_or_eq_of_mem_set hy with h | h
          · rw [HR.out y h]; omega
          · rw [h, List.length_set, HR0.out]; omega
        · by_cases hn0 : 0 < n
          · have hm0 : ¬ 0 < m := fun h => hnm ⟨hn0, h⟩
            clear hnm
            have HH := Lib.hid (And.intro hS1 (And.intro Hc1.out HC1.out))
            clear hS1
            go_wp2
            go_ret
            exact ⟨_, F, ds, rfl, HH.out.1, HN.out, HF.out, HL.out, fun y hy => by rw [HR.out y hy]; omega, HH.out.2.1, HH.out.2.2⟩
          · clear hnm
            have HH := Lib.hid (And.intro hS1 (And.intro Hc1.out HC1.out))
            clear hS1
            go_wp2
            go_ret
            exact ⟨_, F, ds, rfl, HH.out.1, HN.out, HF.out, HL.out, fun y hy => by rw [HR.out y hy]; omega, HH.out.2.1, HH.out.2.2⟩
      · have e0 : (x == 0) = false := by simp [h0]
        by_cases h1 : x = 1
        · have e1 : (x == 1) = true := by simp [h1]
          clear h0 h1
          by_cases hn0 : 0 < n
          · have hk : 0 < ds.length := by omega
            have hk2 : n - 1 < ds.length := by omega
            have en : IntKind.i64.wrap ((n : Int) - 1) = ((n - 1 : Nat) : Int) := by rw [IntKind.wrap_i64]; omega
            obtain ⟨g0, cap0, hA, _, _, _⟩ := hS1.block (by intro e; rw [e] at hk; simp at hk)
            injection hA with hA _ hcp
            subst hA hcp
            obtain ⟨v0, F0, l0, c0, f0, hI, hIF, hIN, hg0, hg0F, _, _⟩ := hS1.row HN.out hk2
            have hr0 := HR.out ds[n - 1] (List.getElem_mem hk2)
            obtain ⟨A1, cap1, rfl, _, _⟩ := hI.form
            have ng0 : g0 ∉ [g] := ngF.out g0 hg0F
            have ngF0 : Hid (∀ b ∈ F0, b ∉ [g]) := Lib.hid (fun b hb => ngF.out b (hIF b hb))
            have HI := Lib.hid hI
            have hrl : ds[n - 1].length ≤ m := by omega
            clear hr0 hI
            go_wp2_with fail
            go_region_law (first
                | (refine step_app1 (E := sR) (d := r) (by rfl) _ _ _ (by rfl) tR (by rfl) (by rfl) (by rfl) (by simp) (fun _ => ⟨rfl, rfl⟩) (by rfl) (by simp [Value.oneCell']) hX2 (by omega) (by omega) ?_; intro v' w' F' hS' hC' hF'; obtain ⟨A2, c2, rfl, _, _⟩ := hS'.form; have b3 := hC'.block g0 l2 hg0; have k3 : w'.cell? ⟨g0, n - 1, none⟩ = some (.slice A1 ds[n - 1].length cap1) := (by rw [hC'.cell hg0 l2]; exact k2); have f3 : w'.frozen? ⟨g0, n - 1, none⟩ = false := (World.frozen?_of_block b3).trans f2; have l3 : g0 < w'.heap.size := Nat.lt_of_lt_of_le l2 hC'.size)
                | (rw [if_pos (by simp [Region.wanted])]; go_wp2_with (go_at_call 40; refine (l13Small_any (Hc1.out.toExt (drew_ext _))).mono ?_; rintro e w2 ⟨r, rfl, hc2, hC2⟩; have hX2 := (HI.out.toExt (drew_ext w1)).chg hC2 ngF0.out; have k2 : w2.cell? ⟨g0, n - 1, none⟩ = some (.slice A1 ds[n - 1].length cap1) := (by rw [hC2.cell ng0 (by simpa using l0)]; simpa using c0); have f2 : w2.frozen? ⟨g0, n - 1, none⟩ = false := (by rw [World.frozen?_of_block (hC2.block g0 (by simpa using l0) ng0)]; simpa using f0 (n - 1)); have l2 : g0 < w2.heap.size := Nat.lt_of_lt_of_le (by simpa using l0) hC2.size)))
            all_goals
              have hS2 := (hS1.toExt (drew_ext w1)).chg hC2 ngF.out
              obtain ⟨v0', F0', _, c0', _, hI', hIF', _, _, _, _, hput⟩ := hS2.row HN.out hk2
              rw [k2] at c0'
              injection c0' with c0'
              subst c0'
              have eF : F0' = F0 := hI'.plainF.trans hX2.plainF.symm
              subst eF
              obtain ⟨F2, hS3, hN3, hF3⟩ := hput _ _ _ _ hC' hS' hS'.nodup hF'
              have hw0w := size_of_ext Hc1.out.2.1
              have hz1 := HC1.out.size
              have hz2 := hC2.size
              rw [show w1.drew.heap.size = w1.heap.size from rfl] at hz2
              have hnF : ∀ b ∈ F2, w.heap.size ≤ b := fun b hb => by
                rcases hF3 b hb with h | h
                · exact HF.out b h
                · rcases hF' b h with h | h
                  · exact HF.out b (hIF b h)
                  · omega
              have hgF : g ∉ F0' := fun h => ngF0.out g h (by simp)
              have hgg : g ≠ g0 := fun e => ngF.out g0 hg0F (by simp [e])
              have hw0 := size_of_ext HC0.out
              have hcf := (hc2.chg hC' hgF (fun b hb => Nat.le_trans hw0 (HF.out b (hIF b hb)))).chg ((Chg.refl [g0] w').setCell (p := ⟨g0, n - 1, none⟩) (.inl (by simp)) (.slice A2 (ds[n - 1] ++ [r]).length c2)) (by simpa using hgg) (by intro b hb; rw [List.mem_singleton.1 hb]; exact Nat.le_trans hw0 (HF.out g0 hg0F))
              have hCf := ((((HC1.out.drew).trans hC2 (fun x hx => .inl hx)).trans hC' (fun x hx => .inr (HF.out x (hIF x hx))))).setCell (p := ⟨g0, n - 1, none⟩) (.inr (HF.out g0 hg0F)) (.slice A2 (ds[n - 1] ++ [r]).length c2)
              have el : (ds[n - 1] ++ [r]).length = ds[n - 1].length + 1 := by simp
              rw [el] at hS3 hcf hCf
              clear el
              have HH := Lib.hid (And.intro hS3 (And.intro hcf hCf))
              have HN3 := Lib.hid hN3
              have HnF := Lib.hid hnF
              clear hS1 hS2 hput hI' hIF' hS3 hcf hCf hC2 hc2 hC' hS' hX2 hN3 hF3 hnF hF' b3
              go_wp2
              go_ret
              refine ⟨_, F2, ds.set (n - 1) (ds[n - 1] ++ [r]), rfl, HH.out.1, HN3.out, HnF.out, by rw [List.length_set]; exact HL.out, fun y hy => ?_, HH.out.2.1, HH.out.2.2⟩
              rcases List.mem_or_eq_of_mem_set hy with h | h
              · rw [HR.out y h]; omega
              · rw [h, List.length_append]; simp; omega
          · have HH := Lib.hid (And.intro hS1 (And.intro Hc1.out HC1.out))
            clear hS1
            go_wp2
            go_ret
            exact ⟨_, F, ds, rfl, HH.out.1, HN.out, HF.out, HL.out, fun y hy => by rw [HR.out y hy]; omega, HH.out.2.1, HH.out.2.2⟩
        · have e1 : (x == 1) = false := by simp [h1]
          clear h0 h1
          have HH := Lib.hid (And.intro hS1 (And.intro Hc1.out HC1.out))
          clear hS1
          go_wp2
          go_ret
          exact ⟨_, F, ds, rfl, HH.out.1, HN.out, HF.out, HL.out, fun y hy => by rw [HR.out y hy]; omega, HH.out.2.1, HH.out.2.2⟩
end Go.Proofs.Ytbaheampmiecmaa
