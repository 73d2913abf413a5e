/- Contracts of functions that the statement reaches. -/
import Derived.Deep.DrawnRows
import Derived.Test.YtbjpkfgkmilkdaaG11
import Derived.Test.YtbjpkfgkmilkdaaG12
import Derived.Test.YtbjpkfgkmilkdaaG01
import Derived.Deep.RegionHeld3
import Derived.StillTail
namespace Go.Proofs.Ytbjpkfgkmilkdaa
open Go.RowKit
def DfqP (w : World) (e : Ending) (w' : World) : Prop := ∃ A c B c' q, e = .returned (.agg #[.int .i64 q.1, .slice A q.2.1.length c, .slice B q.2.2.length c']) ∧ vQ w' [.int .i64 q.1, .slice A q.2.1.length c, .slice B q.2.2.length c'] q ∧ QaD q ∧ ∃ y, w' = ext w y
set_option maxRecDepth 100000 in
set_option maxHeartbeats 8000000 in
theorem DrawFormatQuery_any {A : Option Addr} {c : Nat} {bs : List UInt8} {w : World} (hx : bs.length ≤ 1048576) (h1 : RU w A bs) :
    Calls Try.prog 22 #[.slice A bs.length c] w (DfqP w) := by
  go_enter Try.func22, Try.ntmps22
  go_upto_region 1 with fail
  refine wp_name ?_
  intro W hW
  have xW : ∃ y, W = ext w y := by rw [hW.out]; exact (by refine x'z ?_; repeat (with_reducible (first | exact x'a _ _ | exact x'b _ | exact x'c (by assumption) | refine x'd ?_ (by assumption) | refine x'e ?_ _ | refine x'f ?_ _ | refine x'g ?_ | refine x'h ?_ ?_ _ | refine x'i ?_ _ | refine x'j ?_ | refine x'k ?_ _ | refine x'l ?_ _ _ | refine x'm ?_ | assumption | (refine x'n ?_; omega) | omega)))
  have BW0 : BoxAt W (w.heap.size) #[.int .i64 0, .slice none 0 0, .slice none 0 0] := by rw [hW.out]; refine ⟨?_, fun j => ?_, fun j => ?_⟩ <;> go_simp
  obtain ⟨lW0, bW0, fW0⟩ := BW0
  have cW0_0 : W.cell? ⟨w.heap.size, 0, none⟩ = some (.int .i64 0) := bW0 0
  have cW0_1 : W.cell? ⟨w.heap.size, 1, none⟩ = some (.slice none 0 0) := bW0 1
  have cW0_2 : W.cell? ⟨w.heap.size, 2, none⟩ = some (.slice none 0 0) := bW0 2
  clear hW
  have HR := Lib.hid (show BoxAt W w.heap.size #[.int .i64 0, .slice none 0 0, .slice none 0 0] from ⟨lW0, bW0, fW0⟩)
  clear bW0 fW0 cW0_0 cW0_1 cW0_2
  go_wp2_with fail
  refine (l1New_any hx (h1.toExt xW)).mono ?_
  rintro e w1 ⟨g, rfl, hc1⟩
  have hg1 := hc1.1
  have hgl := hc1.lt
  have HR1 := Lib.hid (HR.out.toExt hc1.2.1)
  have hz1 := size_of_ext hc1.2.1
  go_wp2_with fail
  refine (l7Any_any hc1).mono ?_
  rintro e w2 ⟨u0, u1, u2, F, q, rfl, hS, hN, hF, hD, hc2, hC2⟩
  obtain ⟨A2, a2, B2, b2, rfl, rfl, rfl⟩ := sQ_form hS
  have HS := Lib.hid hS
  have HF := Lib.hid (show ∀ b ∈ F, w.heap.size < b from fun b hb => by have := hF b hb; omega)
  have HD := Lib.hid hD
  have HX := Lib.hid (trans_ext xW hc2.2.1)
  obtain ⟨l2, k20, k21, k22, f2⟩ := box3 (HR1.out.chg hC2 (by simp; omega))
  clear hS hN hF hD hc2 hC2 hc1
  go_wp2
  refine bodyPost_ret (v := .agg #[.int .i64 q.1, .slice A2 q.2.1.length a2, .slice B2 q.2.2.length b2]) (by simp [results, Try.results22, go_sem, *]) rfl ?_
  show DfqP w _ _
  have hC9 := (((Chg.refl [w.heap.size] w2).setCell (p := ⟨w.heap.size, 0, none⟩) (.inl (by simp)) (.int .i64 q.1)).setCell (p := ⟨w.heap.size, 1, none⟩) (.inl (by simp)) (.slice A2 q.2.1.length a2)).setCell (p := ⟨w.heap.size, 2, none⟩) (.inl (by simp)) (.slice B2 q.2.2.length b2)
  exact ⟨_, _, _, _, q, rfl, sQ_v _ _ _ (OD.chg HS.out hC9 (fun b hb h => by have := HF.out b hb; rw [List.mem_singleton.1 h] at this; omega)), HD.out, hC9.isExt HX.out (by simp)⟩
def DpqP (w : World) (e : Ending) (w' : World) : Prop := ∃ s : ByteArray, e = .returned (.string s) ∧ s.size ≤ 1000 ∧ ∃ y, w' = ext w y
theorem fmtQ_le {q : Qd} (h : vqB q = true) : (fmtQ q).size ≤ 200 := by
  obtain ⟨h1, h2, h3⟩ := vqB_facts h
  unfold fmtQ
  rw [if_pos h, ba_size, ba_size, ba_size]
  have e1 := names_size q.2.2
  have e2 := joinF_size 20 (q.2.1.map atomT) 0 ⟨#[]⟩ (fun p hp => by
    obtain ⟨x, hx, rfl⟩ := List.mem_map.1 hp
    exact atomT_size (h3 x hx).1 (h3 x hx).2)
  rw [List.length_map] at e2
  have e3 : (⟨#[40]⟩ : ByteArray).size = 1 := rfl
  have e4 : (⟨#[41, 61]⟩ : ByteArray).size = 2 := rfl
  have e5 : (⟨#[]⟩ : ByteArray).size = 0 := rfl
  omega
set_option maxRecDepth 100000 in
set_option maxHeartbeats 8000000 in
theorem DrawParseQuery_any {A : Option Addr} {c : Nat} {bs : List UInt8} {w : World} (hx : bs.length ≤ 1048576) (h1 : RU w A bs) :
    Calls Try.prog 25 #[.slice A bs.length c] w (DpqP w) := by
  go_enter Try.func25, Try.ntmps25
  go_wp2_with fail
  refine (l1New_any hx h1).mono ?_
  rintro e w1 ⟨g, rfl, hc1⟩
  go_wp2_with fail
  refine (l7Query_any hc1).mono ?_
  rintro e w2 ⟨u0, u1, u2, F, q, rfl, hS, _, _, hQ, hc2, hC2⟩
  obtain ⟨A2, a2, B2, b2, rfl, rfl, rfl⟩ := sQ_form hS
  have hv := sQ_v _ _ _ hS
  have hs := fmtQ_le hQ.v
  go_wp2_with fail
  refine (specFormatQuery_any hQ.q.b hv).mono ?_
  rintro e w3 ⟨rfl, hx3⟩
  obtain ⟨s, hs0⟩ : ∃ s, fmtQ q = s := ⟨_, rfl⟩
  rw [hs0] at hs ⊢
  have hc3 := hc2.toExt hx3
  clear hc1 hc2 hC2 hS hv hQ hs0
  go_wp2_with fail
  refine (l1Below_any hc3 (by omega) (by omega)).mono ?_
  rintro e w4 ⟨x, rfl, hx0, hx1, hc4, hC4⟩
  by_cases e0 : x = 0
  · have q0 : (x == 0) = true := by simp [e0]
    clear e0
    go_wp2_with fail
    refine (l1Spoil_any hc4 (by omega)).mono ?_
    rintro e w5 ⟨t, rfl, ht, hc5, hC5⟩
    go_wp2
    go_ret
    show DpqP w _ _
    exact ⟨t, rfl, by omega, hc5.2.1⟩
  · have q0 : (x == 0) = false := by simp [e0]
    by_cases e1 : x = 1
    · have q1 : (x == 1) = true := by simp [e1]
      have hg4 := hc4.lt
      clear e0 e1
      go_wp2_with fail
      refine (l1Pick_any (hc4.toExt (alloc_ext _ _)) (by omega) (by omega) (BoxAt.new _ _ _) (by intro j hj; rcases j with _ | _ | _ | _ | _ | _ | _ | _ | _ | _ | _ | _ | j <;> first | exact ⟨_, rfl⟩ | omega) (by omega)).mono ?_
      rintro e w5 ⟨t, j, rfl, hj, ht, hc5, hC5⟩
      have hl : t.size ≤ 1000 := by
        rcases j with _ | _ | _ | _ | _ | _ | _ | _ | _ | _ | _ | _ | j <;> first | omega | (simp at ht; subst ht; decide)
      clear ht
      go_wp2
      go_ret
      show DpqP w _ _
      exact ⟨t, rfl, hl, hc5.2.1⟩
    · have q1 : (x == 1) = false := by simp [e1]
      clear e0 e1
      go_wp2
      go_ret
      show DpqP w _ _
      exact ⟨s, rfl, by omega, hc4.2.1⟩
end Go.Proofs.Ytbjpkfgkmilkdaa
namespace Go.Proofs.Ytbjpkfgkmilkdaa
def LastQ (P : Program) (ops : Array Oper) (L : Nat) (Q : Exit → Act → World → Prop) : Exit → Act → World → Prop
  | .normal, a, w => Go.wpOp P ops Q L (Q .normal) a w
  | e, a, w => Q e a w
def regBackB (md : Region.Mode) (ops : Array Oper) : Bool :=
  (List.range ops.size).all fun j => match ops[j]? with
    | some o => o.after.all fun e => !Region.binds md e || decide (e.on < j)
    | none => true
def regLastB (md : Region.Mode) (ops : Array Oper) (L : Nat) : Bool :=
  regBackB md ops && Region.sinkB md ops L && Region.chainB md ops L && decide (L + 1 = ops.size)
section
variable {P : Program} {ops : Array Oper} {Q : Exit → Act → World → Prop} {md : Region.Mode} {S : World → Prop}
theorem wpOp_lastQ {L i : Nat} {K : Act → World → Prop} {a : Act} {w : World} (h : Go.wpOp P ops (LastQ P ops L Q) i K a w) : Go.wpOp P ops Q i K a w := by
  unfold Go.wpOp at *
  cases ho : ops[i]? with
  | none => simpa [ho] using h
  | some o =>
    simp only [ho] at h ⊢
    split
    · rename_i hw
      rw [if_pos hw] at h
      rcases h with h | ⟨h1, a0, w0, h2⟩
      · refine .inl ?_
        unfold Oper.wp at *
        generalize (execOp a.eval o).run P w = r at *
        cases r with
        | ok n w' =>
          cases n <;> first
            | exact h
            | exact Calls.mono h (fun e w'' he => by cases e <;> exact he)
        | halt x w' => cases x <;> exact h
      · exact .inr ⟨h1, a0, w0, h2⟩
    · rename_i hw
      rw [if_neg hw] at h
      exact h
theorem reg_first_ready {listed : Array Bool} (hb : regBackB md ops = true) (hsz : listed.size = ops.size) : ∀ i, i < ops.size → listed.getD i true = false → ∃ j, j ≤ i ∧ j ∈ Region.ready md ops listed := by
  intro i
  induction i using Nat.strongRecOn with
  | _ i ih =>
    intro hi hu
    by_cases hall : ∀ o, ops[i]? = some o → ∀ e ∈ o.after, Region.binds md e = true → listed.getD e.on false = true
    · exact ⟨i, Nat.le_refl _, Go.mem_ready.2 ⟨hu, ops[i], Array.getElem?_eq_getElem hi, hall _ (Array.getElem?_eq_getElem hi)⟩⟩
    · simp only [Classical.not_forall] at hall
      obtain ⟨o, ho, e, he, hbe, hn⟩ := hall
      have h1 := List.all_eq_true.1 hb i (List.mem_range.2 hi)
      simp only [ho] at h1
      have h2 := Array.all_eq_true'.1 h1 e he
      simp only [hbe, Bool.not_true, Bool.false_or, decide_eq_true_eq] at h2
      have hlt : e.on < listed.size := by omega
      obtain ⟨j, hj, hr⟩ := ih e.on h2 (by omega) (Go.getD_in hlt (by simpa using hn))
      exact ⟨j, by omega, hr⟩
theorem wpAny_of_last {L : Nat} (hb : regBackB md ops = true) (hs : Region.sinkB md ops L = true) (hc : Region.chainB md ops L = true) (hL : L + 1 = ops.size) :
    ∀ (f : Nat) (listed : Array Bool) (a : Act) (w : World), HeadInv md ops L listed → Go.wpAnyH P md ops (LastQ P ops L Q) S f (listed.setIfInBounds L true) a w → Go.wpAny P md ops Q (f + 1) listed a w := by
  intro f
  induction f with
  | zero =>
    intro listed a w inv h
    have hall : ∀ i, i < L → listed.getD i true = true := fun i hi => by
      cases hu : listed.getD i true with
      | true => rfl
      | false =>
        obtain ⟨j, hj, hr⟩ := reg_first_ready hb inv.size i (by omega) hu
        have := Go.ready_mono hr (show j ≠ L by omega)
        rw [h.1] at this
        cases this
    have hLr : L ∈ Region.ready md ops listed := by
      obtain ⟨j, hj, hr⟩ := reg_first_ready hb inv.size L (by omega) (inv.tail L (Nat.le_refl _) (by omega))
      by_cases e : j = L
      · exact e ▸ hr
      · have := (Go.mem_ready.1 hr).1
        rw [hall j (by omega)] at this
        cases this
    refine ⟨fun h0 => (by rw [h0] at hLr; cases hLr), fun i hi => ?_⟩
    have hiL : i = L := by
      obtain ⟨hu, o, ho, _⟩ := Go.mem_ready.1 hi
      have hlt : i < ops.size := (Array.getElem?_eq_some_iff.1 ho).1
      by_cases e : i < L
      · rw [hall i e] at hu; cases hu
      · omega
    subst hiL
    exact Go.wpOp_mono (fun a' w' h' => Go.wpAny_done h.1 h' _) h.2
  | succ f ih =>
    intro listed a w inv h
    by_cases hex : ∃ i, i < L ∧ listed.getD i true = false
    · obtain ⟨i0, hi0, hu⟩ := hex
      obtain ⟨j0, _, hj0⟩ := reg_first_ready hb inv.size i0 (by omega) hu
      refine ⟨fun h0 => (by rw [h0] at hj0; cases hj0), fun i hi => ?_⟩
      have hiL : i < L := by
        rcases Nat.lt_or_ge i L with h' | h'
        · exact h'
        · exact absurd hi (Go.tail_waits hs hc (by omega) inv _ i0 rfl hi0 hu i h')
      have h1 := wpOp_lastQ (h.2 i (Go.ready_mono hi (by omega)))
      refine Go.wpOp_mono (fun a' w' h' => ih _ a' w' (inv.set hi hiL) ?_) h1
      rw [Array.setIfInBounds_comm _ _ (show i ≠ L by omega)]
      exact h'.2
    · have hall : ∀ i, i < L → listed.getD i true = true := fun i hi => by
        cases hu : listed.getD i true with
        | true => rfl
        | false => exact absurd ⟨i, hi, hu⟩ hex
      have hLr : L ∈ Region.ready md ops listed := by
        obtain ⟨j, hj, hr⟩ := reg_first_ready hb inv.size L (by omega) (inv.tail L (Nat.le_refl _) (by omega))
        by_cases e : j = L
        · exact e ▸ hr
        · have := (Go.mem_ready.1 hr).1
          rw [hall j (by omega)] at this
          cases this
      have hnil : Region.ready md ops (listed.setIfInBounds L true) = [] := by
        refine List.eq_nil_iff_forall_not_mem.2 fun j hj => ?_
        obtain ⟨hu, o, ho, _⟩ := Go.mem_ready.1 hj
        have hlt : j < ops.size := (Array.getElem?_eq_some_iff.1 ho).1
        by_cases e : j = L
        · subst e
          have := inv.size
          simp [this, hlt] at hu
        · rw [Go.getD_set_ne true (fun h => e h.symm), hall j (by omega)] at hu
          cases hu
      refine ⟨fun h0 => (by rw [h0] at hLr; cases hLr), fun i hi => ?_⟩
      have hiL : i = L := by
        obtain ⟨hu, o, ho, _⟩ := Go.mem_ready.1 hi
        have hlt : i < ops.size := (Array.getElem?_eq_some_iff.1 ho).1
        by_cases e : i < L
        · rw [hall i e] at hu; cases hu
        · omega
      subst hiL
      exact Go.wpOp_mono (fun a' w' h' => Go.wpAny_done hnil h' _) (h.1 hnil)
theorem wp_region_last {id : Nat} {a : Act} {w : World} (L : Nat) (hm : P.follows .mixedOrders = true) (hB : regLastB .any ops L = true) (hS : S w.drew)
    (h : S w.drew → Go.wpAnyH P .any ops (LastQ P ops L Q) S L ((Array.replicate ops.size false).setIfInBounds L true) a w.drew) : (Code.region id ops true).wp P Q a w := by
  unfold regLastB at hB
  simp only [Bool.and_eq_true, decide_eq_true_eq] at hB
  obtain ⟨⟨⟨hb, hs⟩, hc⟩, hL⟩ := hB
  refine Go.wp_region_any hm ?_
  have inv0 : HeadInv .any ops L (Array.replicate ops.size false) :=
    ⟨by simp, fun j oj _ hl => (by rw [Go.getD_replicate_false] at hl; cases hl), fun t _ ht => Go.getD_in (by simpa using ht) (Go.getD_replicate_false _ _)⟩
  have := wpAny_of_last (P := P) (Q := Q) (S := S) hb hs hc hL L _ a _ inv0 (h hS)
  rw [hL] at this
  exact this
theorem LastQ.go {L : Nat} {o : Oper} {a : Act} {w : World} (ho : ops[L]? = some o)
    (h : ∀ K' : Act → World → Prop, Shut (∀ a w, Q .normal a w → K' a w) → if Region.wanted o (yielded ops a.tmps) = true then Oper.wp P o a w K' Q else K' (a.put o.dst undef) w) : LastQ P ops L Q .normal a w :=
  Go.wpOp_step ho (fun K' hK => h K' hK)
end
end Go.Proofs.Ytbjpkfgkmilkdaa
