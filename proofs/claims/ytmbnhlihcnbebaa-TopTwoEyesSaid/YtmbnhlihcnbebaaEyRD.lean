/-
  Walks of the reference of the layer 'eyes': Effect, Do.
-/
import Derived.Test.YtmbnhlihcnbebaaEyRC
import Derived.Test.YtmbnhlihcnbebaaEyJ
set_option linter.unusedVariables false
namespace Ey
theorem putR_stay {l : List Dg} {x : Int} {d : Dg} (h : d.id = x) (h0 : 0 < x) : putR l x d = pt l d := by
  unfold putR pt
  rw [if_pos (by omega), h, List.append_assoc]
  rfl
theorem putR_gone {l : List Dg} (hs : Sor l) {x : Int} : putR l x dg0 = dl l x := by
  unfold putR
  rw [if_neg (by decide), List.append_nil]
  refine Sor.ext ?_ (hs.dl x) fun y => ?_
  · unfold Sor
    rw [List.pairwise_append]
    refine ⟨hs.filter _, hs.filter _, fun e he f hf => ?_⟩
    have h1 := (List.mem_filter.1 he).2
    have h2 := (List.mem_filter.1 hf).2
    simp at h1 h2
    omega
  · rw [fnd_dl]
    unfold fnd
    rw [List.find?_append, List.find?_filter, List.find?_filter]
    by_cases h : y = x
    · subst h
      rw [if_pos rfl, List.find?_eq_none.2 (fun e _ => by simp; omega), List.find?_eq_none.2 (fun e _ => by simp; omega)]
      rfl
    · rw [if_neg h]
      by_cases h2 : y < x
      · have e1 : (fun e : Dg => decide (decide (e.id < x) = true ∧ (e.id == y) = true)) = fun e => e.id == y := by
          funext e; by_cases he : e.id = y <;> simp [he]; omega
        have e2 : l.find? (fun e : Dg => decide (decide (x < e.id) = true ∧ (e.id == y) = true)) = none := List.find?_eq_none.2 (fun e _ => by simp; omega)
        rw [e1, e2]; cases l.find? (fun e => e.id == y) <;> rfl
      · have e1 : (fun e : Dg => decide (decide (x < e.id) = true ∧ (e.id == y) = true)) = fun e => e.id == y := by
          funext e; by_cases he : e.id = y <;> simp [he]; omega
        have e2 : l.find? (fun e : Dg => decide (decide (e.id < x) = true ∧ (e.id == y) = true)) = none := List.find?_eq_none.2 (fun e _ => by simp; omega)
        rw [e1, e2]; rfl
/-- the reference's Do is Do -/
theorem doR_ref {L : List Dg} {a : Ac} (h1 : stateB L = true) (h2 : validA a = true) : doR L a = if (rEff (gt L a.danger) a).2 ≠ 0 then ([], (rEff (gt L a.danger) a).2) else (putR L a.danger (rEff (gt L a.danger) a).1, 0) := by
  have hid := eff_id (L := L) (a := a)
  have hv := (validA_nums h2).1
  have hp : 0 < a.danger := by unfold numB at hv; simp at hv; omega
  have hs := (stateB_iff.1 h1).2
  by_cases h3 : (actS L a).2 = 0
  · rw [doR_ok h1 h2 h3]
    unfold actS at h3 ⊢
    unfold rEff
    generalize gt L a.danger = g at *
    by_cases h : (eff g a).2.2 = 0
    · have h' : ¬ (eff g a).2.2 ≠ 0 := fun e => e h
      rw [if_neg h', if_neg h']
      cases hst : (eff g a).2.1 with
      | true => show (pt L (eff g a).1, (0 : Int)) = (putR L a.danger (eff g a).1, 0); rw [putR_stay (hid h) hp]
      | false => show (dl L a.danger, (0 : Int)) = (putR L a.danger dg0, 0); rw [putR_gone hs]
    · rw [if_pos h] at h3; exact absurd h3 h
  · rw [doR_err h1 h2 h3]
    unfold actS at h3 ⊢
    unfold rEff
    generalize gt L a.danger = g at *
    by_cases h : (eff g a).2.2 = 0
    · have h' : ¬ (eff g a).2.2 ≠ 0 := fun e => e h
      rw [if_neg h'] at h3
      split at h3 <;> exact absurd rfl h3
    · rw [if_pos h, if_pos h]
      dsimp only
      rw [if_pos h]
end Ey
namespace Go.Proofs.Ytmbnhlihcnbebaa
open Go Go.RowKit Ey Sk Go.Sort
abbrev eE (p : Dg × Int) : Value := .tuple #[eD p.1, .int .i64 p.2]
set_option maxRecDepth 100000 in
set_option maxHeartbeats 8000000 in
theorem reffect_any (d : Dg) (a : Ac) (w : World) (hv : validA a = true) (hf : Fine d) : Calls Try.prog 47 #[eD d, eA a] w (Ret w (eE (rEff d a))) := by
  have HE1 := Lib.hid (fun hk => @rEff1 d a hk)
  have HE2 := Lib.hid (fun hk => @rEff2 d a hk)
  have HE3 := Lib.hid (fun hk => @rEff3 d a hk)
  have HE4 := Lib.hid (fun hk => @rEff4 d a hk)
  have hk := validA_kind hv
  have HF := Lib.hid hf
  have HB_w : Below w.heap.size w w := Below.refl _ _
  clear hv hf
  generalize rEff d a = p at *
  obtain ⟨d0, told, ⟨d2, d3, d4, d5⟩, d6, drop, ⟨d8, d9, d10, d11⟩⟩ := d
  obtain ⟨a0, a1, a2, a3, ⟨a4, a5, a6, a7⟩⟩ := a
  dsimp only [eA, eD, eE] at *
  obtain ⟨hp, hz⟩ := HF.out
  dsimp only at hp hz
  have HZ := Lib.hid hz
  clear HF hz
  rcases hk with rfl | rfl | rfl | rfl
  · have HE := Lib.hid (HE1.out rfl)
    clear HE1 HE2 HE3 HE4
    rcases hp with rfl | hp
    · obtain ⟨rfl, hz⟩ := HZ.out rfl
      clear HZ hz
      replace HE := Lib.hid (HE.out.trans (if_neg (fun h => h rfl)))
      by_cases hq : told = true ∧ (⟨d2, d3, d4, d5⟩ : Bx) = ⟨a4, a5, a6, a7⟩
      · have HP := Lib.hid (HE.out.trans (if_pos hq))
        obtain ⟨rfl, hq⟩ := hq
        simp only [Bx.mk.injEq] at hq
        obtain ⟨rfl, rfl, rfl, rfl⟩ := hq
        have hq := eql_box d2 d3 d4 d5 d2 d3 d4 d5
        rw [decide_eq_true rfl] at hq
        clear HE
        go_enter Try.func47, Try.ntmps47
        go_wp2_with fail
        all_goals try (exfalso; omega)
        refine bodyPost_ret (v := .tuple #[.agg #[.int .i64 d0, .bool true, .int .i64 d2, .int .i64 d3, .int .i64 d4, .int .i64 d5, .int .i64 0, .bool false, .int .i64 d8, .int .i64 d9, .int .i64 d10, .int .i64 d11], .int .i64 5]) (by simp [results, Try.results47, go_sem]) rfl ?_
        exact ⟨by rw [HP.out]; try rfl, grew3 HB_w⟩
      · have HP := Lib.hid (HE.out.trans (if_neg hq))
        have hqe := eql_box d2 d3 d4 d5 a4 a5 a6 a7
        have hqf : told = true → decide ((⟨d2, d3, d4, d5⟩ : Bx) = ⟨a4, a5, a6, a7⟩) = false := fun ht => decide_eq_false (fun h => hq ⟨ht, h⟩)
        clear HE hq
        cases told
        · clear hqf hqe
          go_enter Try.func47, Try.ntmps47
          go_wp2_with fail
          all_goals try (exfalso; omega)
          refine bodyPost_ret (v := .tuple #[.agg #[.int .i64 a1, .bool false, .int .i64 d2, .int .i64 d3, .int .i64 d4, .int .i64 d5, .int .i64 a2, .bool false, .int .i64 a4, .int .i64 a5, .int .i64 a6, .int .i64 a7], .int .i64 0]) (by simp [results, Try.results47, go_sem]) rfl ?_
          exact ⟨by rw [HP.out]; try rfl, grew3 HB_w⟩
        · rw [hqf rfl] at hqe
          clear hqf
          go_enter Try.func47, Try.ntmps47
          go_wp2_with fail
          all_goals try (exfalso; omega)
          refine bodyPost_ret (v := .tuple #[.agg #[.int .i64 a1, .bool true, .int .i64 d2, .int .i64 d3, .int .i64 d4, .int .i64 d5, .int .i64 a2, .bool false, .int .i64 a4, .int .i64 a5, .int .i64 a6, .int .i64 a7], .int .i64 0]) (by simp [results, Try.results47, go_sem]) rfl ?_
          exact ⟨by rw [HP.out]; try rfl, grew3 HB_w⟩
    · have HP := Lib.hid (HE.out.trans (if_pos (by omega)))
      clear HE HZ
      go_enter Try.func47, Try.ntmps47
      go_wp2_with fail
      all_goals try (exfalso; omega)
      refine bodyPost_ret (v := .tuple #[.agg #[.int .i64 d0, .bool told, .int .i64 d2, .int .i64 d3, .int .i64 d4, .int .i64 d5, .int .i64 d6, .bool drop, .int .i64 d8, .int .i64 d9, .int .i64 d10, .int .i64 d11], .int .i64 6]) (by simp [results, Try.results47, go_sem]) rfl ?_
      exact ⟨by rw [HP.out]; try rfl, grew3 HB_w⟩
  · have HE := Lib.hid (HE2.out rfl)
    clear HE1 HE2 HE3 HE4
    cases told
    · have HP := Lib.hid (HE.out.trans (if_pos rfl))
      clear HE HZ
      go_enter Try.func47, Try.ntmps47
      go_wp2_with fail
      all_goals try (exfalso; omega)
      refine bodyPost_ret (v := .tuple #[.agg #[.int .i64 d0, .bool false, .int .i64 d2, .int .i64 d3, .int .i64 d4, .int .i64 d5, .int .i64 d6, .bool drop, .int .i64 d8, .int .i64 d9, .int .i64 d10, .int .i64 d11], .int .i64 4]) (by simp [results, Try.results47, go_sem]) rfl ?_
      exact ⟨by rw [HP.out]; try rfl, grew3 HB_w⟩
    replace HE := Lib.hid (HE.out.trans (if_neg (by decide)))
    rcases hp with rfl | hp
    · obtain ⟨rfl, hz⟩ := HZ.out rfl
      simp only [bx0, Bx.mk.injEq] at hz
      obtain ⟨rfl, rfl, rfl, rfl⟩ := hz
      have HP := Lib.hid (HE.out.trans (if_neg (fun h => h rfl)))
      clear HE HZ
      go_enter Try.func47, Try.ntmps47
      go_wp2_with fail
      all_goals try (exfalso; omega)
      refine bodyPost_ret (v := .tuple #[.agg #[.int .i64 d0, .bool true, .int .i64 d2, .int .i64 d3, .int .i64 d4, .int .i64 d5, .int .i64 a2, .bool true, .int .i64 0, .int .i64 0, .int .i64 0, .int .i64 0], .int .i64 0]) (by simp [results, Try.results47, go_sem]) rfl ?_
      exact ⟨by rw [HP.out]; try rfl, grew3 HB_w⟩
    · have HP := Lib.hid (HE.out.trans (if_pos (by omega)))
      clear HE HZ
      go_enter Try.func47, Try.ntmps47
      go_wp2_with fail
      all_goals try (exfalso; omega)
      refine bodyPost_ret (v := .tuple #[.agg #[.int .i64 d0, .bool true, .int .i64 d2, .int .i64 d3, .int .i64 d4, .int .i64 d5, .int .i64 d6, .bool drop, .int .i64 d8, .int .i64 d9, .int .i64 d10, .int .i64 d11], .int .i64 6]) (by simp [results, Try.results47, go_sem]) rfl ?_
      exact ⟨by rw [HP.out]; try rfl, grew3 HB_w⟩
  · have HE := Lib.hid (HE3.out rfl)
    clear HE1 HE2 HE3 HE4
    rcases hp with rfl | hp
    · have HP := Lib.hid (HE.out.trans (if_pos rfl))
      clear HE HZ
      go_enter Try.func47, Try.ntmps47
      go_wp2_with fail
      all_goals try (exfalso; omega)
      refine bodyPost_ret (v := .tuple #[.agg #[.int .i64 d0, .bool told, .int .i64 d2, .int .i64 d3, .int .i64 d4, .int .i64 d5, .int .i64 0, .bool drop, .int .i64 d8, .int .i64 d9, .int .i64 d10, .int .i64 d11], .int .i64 4]) (by simp [results, Try.results47, go_sem]) rfl ?_
      exact ⟨by rw [HP.out]; try rfl, grew3 HB_w⟩
    replace HE := Lib.hid (HE.out.trans (if_neg (by omega)))
    have h60 : (d6 == 0) = false := beq_eq_false_iff_ne.2 (by omega)
    clear HZ
    by_cases hq : d6 = a2
    · have HP := Lib.hid (HE.out.trans (if_pos hq))
      clear HE
      subst hq
      go_enter Try.func47, Try.ntmps47
      go_wp2_with fail
      all_goals try (exfalso; omega)
      refine bodyPost_ret (v := .tuple #[.agg #[.int .i64 d0, .bool told, .int .i64 d2, .int .i64 d3, .int .i64 d4, .int .i64 d5, .int .i64 d6, .bool drop, .int .i64 d8, .int .i64 d9, .int .i64 d10, .int .i64 d11], .int .i64 21]) (by simp [results, Try.results47, go_sem]) rfl ?_
      exact ⟨by rw [HP.out]; try rfl, grew3 HB_w⟩
    replace HE := Lib.hid (HE.out.trans (if_neg hq))
    have hq2 : (d6 == a2) = false := beq_eq_false_iff_ne.2 hq
    clear hq
    cases drop
    · have HP := Lib.hid (HE.out.trans (if_neg (by decide)))
      clear HE
      go_enter Try.func47, Try.ntmps47
      go_wp2_with fail
      all_goals try (exfalso; omega)
      refine bodyPost_ret (v := .tuple #[.agg #[.int .i64 d0, .bool true, .int .i64 d8, .int .i64 d9, .int .i64 d10, .int .i64 d11, .int .i64 0, .bool false, .int .i64 0, .int .i64 0, .int .i64 0, .int .i64 0], .int .i64 0]) (by simp [results, Try.results47, go_sem]) rfl ?_
      exact ⟨by rw [HP.out]; try rfl, grew3 HB_w⟩
    · have HP := Lib.hid (HE.out.trans (if_pos rfl))
      clear HE
      go_enter Try.func47, Try.ntmps47
      go_wp2_with fail
      all_goals try (exfalso; omega)
      refine bodyPost_ret (v := .tuple #[.agg #[.int .i64 0, .bool false, .int .i64 0, .int .i64 0, .int .i64 0, .int .i64 0, .int .i64 0, .bool false, .int .i64 0, .int .i64 0, .int .i64 0, .int .i64 0], .int .i64 0]) (by simp [results, Try.results47, go_sem]) rfl ?_
      exact ⟨by rw [HP.out]; try rfl, grew3 HB_w⟩
  · have HE := Lib.hid (HE4.out rfl)
    clear HE1 HE2 HE3 HE4
    rcases hp with rfl | hp
    · have HP := Lib.hid (HE.out.trans (if_pos rfl))
      clear HE HZ
      go_enter Try.func47, Try.ntmps47
      go_wp2_with fail
      all_goals try (exfalso; omega)
      refine bodyPost_ret (v := .tuple #[.agg #[.int .i64 d0, .bool told, .int .i64 d2, .int .i64 d3, .int .i64 d4, .int .i64 d5, .int .i64 0, .bool drop, .int .i64 d8, .int .i64 d9, .int .i64 d10, .int .i64 d11], .int .i64 4]) (by simp [results, Try.results47, go_sem]) rfl ?_
      exact ⟨by rw [HP.out]; try rfl, grew3 HB_w⟩
    replace HE := Lib.hid (HE.out.trans (if_neg (by omega)))
    have h60 : (d6 == 0) = false := beq_eq_false_iff_ne.2 (by omega)
    clear HZ
    cases told
    · have HP := Lib.hid (HE.out.trans (if_pos rfl))
      clear HE
      go_enter Try.func47, Try.ntmps47
      go_wp2_with fail
      all_goals try (exfalso; omega)
      refine bodyPost_ret (v := .tuple #[.agg #[.int .i64 0, .bool false, .int .i64 0, .int .i64 0, .int .i64 0, .int .i64 0, .int .i64 0, .bool false, .int .i64 0, .int .i64 0, .int .i64 0, .int .i64 0], .int .i64 0]) (by simp [results, Try.results47, go_sem]) rfl ?_
      exact ⟨by rw [HP.out]; try rfl, grew3 HB_w⟩
    · have HP := Lib.hid (HE.out.trans (if_neg (by decide)))
      clear HE
      go_enter Try.func47, Try.ntmps47
      go_wp2_with fail
      all_goals try (exfalso; omega)
      refine bodyPost_ret (v := .tuple #[.agg #[.int .i64 d0, .bool true, .int .i64 d2, .int .i64 d3, .int .i64 d4, .int .i64 d5, .int .i64 0, .bool false, .int .i64 0, .int .i64 0, .int .i64 0, .int .i64 0], .int .i64 0]) (by simp [results, Try.results47, go_sem]) rfl ?_
      exact ⟨by rw [HP.out]; try rfl, grew3 HB_w⟩
end Go.Proofs.Ytmbnhlihcnbebaa
