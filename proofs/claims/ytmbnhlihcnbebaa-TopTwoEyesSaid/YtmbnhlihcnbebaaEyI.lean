/-
  Walks of the layer 'eyes': load.
-/
import Derived.Test.YtmbnhlihcnbebaaEyH
set_option linter.unusedVariables false
namespace Ey
def lastI (l : List Dg) (k : Nat) : Int := match (l.take k).getLast? with | some d => d.id | none => 0
theorem lastI_succ {l : List Dg} {k : Nat} (h : k < l.length) : lastI l (k + 1) = l[k].id := by
  unfold lastI
  rw [List.take_add_one, List.getElem?_eq_getElem h, Option.toList_some, List.getLast?_concat]
theorem pt_last {L : List Dg} {d : Dg} (h : ∀ e ∈ L, e.id < d.id) : pt L d = L ++ [d] := by
  unfold pt
  rw [List.filter_eq_self.2 (fun e he => by simpa using h e he), List.filter_eq_nil_iff.2 (fun e he => by have := h e he; simp; omega)]
theorem sor_snoc {L : List Dg} {d : Dg} : Sor (L ++ [d]) ↔ Sor L ∧ ∀ e ∈ L, e.id < d.id := by
  unfold Sor
  rw [List.pairwise_append]
  simp
theorem last_all {l : List Dg} {k : Nat} (hk : k ≤ l.length) (hs : Sor (l.take k)) : ∀ e ∈ l.take k, e.id ≤ lastI l k := by
  cases k with
  | zero => intro e he; simp at he
  | succ k =>
    intro e he
    rw [lastI_succ (by omega)]
    rw [List.take_add_one, List.getElem?_eq_getElem (by omega : k < l.length), Option.toList_some] at he hs
    rcases List.mem_append.1 he with he | he
    · exact Int.le_of_lt ((sor_snoc.1 hs).2 e he)
    · simp at he; subst he; exact Int.le_refl _
theorem sound_id {d : Dg} (h : soundD d = true) : 1 ≤ d.id ∧ d.id ≤ 50 := by
  unfold soundD at h
  simp only [Bool.and_eq_true] at h
  have := h.1.1.1.1
  simpa [numB] using this
theorem stateB_iff {L : List Dg} : stateB L = true ↔ ((∀ d ∈ L, soundD d = true) ∧ Sor L) := by simp [stateB]
theorem sor_count {L : List Dg} (hs : Sor L) : ∀ (lo hi : Int), (∀ d ∈ L, lo ≤ d.id ∧ d.id ≤ hi) → lo ≤ hi + 1 → (L.length : Int) ≤ hi - lo + 1 := by
  induction L with
  | nil => intro lo hi _ h; simp; omega
  | cons d L ih =>
    intro lo hi h hlo
    have h0 := h d List.mem_cons_self
    have hc := List.pairwise_cons.1 hs
    have := ih hc.2 (d.id + 1) hi (fun e he => ⟨by have := hc.1 e he; omega, (h e (List.mem_cons_of_mem _ he)).2⟩) (by omega)
    rw [List.length_cons]
    omega
theorem state_len {L : List Dg} (h : stateB L = true) : L.length ≤ 50 := by
  obtain ⟨h1, h2⟩ := stateB_iff.1 h
  have := sor_count h2 1 50 (fun d hd => sound_id (h1 d hd)) (by omega)
  omega
theorem state_bad {l : List Dg} {k : Nat} (hk : k < l.length) (h : soundD l[k] = false ∨ (Sor (l.take k) ∧ (∀ d ∈ l.take k, soundD d = true) ∧ l[k].id ≤ lastI l k)) : stateB l = false := by
  cases hv : stateB l with
  | false => rfl
  | true =>
    obtain ⟨h1, h2⟩ := stateB_iff.1 hv
    exfalso
    rcases h with h | ⟨_, _, h⟩
    · rw [h1 _ (List.getElem_mem hk)] at h; cases h
    · cases k with
      | zero => have := sound_id (h1 _ (List.getElem_mem hk)); simp [lastI] at h; omega
      | succ j =>
        rw [lastI_succ (by omega)] at h
        have := List.pairwise_iff_getElem.1 h2 j (j + 1) (by omega) hk (by omega)
        omega
theorem state_step {l : List Dg} {k : Nat} (hk : k < l.length) (hs : Sor (l.take k)) (ha : ∀ d ∈ l.take k, soundD d = true) (h1 : soundD l[k] = true) (h2 : lastI l k < l[k].id) :
    Sor (l.take (k + 1)) ∧ (∀ d ∈ l.take (k + 1), soundD d = true) ∧ pt (l.take k) l[k] = l.take (k + 1) := by
  have hall := last_all (Nat.le_of_lt hk) hs
  have e : l.take (k + 1) = l.take k ++ [l[k]] := by rw [List.take_add_one, List.getElem?_eq_getElem hk, Option.toList_some]
  rw [e]
  refine ⟨sor_snoc.2 ⟨hs, fun d hd => by have := hall d hd; omega⟩, fun d hd => ?_, pt_last (fun d hd => by have := hall d hd; omega)⟩
  rcases List.mem_append.1 hd with hd | hd
  · exact ha d hd
  · simp at hd; subst hd; exact h1
end Ey
namespace Go.Proofs.Ytmbnhlihcnbebaa
open Go Go.RowKit Ey Sk
def Loaded (w : World) (l : List Dg) (e : Ending) (w' : World) : Prop :=
  (stateB l = true ∧ ∃ b, e = .returned (.tuple #[.map (some b), .bool true]) ∧ w.heap.size ≤ b ∧ StOf w' b l.length l ∧ Below w.heap.size w w') ∨ (stateB l = false ∧ e = .returned (.tuple #[.map none, .bool false]) ∧ Below w.heap.size w w')

set_option maxRecDepth 100000 in
set_option maxHeartbeats 8000000 in
theorem load_any (ao : Option Addr) (n cap : Nat) (l : List Dg) (w : World) (hs : Sl w 12 cD ao n cap l) : Calls Try.prog 46 #[.slice ao n cap] w (Loaded w l) := by
  obtain rfl := hs.len
  have hcap := hs.max
  have hle := hs.le
  unfold maxLen at hcap
  have HS := Lib.hid hs
  have hmm := @run_makeMap Try.prog
  have HF := Lib.hid (fun k => @state_bad l k)
  have HN := Lib.hid (fun k => @state_step l k)
  have HT := Lib.hid (@stateB_iff l).2
  clear hs
  unfold Loaded
  generalize stateB l = v at *
  go_enter Try.func46, Try.ntmps46
  go_wp2_with fail
  clear hmm
  go_loopw [5, 11] (fun la i wr => ∃ k : Nat, k ≤ l.length ∧ i = .int .i64 k ∧ la = .int .i64 (lastI l k) ∧ Below w.heap.size w wr ∧ w.heap.size + 1 ≤ wr.heap.size ∧ Hid (StOf wr w.heap.size k (l.take k)) ∧ Hid (Sor (l.take k)) ∧ Hid (∀ d ∈ l.take k, soundD d = true)) (fun _ i _ => l.length - (intOf i).toNat)
  case atStart => exact ⟨0, by omega, rfl, rfl, grew1 (Below.refl _ _), by simp, StOf.made w, List.Pairwise.nil, fun d h => (by simp at h)⟩
  case round =>
    obtain ⟨k, hk, rfl, rfl, HB_wr, hsz, HST, HSO, HAL⟩ := hrel
    by_cases hlt : k < l.length
    · obtain ⟨b', off, rfl, hb, hrow⟩ := HS.out.get hlt
      obtain ⟨e_0, e_1, e_2, e_3, e_4, e_5, e_6, e_7, e_8, e_9, e_10, e_11⟩ := ((hrow k hlt).below HB_wr hb).c12
      have HFK := Lib.hid (fun h => HF.out k hlt h)
      have HNK := Lib.hid (HN.out k hlt HSO.out HAL.out)
      have HLA := Lib.hid (lastI_succ hlt)
      clear hrow
      generalize l[k] = d at *
      generalize lastI l k = la at *
      obtain ⟨d0, told, ⟨d2, d3, d4, d5⟩, d6, drop, ⟨d8, d9, d10, d11⟩⟩ := d
      dsimp only at e_0 e_1 e_2 e_3 e_4 e_5 e_6 e_7 e_8 e_9 e_10 e_11 HNK HLA HFK
      obtain ⟨R, hR⟩ : ∃ R, wr.heap.size = R := ⟨_, rfl⟩
      obtain ⟨W1, hW1, hB1, hZ1, hb1⟩ := boxes1 wr [.int .i64 d0, .bool told, .int .i64 d2, .int .i64 d3, .int .i64 d4, .int .i64 d5, .int .i64 d6, .bool drop, .int .i64 d8, .int .i64 d9, .int .i64 d10, .int .i64 d11] 33
      rw [hR] at hb1
      have H_s := Lib.hid hb1
      have HB_W1 : Below w.heap.size w W1 := after0 HB_wr hB1
      have HST1 := Lib.hid (HST.out.below hB1)
      have hsz1 : w.heap.size + 1 ≤ W1.heap.size := by omega
      have hRw : w.heap.size < R := by omega
      have HSC := Lib.hid (fun W => sound_any ⟨d0, told, ⟨d2, d3, d4, d5⟩, d6, drop, ⟨d8, d9, d10, d11⟩⟩ W)
      dsimp only [eD] at HSC
      clear hb1 hB1 HST hsz hZ1
      obtain ⟨q_s_0, q_s_1, q_s_2, q_s_3, q_s_4, q_s_5, q_s_6, q_s_7, q_s_8, q_s_9, q_s_10, q_s_11⟩ := H_s.out.c12
      go_wp2_with fail
      clear hW1 hR
      refine (HSC.out _).mono ?_
      rintro e wa ⟨rfl, hb_wa⟩
      have HB_wa : Below w.heap.size w wa := by first | exact after0 HB_W1 hb_wa | exact after1 HB_W1 hb_wa | exact after2 HB_W1 hb_wa | exact after3 HB_W1 hb_wa | exact after4 HB_W1 hb_wa | exact after5 HB_W1 hb_wa
      try clear q_s_0 q_s_1 q_s_2 q_s_3 q_s_4 q_s_5 q_s_6 q_s_7 q_s_8 q_s_9 q_s_10 q_s_11
      have H_s := Lib.hid (Box.below (by first | exact H_s.out | exact H_s.out.alloc _ | exact (H_s.out.alloc _).alloc _ | exact ((H_s.out.alloc _).alloc _).alloc _) hb_wa)
      obtain ⟨q_s_0, q_s_1, q_s_2, q_s_3, q_s_4, q_s_5, q_s_6, q_s_7, q_s_8, q_s_9, q_s_10, q_s_11⟩ := H_s.out.c12
      have HST2 := Lib.hid (HST1.out.below hb_wa)
      have hsz2 := Nat.le_trans hsz1 hb_wa.size
      clear e_0 e_1 e_2 e_3 e_4 e_5 e_6 e_7 e_8 e_9 e_10 e_11
      cases h1 : soundD ⟨d0, told, ⟨d2, d3, d4, d5⟩, d6, drop, ⟨d8, d9, d10, d11⟩⟩
      · have HP := Lib.hid (HFK.out (.inl h1))
        clear h1
        go_wp2_with fail
        go_ret2
        exact .inr ⟨HP.out, rfl, HB_wa⟩
      by_cases h2 : d0 ≤ la
      · have HP := Lib.hid (HFK.out (.inr ⟨HSO.out, HAL.out, h2⟩))
        clear h1
        go_wp2_with fail
        go_ret2
        exact .inr ⟨HP.out, rfl, HB_wa⟩
      replace h2 := Int.not_le.1 h2
      obtain ⟨n1, n2, n3⟩ := HNK.out h1 h2
      have N1 := Lib.hid n1
      have N2 := Lib.hid n2
      have N3 := Lib.hid n3
      have HX := Lib.hid (I64.num (x := d0) (by
        have := sound_id h1
        simp only at this
        simp [numB]; omega))
      have hkc : k < maxLen := by unfold maxLen; omega
      clear h1 n1 n2 n3 HNK HFK
      obtain ⟨V, hV⟩ : ∃ V, wa.drew = V := ⟨_, rfl⟩
      have HSV := Lib.hid (show StOf V w.heap.size k (l.take k) from hV ▸ HST2.out)
      have HDV := Lib.hid (show DD R ⟨d0, told, ⟨d2, d3, d4, d5⟩, d6, drop, ⟨d8, d9, d10, d11⟩⟩ V from hV ▸ H_s.out.drew)
      have HB_V : Below w.heap.size w V := hV ▸ HB_wa.drew
      have hszV : w.heap.size + 1 ≤ V.heap.size := hV ▸ hsz2
      have HYN := Lib.hid (show Nonempty (Wc (DD R ⟨d0, told, ⟨d2, d3, d4, d5⟩, d6, drop, ⟨d8, d9, d10, d11⟩⟩)) from ⟨⟨V, HDV.out⟩⟩)
      go_wp2_with fail
      clear q_s_0 q_s_1 q_s_2 q_s_3 q_s_4 q_s_5 q_s_6 q_s_7 q_s_8 q_s_9 q_s_10 q_s_11
      have y_n := HYN.out
      have y_0 := fun p : Wc (DD R ⟨d0, told, ⟨d2, d3, d4, d5⟩, d6, drop, ⟨d8, d9, d10, d11⟩⟩) => (Box.c12 p.h).1
      have y_1 := fun p : Wc (DD R ⟨d0, told, ⟨d2, d3, d4, d5⟩, d6, drop, ⟨d8, d9, d10, d11⟩⟩) => (Box.c12 p.h).2.1
      have y_2 := fun p : Wc (DD R ⟨d0, told, ⟨d2, d3, d4, d5⟩, d6, drop, ⟨d8, d9, d10, d11⟩⟩) => (Box.c12 p.h).2.2.1
      have y_3 := fun p : Wc (DD R ⟨d0, told, ⟨d2, d3, d4, d5⟩, d6, drop, ⟨d8, d9, d10, d11⟩⟩) => (Box.c12 p.h).2.2.2.1
      have y_4 := fun p : Wc (DD R ⟨d0, told, ⟨d2, d3, d4, d5⟩, d6, drop, ⟨d8, d9, d10, d11⟩⟩) => (Box.c12 p.h).2.2.2.2.1
      have y_5 := fun p : Wc (DD R ⟨d0, told, ⟨d2, d3, d4, d5⟩, d6, drop, ⟨d8, d9, d10, d11⟩⟩) => (Box.c12 p.h).2.2.2.2.2.1
      have y_6 := fun p : Wc (DD R ⟨d0, told, ⟨d2, d3, d4, d5⟩, d6, drop, ⟨d8, d9, d10, d11⟩⟩) => (Box.c12 p.h).2.2.2.2.2.2.1
      have y_7 := fun p : Wc (DD R ⟨d0, told, ⟨d2, d3, d4, d5⟩, d6, drop, ⟨d8, d9, d10, d11⟩⟩) => (Box.c12 p.h).2.2.2.2.2.2.2.1
      have y_8 := fun p : Wc (DD R ⟨d0, told, ⟨d2, d3, d4, d5⟩, d6, drop, ⟨d8, d9, d10, d11⟩⟩) => (Box.c12 p.h).2.2.2.2.2.2.2.2.1
      have y_9 := fun p : Wc (DD R ⟨d0, told, ⟨d2, d3, d4, d5⟩, d6, drop, ⟨d8, d9, d10, d11⟩⟩) => (Box.c12 p.h).2.2.2.2.2.2.2.2.2.1
      have y_10 := fun p : Wc (DD R ⟨d0, told, ⟨d2, d3, d4, d5⟩, d6, drop, ⟨d8, d9, d10, d11⟩⟩) => (Box.c12 p.h).2.2.2.2.2.2.2.2.2.2.1
      have y_11 := fun p : Wc (DD R ⟨d0, told, ⟨d2, d3, d4, d5⟩, d6, drop, ⟨d8, d9, d10, d11⟩⟩) => (Box.c12 p.h).2.2.2.2.2.2.2.2.2.2.2
      refine wp_region_plan (C := fun w' => ∃ p : Wc (fun W => DD R ⟨d0, told, ⟨d2, d3, d4, d5⟩, d6, drop, ⟨d8, d9, d10, d11⟩⟩ W), w' = p.w) (.q 0 (.q 1 (.q 2 (.q 3 (.q 4 (.q 5 (.e 6 (.q 7 (.done))))))))) 8 (by kernel_rfl) (by kernel_rfl) ⟨⟨_, ?_⟩, rfl⟩ ?_
      · exact (hV ▸ HDV.out : DD R ⟨d0, told, ⟨d2, d3, d4, d5⟩, d6, drop, ⟨d8, d9, d10, d11⟩⟩ wa.drew)
      repeat (any_goals (first | (go_big_quiet_skip; refine wpQuiet_nil ?_) | (go_big_quiet_want; go_big_quiet_op; go_big_quiet_on; refine wpQuiet_nil ?_) | ((with_reducible apply q_split); exact rfl; intro q hq; cases q <;> (rw [hq]; (try first | replace hq := bnot_t hq | replace hq := bnot_f hq); (try first | replace hq := of_decide_eq_true hq | replace hq := of_decide_eq_false hq | replace hq := eq_of_beq hq); (try first | replace hq := Int.not_lt.1 hq | replace hq := Int.not_le.1 hq | replace hq := Nat.not_lt.1 hq | replace hq := Nat.not_le.1 hq); try (exfalso; omega))) | (refine plan_q rfl rfl ?_)))
      rw [show { heap := wa.heap, tape := wa.tape, drawn := wa.drawn + 1, os := wa.os, output := wa.output } = V from hV]
      clear hV
      refine plan_e rfl ?_
      refine wpList_put_st rfl _ _ _ rfl w.heap.size k (l.take k) rfl HSV.out hkc d0 ⟨d0, told, ⟨d2, d3, d4, d5⟩, d6, drop, ⟨d8, d9, d10, d11⟩⟩ rfl rfl HX.out rfl ?_
      intro W9 hst9 hg9
      have HST9 := Lib.hid (show StOf W9 w.heap.size (k + 1) (l.take (k + 1)) from N3.out ▸ hst9)
      have hd9 : DD R ⟨d0, told, ⟨d2, d3, d4, d5⟩, d6, drop, ⟨d8, d9, d10, d11⟩⟩ W9 := Box.grown HDV.out hg9 (fun e => by have := Option.some.inj e; omega)
      have HB_9 : Below w.heap.size w W9 := HB_V.grown hg9 HB_V.size (fun j hj => by cases hj; exact Nat.le_refl _)
      have hsz9 : w.heap.size + 1 ≤ W9.heap.size := Nat.le_trans hszV hg9.size
      clear hst9 hg9
      go_wp2_with fail
      refine MixPost.intro ⟨⟨W9, hd9⟩, rfl⟩ ?_
      repeat (any_goals (first | (go_big_quiet_skip; refine wpQuiet_nil ?_) | (go_big_quiet_want; go_big_quiet_op; go_big_quiet_on; refine wpQuiet_nil ?_) | ((with_reducible apply q_split); exact rfl; intro q hq; cases q <;> (rw [hq]; (try first | replace hq := bnot_t hq | replace hq := bnot_f hq); (try first | replace hq := of_decide_eq_true hq | replace hq := of_decide_eq_false hq | replace hq := eq_of_beq hq); (try first | replace hq := Int.not_lt.1 hq | replace hq := Int.not_le.1 hq | replace hq := Nat.not_lt.1 hq | replace hq := Nat.not_le.1 hq); try (exfalso; omega))) | (refine plan_q rfl rfl ?_)))
      refine plan_done ?_
      try simp only [List.drop_succ_cons, List.drop_zero]
      try go_wp2_with fail
      refine NoPanic.normal ?_
      try go_wp2_with fail
      clear y_n y_0 y_1 y_2 y_3 y_4 y_5 y_6 y_7 y_8 y_9 y_10 y_11 hd9
      go_roundw
      case rel => exact ⟨k + 1, hlt, by go_num, by rw [HLA.out], HB_9, hsz9, HST9.out, N1.out, N2.out⟩
      case measure => simp [intOf]; omega
    · obtain rfl : k = l.length := by omega
      rw [List.take_length] at HST HSO HAL
      have HP := Lib.hid (HT.out ⟨HAL.out, HSO.out⟩)
      go_wp2_with fail
      go_ret2
      exact .inl ⟨HP.out, w.heap.size, rfl, Nat.le_refl _, HST.out, HB_wr⟩
end Go.Proofs.Ytmbnhlihcnbebaa
