/-
  Walks of the layer 'follow': Permitted.
-/
import Derived.Test.YtofilkphaelceaaFoD
set_option linter.unusedVariables false
namespace Go.Proofs.Ytofilkphaelceaa
open Go Go.RowKit Fo Sk Go.Sort

abbrev eI (p : Int × Int) : Value := .tuple #[.int .i64 p.1, .int .i64 p.2]
theorem ret_pair {k k' : IntKind} {a b : Int} {p : Int × Int} (h : p = (a, b)) : Ending.returned (.tuple #[.int k a, .int k' b]) = .returned (.tuple #[.int k p.1, .int k' p.2]) := by rw [h]

theorem permF_at {l : List St} {o : List Int} {k : Nat} (h : k < o.length) (hn : ∀ j, j < o.length → j < k → permAt l o j = true) (hb : permAt l o k = false) : permF l o = k := by
  unfold permF
  have : (List.range o.length).find? (fun i => !permAt l o i) = some k := by
    rw [List.find?_eq_some_iff_getElem]
    refine ⟨by rw [hb]; rfl, k, by simpa using h, by simp, fun j hj => ?_⟩
    simp only [List.getElem_range]
    rw [hn j (by omega) hj]
    rfl
  rw [this]
theorem permF_all {l : List St} {o : List Int} (hn : ∀ j, j < o.length → permAt l o j = true) : permF l o = -1 := by
  unfold permF
  have : (List.range o.length).find? (fun i => !permAt l o i) = none := by
    rw [List.find?_eq_none]
    intro j hj
    rw [hn j (List.mem_range.1 hj)]
    simp
  rw [this]
theorem permR_bad {l : List St} {o : List Int} (h : valid l = false ∨ 200 < o.length) : permR l o = (0, 1) := by
  unfold permR; rw [if_neg]
  rcases h with h | h
  · simp [h]
  · simp; omega
theorem permR_ok {l : List St} {o : List Int} (h1 : valid l = true) (h2 : o.length ≤ 200) : permR l o = (permF l o, 0) := by unfold permR; rw [if_pos (by simp [h1, h2])]
theorem permAt_none {l : List St} {o : List Int} {k : Nat} (h : k < o.length) (hf : findS l o[k] = none) : permAt l o k = false := by
  unfold permAt; rw [List.getElem?_eq_getElem h]; dsimp only; rw [hf]
theorem permAt_some {l : List St} {o : List Int} {k : Nat} {s : St} (h : k < o.length) (hf : findS l o[k] = some s) : permAt l o k = (!(o.take k).contains o[k] && s.af.all (o.take k).contains) := by
  unfold permAt; rw [List.getElem?_eq_getElem h]; dsimp only; rw [hf]

set_option maxRecDepth 100000 in
set_option maxHeartbeats 4000000 in
theorem Permitted_any (ao : Option Addr) (n cap : Nat) (l : List St) (bo : Option Addr) (m capb : Nat) (o : List Int) (w : World) (hs : SlS w ao n cap l) (hd : Sl w 1 cI bo m capb o) :
    Calls Try.prog 20 #[.slice ao n cap, .slice bo m capb] w (Ret w (eI (permR l o))) := by
  obtain rfl := hs.1.len
  have hcap := hs.1.max
  have hle := hs.1.le
  unfold maxLen at hcap
  obtain rfl := hd.len
  have hcapb := hd.max
  have hleb := hd.le
  unfold maxLen at hcapb
  have HS := Lib.hid hs
  have HD := Lib.hid hd
  have HB_w : Below w.heap.size w w := Below.refl _ _
  have HBAD := Lib.hid (@permR_bad l o)
  have HOK := Lib.hid (@permR_ok l o)
  have hmm := @run_makeMap Try.prog
  clear hs hd
  generalize permR l o = p at *
  go_enter Try.func20, Try.ntmps20
  go_wp2_with fail
  refine (Valid_any _ _ _ l _ HS.out).mono ?_
  rintro e wa ⟨rfl, hb_wa⟩
  have HB_wa : Below w.heap.size w wa := by first | exact after0 HB_w hb_wa | exact after1 HB_w hb_wa | exact after2 HB_w hb_wa | exact after3 HB_w hb_wa | exact after4 HB_w hb_wa | exact after5 HB_w hb_wa
  cases h1 : valid l
  · have HP := Lib.hid (HBAD.out (.inl h1))
    clear h1
    go_wp2_with fail
    go_ret2
    exact ⟨ret_pair HP.out, HB_wa⟩
  have HV := Lib.hid (vok h1)
  replace HOK := Lib.hid (HOK.out h1)
  clear h1
  by_cases h2 : 200 < o.length
  · have HP := Lib.hid (HBAD.out (.inr h2))
    have h2i : 200 < (o.length : Int) := by omega
    go_wp2_with fail
    all_goals try (exfalso; omega)
    go_ret2
    exact ⟨ret_pair HP.out, HB_wa⟩
  replace h2 := Nat.not_lt.1 h2
  have h2i : (o.length : Int) ≤ 200 := by omega
  have HP := Lib.hid (HOK.out h2)
  have HFA := Lib.hid (fun k hk hn hb => @permF_at l o k hk hn hb)
  have HFT := Lib.hid (@permF_all l o)
  clear HBAD HOK
  generalize permF l o = pf at *
  go_wp2_with fail
  clear hmm
  go_loopw [22] (fun i wr => ∃ k : Nat, k ≤ o.length ∧ i = .int .i64 k ∧ Below w.heap.size w wr ∧ Hid (SetOf wr wa.heap.size k (o.take k).contains) ∧ Hid (∀ j, j < o.length → j < k → permAt l o j = true)) (fun i _ => o.length - (intOf i).toNat)
  case atStart => exact ⟨0, by omega, rfl, grew1 HB_wa, (SetOf.made wa).congr (fun x _ => by simp), fun i _ h => absurd h (Nat.not_lt_zero _)⟩
  case round =>
    obtain ⟨k, hk, rfl, HB_wr, HSET, HJ⟩ := hrel
    have HSW := Lib.hid (HS.out.below HB_wr)
    by_cases hlt : k < o.length
    · obtain ⟨b', off, rfl, hb, hrow⟩ := HD.out.get hlt
      have e_0 := ((hrow k hlt).below HB_wr hb).c1
      rw [Nat.mul_one] at e_0
      have HIN := Lib.hid (fun x => contains_step hlt x)
      have HFK := Lib.hid (HFA.out k hlt HJ.out)
      have HN := Lib.hid (show permAt l o k = true → ∀ j, j < o.length → j < k + 1 → permAt l o j = true from fun h0 j h hj => by
        rcases Nat.lt_succ_iff_lt_or_eq.1 hj with h1 | rfl
        · exact HJ.out j h h1
        · exact h0)
      have HPN := Lib.hid (@permAt_none l o k hlt)
      have HPS := Lib.hid (fun s => @permAt_some l o k s hlt)
      have HFC := Lib.hid (fun W hW => find_any ao l.length cap l o[k] W hW HV.out)
      clear hrow
      generalize o[k] = x at *
      go_wp2_with fail
      refine (HFC.out _ HSW.out).mono ?_
      rintro e w2 ⟨rfl, hb2⟩
      have HB_w2 : Below w.heap.size w w2 := after0 HB_wr hb2
      replace HSET := Lib.hid (HSET.out.below hb2)
      clear hb2 e_0
      cases hf : findS l x with
      | none =>
        have HP2 := Lib.hid (HFK.out (HPN.out hf))
        dsimp only [fS, Option.isSome]
        clear hf
        go_wp2_with fail
        go_ret2
        exact ⟨ret_pair (by rw [HP.out, HP2.out]), grew1 HB_w2⟩
      | some s =>
        have HPA := Lib.hid (HPS.out s hf)
        obtain ⟨hmem, hsn⟩ := find_some hf
        have hnum := HV.out.num s hmem
        have HSO := Lib.hid (((HS.out.2 s hmem).below HB_w2))
        have hx : I64 x := i64_of (by omega) (by omega)
        clear hf hmem hsn hnum HPN HPS HFC
        dsimp only [fS, Option.isSome]
        generalize permAt l o k = pk at *
        obtain ⟨s0, s1, s2, s3, s4⟩ := s
        dsimp only at HSO HPA
        obtain ⟨W1, hW1, hB1, hZ1, hb1⟩ := boxes1 w2 [.int .i64 s0, .slice s1 s2 s3] 44
        have H_s := Lib.hid hb1
        have HB_W1 : Below w.heap.size w W1 := after0 HB_w2 hB1
        replace HSO := Lib.hid (HSO.out.below hB1)
        replace HSET := Lib.hid (HSET.out.below hB1)
        clear hb1 hZ1 hB1
        obtain ⟨q_s_0, q_s_1⟩ := H_s.out.c2
        cases hc : (o.take k).contains x
        case true =>
          have hlook := HSET.out.look hx hc
          have HP2 := Lib.hid (HFK.out (by rw [HPA.out, hc]; rfl))
          clear hc
          go_wp2_with fail
          go_ret2
          exact ⟨ret_pair (by rw [HP.out, HP2.out]), HB_W1⟩
        have hlook := HSET.out.look hx hc
        rw [hc] at HPA
        clear hc
        go_wp2_with fail
        refine (all_any _ _ _ _ _ _ s4 _ HSET.out HSO.out.1 HSO.out.2).mono ?_
        rintro e wc ⟨rfl, hb_wc⟩
        have HB_wc : Below w.heap.size w wc := by first | exact after0 HB_W1 hb_wc | exact after1 HB_W1 hb_wc | exact after2 HB_W1 hb_wc | exact after3 HB_W1 hb_wc | exact after4 HB_W1 hb_wc | exact after5 HB_W1 hb_wc
        try clear q_s_0 q_s_1
        have H_s := Lib.hid (Box.below (by first | exact H_s.out | exact H_s.out.alloc _ | exact (H_s.out.alloc _).alloc _ | exact ((H_s.out.alloc _).alloc _).alloc _) hb_wc)
        obtain ⟨q_s_0, q_s_1⟩ := H_s.out.c2
        replace HSET := Lib.hid (HSET.out.below hb_wc)
        clear hW1 hlook
        cases h4 : s4.all (o.take k).contains
        · have HP2 := Lib.hid (HFK.out (by rw [HPA.out, h4]; rfl))
          clear h4
          go_wp2_with fail
          go_ret2
          exact ⟨ret_pair (by rw [HP.out, HP2.out]), HB_wc⟩
        have HN2 := Lib.hid (HN.out (by rw [HPA.out, h4]; rfl))
        clear h4 HN HPA HSO HFK
        go_wp2_with (at_mapUpdate; refine wpList_put_set rfl _ _ _ rfl wa.heap.size k _ rfl HSET.out (by unfold maxLen; omega) x rfl rfl hx ?_; intro w1 hset1 hg1)
        have HS1 := Lib.hid (hset1.congr (S' := (o.take (k + 1)).contains) (fun y _ => by rw [HIN.out]))
        have HB_w1 : Below w.heap.size w w1 := HB_wc.grown hg1 HB_wc.size (fun j hj => by cases hj; exact HB_wa.size)
        clear hset1 hg1
        go_wp2_with fail
        go_roundw
        case rel => exact ⟨k + 1, by omega, by go_num, HB_w1, HS1, HN2⟩
        case measure => simp [intOf]; omega
    · have HP2 := Lib.hid (HFT.out (fun j h => HJ.out j h (by omega)))
      go_wp2_with fail
      go_ret2
      exact ⟨ret_pair (by rw [HP.out, HP2.out]), HB_wr⟩
end Go.Proofs.Ytofilkphaelceaa
