/-
  Walks of the layer 'reuse': Free, Holds, asked, and what they call.
-/
import Derived.Test.YtpdecgbfnhaojaaGreatReuA
import Derived.Test.YtpdecgbfnhaojaaGreatApp
set_option linter.unusedVariables false
namespace Ck
theorem mostOf_step {l : List Int} {k : Nat} (h : k < l.length) : mostOf (l.take (k + 1)) = max (mostOf (l.take k)) l[k] := by
  unfold mostOf
  rw [List.take_add_one, List.getElem?_eq_getElem h, List.foldl_append]
  rfl
end Ck
namespace Go.Proofs.YtpdecgbfnhaojaaGreat
open Go.RowKit Nb Sk Ck Go.Sort

abbrev cI (n : Int) : List Value := [.int .i64 n]
theorem cI_len : ∀ x, (cI x).length = 1 := fun _ => rfl
theorem cI_one : ∀ x, ∀ u ∈ cI x, u.oneCell' = true := by intro x u hu; simp [cI] at hu; subst hu; rfl
theorem info_int : (Tryz.prog.info? 3).map (fun i => (i.zero, i.size, i.bytes)) = some (some (.int .i64 0), 1, 8) := by kernel_rfl

theorem indexC_any (ao : Option Addr) (n cap : Nat) (l : List Clk) (g : Nat) (lb : Array Value) (p : Clk → Bool) (w : World) (hs : Sl w 4 cC ao n cap l) (hp : Asks Tryz.prog g lb eC p l w)
    (eg : ∀ args w, (callFunc g args).run Tryz.prog w = .ok (.enter g args) w) :
    Calls Tryz.prog 48 #[.slice ao n cap, .func (.func g) #[] lb] w (Ret w (.int .i64 (fIdx p l))) := by
  obtain rfl := hs.len
  have hcap := hs.max
  have hle := hs.le
  unfold maxLen at hcap
  have HS : Hid (Sl w 4 cC ao l.length cap l) := hs
  have HP : Hid (Asks Tryz.prog g lb eC p l w) := hp
  clear hs hp
  go_enter Tryz.func48, Tryz.ntmps48
  go_wp2
  go_loopw [5, 8] (fun _ i wr => ∃ k : Nat, k ≤ l.length ∧ i = .int .i64 k ∧ Below w.heap.size w wr ∧ Hid (∀ j (h : j < l.length), j < k → p l[j] = false)) (fun _ i _ => l.length - (intOf i).toNat)
  case atStart => exact ⟨0, Nat.zero_le _, rfl, Below.refl _ _, fun j _ h => absurd h (Nat.not_lt_zero _)⟩
  case round =>
    obtain ⟨k, hk, rfl, hbel, HN⟩ := hrel
    by_cases hlt : k < l.length
    · obtain ⟨b, off, rfl, hb, hrow⟩ := HS.out.get hlt
      obtain ⟨h0, h1, h2, h3⟩ := ((hrow k hlt).below hbel hb).c4
      have hcall := HP.out wr l[k] hbel (List.getElem_mem hlt)
      clear hrow
      by_cases hpk : p l[k] = true
      · have HR : Hid (fIdx p l = k) := fIdx_hit hlt hpk HN.out
        go_wp2_with fail
        refine hcall.mono ?_
        rintro e w' ⟨rfl, hb2⟩
        clear hcall h0 h1 h2 h3
        go_wp2
        go_ret
        exact ⟨ret_int HR.out.symm, hbel.trans (hb2.mono hbel.size)⟩
      · have HR : Hid (∀ j (h : j < l.length), j < k + 1 → p l[j] = false) := fun j h hj => by
          by_cases hjk : j = k
          · subst hjk; simpa using hpk
          · exact HN.out j h (by omega)
        go_wp2_with fail
        refine hcall.mono ?_
        rintro e w' ⟨rfl, hb2⟩
        clear hcall h0 h1 h2 h3
        go_wp2
        go_roundw
        case rel => exact ⟨k + 1, by omega, by go_num, hbel.trans (hb2.mono hbel.size), HR⟩
        case measure => simp [intOf]; omega
    · have HR : Hid (fIdx p l = -1) := fIdx_miss fun j hj => HN.out j hj (by omega)
      go_wp2
      go_ret
      exact ⟨ret_int HR.out.symm, hbel⟩

theorem containsC_any (ao : Option Addr) (n cap : Nat) (l : List Clk) (g : Nat) (lb : Array Value) (p : Clk → Bool) (w : World) (hs : Sl w 4 cC ao n cap l) (hp : Asks Tryz.prog g lb eC p l w)
    (eg : ∀ args w, (callFunc g args).run Tryz.prog w = .ok (.enter g args) w) :
    Calls Tryz.prog 20 #[.slice ao n cap, .func (.func g) #[] lb] w (Ret w (.bool (l.any p))) := by
  have hc := indexC_any ao n cap l g lb p w hs hp eg
  have HA : Hid (l.any p = true ↔ 0 ≤ fIdx p l) := any_fIdx
  clear hs hp
  generalize l.any p = q at *
  generalize fIdx p l = r at *
  go_enter Tryz.func20, Tryz.ntmps20
  go_wp2_with fail
  refine hc.mono ?_
  rintro e w' ⟨rfl, hb2⟩
  go_wp2
  go_ret
  exact ⟨ret_bool (by rw [HA.out]; simp), hb2⟩

set_option maxRecDepth 100000 in
theorem most_any (ao : Option Addr) (n cap : Nat) (l : List Int) (w : World) (hs : Sl w 1 cI ao n cap l) : Calls Tryz.prog 21 #[.slice ao n cap] w (Ret w (.int .i64 (mostOf l))) := by
  obtain rfl := hs.len
  have hcap := hs.max
  have hle := hs.le
  unfold maxLen at hcap
  have HS := Lib.hid hs
  clear hs
  go_enter Tryz.func21, Tryz.ntmps21
  go_wp2_with fail
  go_loopw [3, 8] (fun o i wr => ∃ k : Nat, k ≤ l.length ∧ i = .int .i64 k ∧ o = .int .i64 (mostOf (l.take k)) ∧ Below w.heap.size w wr) (fun _ i _ => l.length - (intOf i).toNat)
  case atStart => exact ⟨0, by omega, rfl, rfl, Below.refl _ _⟩
  case round =>
    obtain ⟨k, hk, rfl, rfl, HB_wr⟩ := hrel
    by_cases hlt : k < l.length
    · obtain ⟨b, off, rfl, hb, hrow⟩ := HS.out.get hlt
      have h0 := ((hrow k hlt).below HB_wr hb).c1
      rw [Nat.mul_one] at h0
      have HST := Lib.hid (mostOf_step hlt)
      clear hrow
      generalize l[k] = x at *
      generalize mostOf (l.take k) = m at *
      rcases Int.lt_or_le m x with hmx | hmx
      · have HN := Lib.hid (show mostOf (l.take (k + 1)) = x by rw [HST.out]; omega)
        go_wp2_with fail
        go_roundw
        case rel => exact ⟨k + 1, by omega, by go_num, by rw [HN.out], HB_wr⟩
        case measure => simp [intOf]; omega
      · have HN := Lib.hid (show mostOf (l.take (k + 1)) = m by rw [HST.out]; omega)
        go_wp2_with fail
        go_roundw
        case rel => exact ⟨k + 1, by omega, by go_num, by rw [HN.out], HB_wr⟩
        case measure => simp [intOf]; omega
    · obtain rfl : k = l.length := by omega
      rw [List.take_length]
      generalize mostOf l = m at *
      go_wp2_with fail
      go_ret
      exact ⟨rfl, HB_wr⟩

/-- a slice of the call's own -/
def IntsO (w : World) (l : List Int) (e : Ending) (w' : World) : Prop := ∃ ao n cap, e = .returned (.slice ao n cap) ∧ Sl w' 1 cI ao n cap l ∧ Below w.heap.size w w'

set_option maxRecDepth 100000 in
set_option maxHeartbeats 1000000 in
theorem each_any (ao : Option Addr) (n cap : Nat) (l : List Clk) (g : Nat) (lb : Array Value) (F : Clk → Int) (w : World) (hs : Sl w 4 cC ao n cap l) (hn : l.length ≤ 100)
    (hF : ∀ W c, Below w.heap.size w W → c ∈ l → Calls Tryz.prog g (#[eC c] ++ lb) W (Ret W (.int .i64 (F c)))) (eg : ∀ args w, (callFunc g args).run Tryz.prog w = .ok (.enter g args) w) :
    Calls Tryz.prog 22 #[.slice ao n cap, .func (.func g) #[] lb] w (IntsO w (l.map F)) := by
  obtain rfl := hs.len
  have hcap := hs.max
  have hle := hs.le
  unfold maxLen at hcap
  have HS := Lib.hid hs
  have HF := Lib.hid hF
  clear hs hF
  go_enter Tryz.func22, Tryz.ntmps22
  go_wp2_with fail
  go_loopw [5, 10] (fun o i wr => ∃ k : Nat, k ≤ l.length ∧ i = .int .i64 k ∧ Below w.heap.size w wr ∧ Hid (OwnL wr w.heap.size 3 1 cI o ((l.take k).map F))) (fun _ i _ => l.length - (intOf i).toNat)
  case atStart => exact ⟨0, by omega, rfl, Below.refl _ _, OwnL.nil⟩
  case round =>
    obtain ⟨k, hk, rfl, HB_wr, HO⟩ := hrel
    by_cases hlt : k < l.length
    · have HN := Lib.hid (show (l.take (k + 1)).map F = (l.take k).map F ++ [F l[k]] by rw [List.take_add_one, List.getElem?_eq_getElem hlt, List.map_append]; rfl)
      have hl : ((l.take k).map F).length ≤ 100 := by simp; omega
      have HC := Lib.hid (fun W hW => HF.out W l[k] hW (List.getElem_mem hlt))
      obtain ⟨b, off, rfl, hb, hrow⟩ := HS.out.get hlt
      obtain ⟨e_0, e_1, e_2, e_3⟩ := ((hrow k hlt).below HB_wr hb).c4
      clear hrow
      generalize (l.take k).map F = ys at *
      generalize hx : l[k] = c at *
      clear hx
      obtain ⟨c0, c1, c2, c3⟩ := c
      dsimp only at e_0 e_1 e_2 e_3
      generalize F ⟨c0, c1, c2, c3⟩ = m0 at *
      go_wp2_with fail
      refine (HC.out _ (grew1 HB_wr)).mono ?_
      rintro e w5 ⟨rfl, hb5⟩
      have HB_w5 : Below w.heap.size w w5 := after1 HB_wr hb5
      have HO5 := Lib.hid ((HO.out.alloc (.cells #[.int .i64 c0, .int .i64 c1, .int .i64 c2, .int .i64 c3] 27)).below hb5)
      clear hb5 e_0 e_1 e_2 e_3
      obtain ⟨i0, hi, hz0, hz1, hz2⟩ := info_parts info_int
      have HOX := Lib.hid (HO5.out.alloc (.cells #[.int .i64 m0] 3))
      have HSX := Lib.hid (Sl.one (x := m0) cI_len (Box.new w5 (cI m0) 3))
      have hsz : w.heap.size ≤ (w5.alloc (.cells #[.int .i64 m0] 3)).heap.size := Nat.le_trans HB_w5.size (by simp)
      go_wp2_with (at_builtin; refine wpList_append_sl rfl _ _ 48 rfl w.heap.size 3 i0 _ 1 8 Tryz.underlying48 hi hz0 hz1 hz2 rfl (by decide) cI_len cI_one _ ys rfl HOX.out (some ⟨w5.heap.size, 0, none⟩) 1 1 [m0] rfl HSX.out (by unfold maxLen; omega) (by omega) hsz ?_)
      rintro v' w6 ho6 hg6 _
      have HB_w6 : Below w.heap.size w w6 := (grew1 HB_w5).trans (hg6 _ (Nat.le_refl _))
      have HO6 := Lib.hid ho6
      clear ho6 hg6 hi hz0 hz1 hz2
      go_wp2_with fail
      go_roundw
      case rel => exact ⟨k + 1, by omega, by go_num, HB_w6, by show OwnL _ _ _ _ _ _ _; rw [HN.out]; exact HO6.out⟩
      case measure => simp [intOf]; omega
    · obtain rfl : k = l.length := by omega
      rw [List.take_length] at HO
      obtain ⟨ao', cap', rfl, hsl⟩ := HO.out.sl cI_len
      have HSO := Lib.hid hsl
      clear hsl
      go_wp2_with fail
      go_ret
      exact ⟨ao', _, cap', rfl, HSO.out, HB_wr⟩
theorem free1c_any (c : Clk) (w : World) : Calls Tryz.prog 17 #[eC c] w (Ret w (.bool (!okC c))) := by
  obtain ⟨a, b, d, e⟩ := c
  generalize hv : okC ⟨a, b, d, e⟩ = v
  have HC := Lib.hid (fun W => (show Calls Tryz.prog 18 #[eC ⟨a, b, d, e⟩] W (Ret W (.bool v)) from by have := cvalid_any ⟨a, b, d, e⟩ W; rwa [hv] at this))
  obtain ⟨W0, hW0, HB_W0, hZ, hn⟩ := boxes1 w [.int .i64 a, .int .i64 b, .int .i64 d, .int .i64 e] 27
  have H_c := Lib.hid hn
  clear hn hZ hv
  obtain ⟨q_c_0, q_c_1, q_c_2, q_c_3⟩ := H_c.out.c4
  go_enter Tryz.func17, Tryz.ntmps17
  go_wp2_with fail
  refine (HC.out _).mono ?_
  rintro e wa ⟨rfl, hb_wa⟩
  have HB_wa : Below w.heap.size w wa := by first | exact after0 HB_W0 hb_wa | exact after1 HB_W0 hb_wa | exact after2 HB_W0 hb_wa | exact after3 HB_W0 hb_wa | exact after4 HB_W0 hb_wa | exact after5 HB_W0 hb_wa
  clear hW0
  go_wp2_with fail
  go_ret
  exact ⟨rfl, HB_wa⟩

theorem free2c_any (c : Clk) (u k : Int) (NU NK TU TK : Nat) (w : World) (h : okC c = true) (hk : kept u k = true) (h1 : Box w NU TU [.int .i64 u]) (h2 : Box w NK TK [.int .i64 k]) :
    Calls Tryz.prog 23 #[eC c, .pointer (some ⟨NU, 0, none⟩), .pointer (some ⟨NK, 0, none⟩)] w (Ret w (.int .i64 (freeC c (u + k)))) := by
  have HC := Lib.hid (fun W => freec_any c u k W h hk)
  generalize freeC c (u + k) = v at *
  obtain ⟨a, b, d, e⟩ := c
  obtain ⟨W0, hW0, HB_W0, hZ, hn⟩ := boxes1 w [.int .i64 a, .int .i64 b, .int .i64 d, .int .i64 e] 27
  have H_c := Lib.hid hn
  have H_u := Lib.hid (h1.below HB_W0)
  have H_k := Lib.hid (h2.below HB_W0)
  clear hn hZ h hk h1 h2
  obtain ⟨q_c_0, q_c_1, q_c_2, q_c_3⟩ := H_c.out.c4
  have q_u_0 := H_u.out.c1
  have q_k_0 := H_k.out.c1
  go_enter Tryz.func23, Tryz.ntmps23
  go_wp2_with fail
  refine (HC.out _).mono ?_
  rintro e wa ⟨rfl, hb_wa⟩
  have HB_wa : Below w.heap.size w wa := by first | exact after0 HB_W0 hb_wa | exact after1 HB_W0 hb_wa | exact after2 HB_W0 hb_wa | exact after3 HB_W0 hb_wa | exact after4 HB_W0 hb_wa | exact after5 HB_W0 hb_wa
  clear hW0
  go_wp2_with fail
  go_ret
  exact ⟨rfl, HB_wa⟩

theorem freeF_bad {u k : Int} {cs : List Clk} (h : kept u k = false ∨ 8 < cs.length ∨ cs.any (fun c => !okC c) = true) : freeF u k cs = (0, 1) := by
  unfold freeF
  rw [if_neg]
  rcases h with h | h | h
  · simp [h]
  · simp; omega
  · simp only [Bool.and_eq_true, List.all_eq_true, not_and]
    intro _ hall
    obtain ⟨c, hc, hn⟩ := List.any_eq_true.1 h
    rw [hall c hc] at hn
    cases hn
theorem freeF_val {u k : Int} {cs : List Clk} (h1 : kept u k = true) (h2 : cs.length ≤ 8) (h3 : cs.any (fun c => !okC c) = false) : (∀ c ∈ cs, okC c = true) ∧ freeF u k cs = if 10000000 < mostOf (cs.map fun c => freeC c (u + k)) then (0, 4) else (mostOf (cs.map fun c => freeC c (u + k)), 0) := by
  have hall : ∀ c ∈ cs, okC c = true := by
    intro c hc
    have := List.any_eq_false.1 h3 c hc
    simpa using this
  refine ⟨hall, ?_⟩
  unfold freeF
  rw [if_pos]
  simp only [Bool.and_eq_true, decide_eq_true_eq, List.all_eq_true]
  exact ⟨⟨h1, h2⟩, hall⟩
theorem ret_pair {k k' : IntKind} {a b : Int} {p : Int × Int} (h : p = (a, b)) : Ending.returned (.tuple #[.int k a, .int k' b]) = .returned (.tuple #[.int k p.1, .int k' p.2]) := by rw [h]
abbrev eI (p : Int × Int) : Value := .tuple #[.int .i64 p.1, .int .i64 p.2]

set_option maxRecDepth 100000 in
set_option maxHeartbeats 4000000 in
theorem Free_any (u k : Int) (ao : Option Addr) (n cap : Nat) (l : List Clk) (w : World) (hs : Sl w 4 cC ao n cap l) : Calls Tryz.prog 6 #[.int .i64 u, .int .i64 k, .slice ao n cap] w (Ret w (eI (freeF u k l))) := by
  obtain rfl := hs.len
  have hcap := hs.max
  have hle := hs.le
  unfold maxLen at hcap
  have HBAD := Lib.hid (@freeF_bad u k l)
  have HVAL := Lib.hid (@freeF_val u k l)
  have HK := Lib.hid (fun W => kept_any u k W)
  generalize freeF u k l = p at *
  obtain ⟨W0, hW0, HB_W0, hZ, hu, hk⟩ := boxes2 w [.int .i64 u] [.int .i64 k] 3 3
  have H_u := Lib.hid hu
  have H_k := Lib.hid hk
  have HS := Lib.hid (hs.below HB_W0)
  clear hs hu hk hZ
  have q_u_0 := H_u.out.c1
  have q_k_0 := H_k.out.c1
  go_enter Tryz.func6, Tryz.ntmps6
  go_wp2_with fail
  refine (HK.out _).mono ?_
  rintro e wa ⟨rfl, hb_wa⟩
  have HB_wa : Below w.heap.size w wa := by first | exact after0 HB_W0 hb_wa | exact after1 HB_W0 hb_wa | exact after2 HB_W0 hb_wa | exact after3 HB_W0 hb_wa | exact after4 HB_W0 hb_wa | exact after5 HB_W0 hb_wa
  try clear q_u_0
  have H_u := Lib.hid (Box.below (by first | exact H_u.out | exact H_u.out.alloc _ | exact (H_u.out.alloc _).alloc _ | exact ((H_u.out.alloc _).alloc _).alloc _) hb_wa)
  have q_u_0 := H_u.out.c1
  try clear q_k_0
  have H_k := Lib.hid (Box.below (by first | exact H_k.out | exact H_k.out.alloc _ | exact (H_k.out.alloc _).alloc _ | exact ((H_k.out.alloc _).alloc _).alloc _) hb_wa)
  have q_k_0 := H_k.out.c1
  replace HS := Lib.hid (show Sl wa _ _ _ _ _ _ by first | exact HS.out.below hb_wa | exact (HS.out.below (grew1 (Below.refl _ _))).below hb_wa | exact (HS.out.below (grew2 (Below.refl _ _))).below hb_wa | exact (HS.out.below (grew3 (Below.refl _ _))).below hb_wa)
  clear hW0
  cases h1 : kept u k
  · have HP := Lib.hid (HBAD.out (.inl h1))
    clear h1
    go_wp2_with fail
    go_ret2
    exact ⟨ret_pair HP.out, HB_wa⟩
  by_cases h2 : 8 < l.length
  · have HP := Lib.hid (HBAD.out (.inr (.inl h2)))
    have h2i : 8 < (l.length : Int) := by omega
    clear h1
    go_wp2_with fail
    all_goals try (exfalso; omega)
    go_ret2
    exact ⟨ret_pair HP.out, HB_wa⟩
  replace h2 := Nat.not_lt.1 h2
  have HKP := Lib.hid h1
  clear h1
  have h2i : (l.length : Int) ≤ 8 := by omega
  go_wp2_with fail
  refine (containsC_any ao l.length cap l 17 #[] (fun c => !okC c) _ HS.out (fun W c _ _ => free1c_any c W) (by intro args w; kernel_rfl)).mono ?_
  rintro e wb ⟨rfl, hb_wb⟩
  have HB_wb : Below w.heap.size w wb := by first | exact after0 HB_wa hb_wb | exact after1 HB_wa hb_wb | exact after2 HB_wa hb_wb | exact after3 HB_wa hb_wb | exact after4 HB_wa hb_wb | exact after5 HB_wa hb_wb
  try clear q_u_0
  have H_u := Lib.hid (Box.below (by first | exact H_u.out | exact H_u.out.alloc _ | exact (H_u.out.alloc _).alloc _ | exact ((H_u.out.alloc _).alloc _).alloc _) hb_wb)
  have q_u_0 := H_u.out.c1
  try clear q_k_0
  have H_k := Lib.hid (Box.below (by first | exact H_k.out | exact H_k.out.alloc _ | exact (H_k.out.alloc _).alloc _ | exact ((H_k.out.alloc _).alloc _).alloc _) hb_wb)
  have q_k_0 := H_k.out.c1
  replace HS := Lib.hid (show Sl wb _ _ _ _ _ _ by first | exact HS.out.below hb_wb | exact (HS.out.below (grew1 (Below.refl _ _))).below hb_wb | exact (HS.out.below (grew2 (Below.refl _ _))).below hb_wb | exact (HS.out.below (grew3 (Below.refl _ _))).below hb_wb)
  cases h3 : l.any (fun c => !okC c)
  case true =>
    have HP := Lib.hid (HBAD.out (.inr (.inr h3)))
    clear h3
    go_wp2_with fail
    go_ret2
    exact ⟨ret_pair HP.out, HB_wb⟩
  obtain ⟨hall, hv⟩ := HVAL.out HKP.out h2 h3
  have HALL := Lib.hid hall
  have HV := Lib.hid hv
  clear hall hv h3 HVAL HBAD HK
  have HE := Lib.hid (show Calls Tryz.prog 22 #[.slice ao l.length cap, .func (.func 23) #[] #[.pointer (some ⟨w.heap.size, 0, none⟩), .pointer (some ⟨w.heap.size + 1, 0, none⟩)]] wb (IntsO wb (l.map fun c => freeC c (u + k))) from
    each_any ao l.length cap l 23 _ (fun c => freeC c (u + k)) wb HS.out (by omega) (fun W c hW hc => free2c_any c u k _ _ _ _ W (HALL.out c hc) HKP.out (H_u.out.below hW) (H_k.out.below hW)) (by intro args w; kernel_rfl))
  generalize (l.map fun c => freeC c (u + k)) = m at *
  go_wp2_with fail
  refine HE.out.mono ?_
  rintro e wc ⟨ao2, n2, cap2, rfl, hm, hb_wc⟩
  have HB_wc := after0 HB_wb hb_wc
  have HM := Lib.hid hm
  clear hm hb_wc q_u_0 q_k_0 HE
  go_wp2_with fail
  refine (most_any ao2 n2 cap2 m _ HM.out).mono ?_
  rintro e wd ⟨rfl, hb_wd⟩
  have HB_wd : Below w.heap.size w wd := by first | exact after0 HB_wc hb_wd | exact after1 HB_wc hb_wd | exact after2 HB_wc hb_wd | exact after3 HB_wc hb_wd | exact after4 HB_wc hb_wd | exact after5 HB_wc hb_wd
  generalize mostOf m = t at *
  by_cases h4 : 10000000 < t
  · have HP := Lib.hid (HV.out.trans (if_pos h4))
    go_wp2_with fail
    go_ret2
    exact ⟨ret_pair HP.out, HB_wd⟩
  · have HP := Lib.hid (HV.out.trans (if_neg h4))
    replace h4 := Int.not_lt.1 h4
    go_wp2_with fail
    go_ret2
    exact ⟨ret_pair HP.out, HB_wd⟩

theorem holds_bad {c : Clk} {u k t : Int} (h : kept u k = false) : holds c u k t = (0, 1) := by unfold holds; rw [if_neg (by simp [h])]
theorem holds_v {c : Clk} {u k t x y q : Int} (h : kept u k = true) (hs : shows c t = ((x, y), q)) : holds c u k t = if q ≠ 0 then (0, q) else if y ≤ u + k then (1, 0) else if u + k < x then (-1, 0) else (0, 0) := by unfold holds; rw [if_pos h, hs]

set_option maxRecDepth 100000 in
set_option maxHeartbeats 4000000 in
theorem Holds_any (c : Clk) (u k t : Int) (w : World) : Calls Tryz.prog 8 #[eC c, .int .i64 u, .int .i64 k, .int .i64 t] w (Ret w (eI (holds c u k t))) := by
  have HC := Lib.hid (fun W => shows_any c t W)
  have HBAD := Lib.hid (@holds_bad c u k t)
  obtain ⟨⟨⟨x, y⟩, q⟩, hs⟩ : ∃ s, shows c t = s := ⟨_, rfl⟩
  have HV := Lib.hid (fun h => @holds_v c u k t x y q h hs)
  rw [hs] at HC
  clear hs
  generalize holds c u k t = p at *
  obtain ⟨a, b, d, e⟩ := c
  obtain ⟨W0, hW0, HB_W0, hZ, hn⟩ := boxes1 w [.int .i64 a, .int .i64 b, .int .i64 d, .int .i64 e] 27
  have H_c := Lib.hid hn
  clear hn hZ
  obtain ⟨q_c_0, q_c_1, q_c_2, q_c_3⟩ := H_c.out.c4
  go_enter Tryz.func8, Tryz.ntmps8
  go_wp2_with fail
  refine (kept_any _ _ _).mono ?_
  rintro e wa ⟨rfl, hb_wa⟩
  have HB_wa : Below w.heap.size w wa := by first | exact after0 HB_W0 hb_wa | exact after1 HB_W0 hb_wa | exact after2 HB_W0 hb_wa | exact after3 HB_W0 hb_wa | exact after4 HB_W0 hb_wa | exact after5 HB_W0 hb_wa
  try clear q_c_0 q_c_1 q_c_2 q_c_3
  have H_c := Lib.hid (Box.below (by first | exact H_c.out | exact H_c.out.alloc _ | exact (H_c.out.alloc _).alloc _ | exact ((H_c.out.alloc _).alloc _).alloc _) hb_wa)
  obtain ⟨q_c_0, q_c_1, q_c_2, q_c_3⟩ := H_c.out.c4
  clear hW0
  cases h1 : kept u k
  · have HP := Lib.hid (HBAD.out h1)
    clear h1
    go_wp2_with fail
    go_ret2
    exact ⟨ret_pair HP.out, HB_wa⟩
  have HP := Lib.hid (HV.out h1)
  have hk := kept_iff.1 h1
  obtain ⟨k1, k2, k3, k4⟩ := hk
  clear h1 HV HBAD
  go_wp2_with fail
  refine (HC.out _).mono ?_
  rintro e wb ⟨rfl, hb_wb⟩
  have HB_wb : Below w.heap.size w wb := by first | exact after0 HB_wa hb_wb | exact after1 HB_wa hb_wb | exact after2 HB_wa hb_wb | exact after3 HB_wa hb_wb | exact after4 HB_wa hb_wb | exact after5 HB_wa hb_wb
  clear q_c_0 q_c_1 q_c_2 q_c_3
  obtain ⟨W1, hW1, hB1, hZ1, hb1⟩ := boxes1 wb [.int .i64 x, .int .i64 y] 25
  have H_s := Lib.hid hb1
  have HB_W1 : Below w.heap.size w W1 := after0 HB_wb hB1
  clear hb1 hZ1 hB1
  obtain ⟨q_s_0, q_s_1⟩ := H_s.out.c2
  by_cases hq : q = 0
  case neg =>
    have HP2 := Lib.hid (HP.out.trans (if_pos hq))
    have hq1 : (q != 0) = true := bne_iff_ne.2 hq
    clear hq
    go_wp2_with fail
    go_ret2
    exact ⟨ret_pair HP2.out, HB_W1⟩
  subst hq
  have HP2 := Lib.hid (HP.out.trans (if_neg (by simp)))
  by_cases h2 : y ≤ u + k
  · have HP3 := Lib.hid (HP2.out.trans (if_pos h2))
    go_wp2_with fail
    go_ret2
    exact ⟨ret_pair HP3.out, HB_W1⟩
  have HP3 := Lib.hid (HP2.out.trans (if_neg h2))
  replace h2 := Int.not_le.1 h2
  by_cases h3 : u + k < x
  · have HP4 := Lib.hid (HP3.out.trans (if_pos h3))
    go_wp2_with fail
    go_ret2
    exact ⟨ret_pair HP4.out, HB_W1⟩
  · have HP4 := Lib.hid (HP3.out.trans (if_neg h3))
    replace h3 := Int.not_lt.1 h3
    go_wp2_with fail
    go_ret2
    exact ⟨ret_pair HP4.out, HB_W1⟩
end Go.Proofs.YtpdecgbfnhaojaaGreat
