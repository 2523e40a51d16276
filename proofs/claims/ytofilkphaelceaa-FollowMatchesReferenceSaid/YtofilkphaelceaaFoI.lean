/-
  Walks of the layer 'follow': what a sequence yields, collected; Ready.
-/
import Derived.Test.YtofilkphaelceaaFoH
import Derived.Test.YtofilkphaelceaaAppIn
set_option linter.unusedVariables false
namespace Go.Proofs.Ytofilkphaelceaa
open Go Go.RowKit Fo Sk Go.Sort Go.Shelf
attribute [local go_sem] Oper.semAt_some

set_option maxRecDepth 100000 in
set_option maxHeartbeats 4000000 in
theorem appendSeq_any (g : Nat) (lb : Array Value) (S Sp : List Int → Prop) (n1 : Nat) (w : World) (hn1 : n1 ≤ w.heap.size) (hseq : SeqStopsK Fence.wide 9 Try.prog g lb eX (Below n1) S Sp 200 w) (eg : ∀ args w, (callFunc g args).run Try.prog w = .ok (.enter g args) w) :
    Calls Try.prog 53 #[.slice none 0 0, .func (.func g) #[] lb] w (fun e w' => ∃ xs v, S xs ∧ e = .returned v ∧ OwnL w' w.heap.size 3 1 cI v xs ∧ Below w.heap.size w w') := by
  have HSEQ := Lib.hid hseq
  obtain ⟨W0, hW0, HB_W0, hZ, hb⟩ := boxes1 w [.slice none 0 0] 23
  obtain ⟨R, hR⟩ : ∃ R, w.heap.size = R := ⟨_, rfl⟩
  rw [hR] at hb hZ
  have H_b := Lib.hid hb
  have HRW := Lib.hid hR
  have HZ := Lib.hid hZ
  have HN1 := Lib.hid (show n1 ≤ R by omega)
  clear hb hseq hZ hn1
  refine (callsIn_wide (n := 10)).1 (callsIn_of_wp_marks Try.func53 rfl trivial (wpIn_wide.2 ?_) rfl)
  simp only [Try.ntmps53, List.size_toArray, List.length_cons, List.length_nil, Nat.reduceAdd, Nat.reduceSub, Array.replicate_succ, Array.replicate_zero, List.push_toArray, List.append_toArray, List.nil_append, List.cons_append]
  go_wp2_with fail
  clear hW0 hR
  refine (wpIn_wide (n := 10)).1 ?_
  refine wpIn_rangeFunc_ownG rfl (by omega) (gf := g) (lb := lb) rfl trivial eg HSEQ.out belowK_t
    (belowK_b (by have := HN1.out; have := HZ.out; omega)) HB_W0 (fun _ => rfl)
    (fun pre W => ∃ v, Box W R 23 [v] ∧ OwnL W (R + 1) 3 1 cI v pre ∧ Below w.heap.size w W ∧ R + 1 ≤ W.heap.size)
    (fun _ _ _ => False)
    (fun s X Y row hs hg hr => by
      obtain ⟨v, b1, o1, hb, hz⟩ := hs
      exact ⟨v, box_own _ R _ (fun (_ : Unit) => _) () X Y row b1 hg hr, o1.grown hg (fun r h => (hr r h).2), ownFrom_below (β := Unit) (Nat.le_refl _) HB_W0.size () X Y row hb hg hr, Nat.le_trans hz hg.size⟩)
    (fun _ _ _ _ _ hs _ _ => hs)
    ⟨_, H_b.out, OwnL.nil, HB_W0, by have := HZ.out; omega⟩
    (fun x => { tmps := #[.slice none 0 0, .func (.func g) #[] lb, .pointer (some ⟨R, 0, none⟩), undef, .slice none 0 0, .int .i64 x, .func (.func g) #[] lb, .int .i64 x, undef, undef, undef, undef, undef], defers := [] })
    ?assign ?body ?done ?stop
  case assign =>
    intro l' x W K hK
    dsimp only [eX]
    gi_wp2
    simpa using hK
  case body =>
    rintro l' pre x W ⟨v, b1, o1, hb, hz⟩ hlt
    have r0 := b1.c1
    obtain ⟨i0, hi, hz0, hz1, hz2⟩ := info_parts info_int
    have HOX := Lib.hid (o1.alloc (.cells #[.int .i64 x] 3))
    have HSX := Lib.hid (Sl.one (x := x) cI_len (Box.new W (cI x) 3))
    have hsz : R + 1 ≤ (W.alloc (.cells #[.int .i64 x] 3)).heap.size := by simp; omega
    have HLT := Lib.hid hlt
    have HBO := Lib.hid b1
    have HHB := Lib.hid hb
    have HHZ := Lib.hid hz
    clear b1 o1 hb hz hlt
    gi_wp2_with (gi_at_builtin; refine wpListIn_append_sl rfl _ _ 23 rfl (R + 1) 3 i0 _ 1 8 Try.underlying23 hi hz0 hz1 hz2 rfl (by decide) cI_len cI_one v pre rfl HOX.out ⟨W.heap.size, 0, none⟩ 1 1 [x] rfl HSX.out (by have := HLT.out; unfold maxLen; omega) (by have := HLT.out; omega) hsz ?_)
    rintro v' W3 ho3 hg3 hgr
    obtain ⟨ao3, cap3, rfl, _⟩ := ho3.sl cI_len
    rw [show (pre ++ [x]).length = pre.length + 1 by simp] at ho3 ⊢
    have hROW := HOX.out.row
    have b3 := (HBO.out.alloc (.cells #[.int .i64 x] 3)).grown hgr (fun e => by have := (hROW R e.symm).1; omega)
    have HB3 := Lib.hid b3
    have HG3 := Lib.hid hg3
    have HGR := Lib.hid hgr
    have HO3 := Lib.hid ho3
    have HROW := Lib.hid hROW
    have f3 := b3.frozen
    have c3 := b3.c1
    clear b3 hg3 hgr ho3 hROW r0 hi hz0 hz1 hz2 hsz
    gi_wp2
    have hW := HHZ.out
    have hRW := HRW.out
    have hN1 := HN1.out
    have hb3 : Below (R + 1) (W.alloc (.cells #[.int .i64 x] 3)) W3 := HG3.out _ (Nat.le_refl _)
    refine ⟨(((KeepsOthers.alloc _ _).trans (KeepsOthers.of_grownBy HGR.out (fun j o hj ho => ?_))).trans (KeepsOthers.setCell _ _ _)).from _, ?_, _, HB3.out.set 0 _, ?_, ?_, ?_⟩
    · obtain ⟨_, _, o', ho', hc⟩ := HROW.out j hj
      rw [ho'] at ho; cases ho; exact hc
    · exact ((Below.refl _ W).alloc (by omega) _ |>.trans (hb3.mono (by omega))).setCell (p := ⟨R, 0, none⟩) hN1 _
    · exact HO3.out.setCell (b := R) (j := 0) (by omega)
    · exact ((grew1 HHB.out).trans (hb3.mono (by omega))).setCell (p := ⟨R, 0, none⟩) (by dsimp only; omega) _
    · have := HGR.out.size
      simp [World.size_setCell] at this ⊢
      omega
  case done =>
    rintro D xs W hD hS ⟨v, b1, o1, hb, hz⟩ hK
    have r0 := b1.c1
    have HBO := Lib.hid b1
    have HD : Hid (W.heap[D]? = some (.deferred (some []))) := hK
    have HDR : Hid (W0.heap.size ≤ D) := hD
    have HHB := Lib.hid hb
    have HSS := Lib.hid hS
    clear hK hD b1 hb hz hS
    dsimp only [Exit.inBlock, Exit.then]
    obtain ⟨ao', cap', rfl, hsl⟩ := o1.sl cI_len
    have HOO := Lib.hid o1
    clear o1 hsl
    go_wp2_with fail
    refine marks_ret1 (v := .slice ao' xs.length cap') HD.out rfl (by simp [results, Try.results53, go_sem]) ?_
    have hput := HOO.out.grown (grownBy_putObj' W D (.deferred none)) (fun r e => by cases e; exact ⟨_, HD.out, rfl⟩)
    have h1 := HZ.out
    have h3 := HDR.out
    have h4 := HRW.out
    exact ⟨xs, _, HSS.out, rfl, hput.mono (by omega), HHB.out.trans (belowK_b (w := w) (Nat.le_refl _) W D _ _ (by omega) HD.out rfl rfl)⟩
  case stop =>
    rintro D c pre W hD _ h _
    exact h.elim

theorem collect_any (g : Nat) (lb : Array Value) (S Sp : List Int → Prop) (n1 : Nat) (w : World) (hn1 : n1 ≤ w.heap.size) (hseq : SeqStopsK Fence.wide 9 Try.prog g lb eX (Below n1) S Sp 200 w) (eg : ∀ args w, (callFunc g args).run Try.prog w = .ok (.enter g args) w) :
    Calls Try.prog 41 #[.func (.func g) #[] lb] w (fun e w' => ∃ xs v, S xs ∧ e = .returned v ∧ OwnL w' w.heap.size 3 1 cI v xs ∧ Below w.heap.size w w') := by
  have HA := Lib.hid (appendSeq_any g lb S Sp n1 w hn1 hseq eg)
  clear hseq
  go_enter Try.func41, Try.ntmps41
  go_wp2_with fail
  refine HA.out.mono ?_
  rintro e w2 ⟨xs, v, hS, rfl, ho, hb⟩
  have HO := Lib.hid ho
  have HSS := Lib.hid hS
  clear ho hS
  go_wp2_with fail
  go_ret
  exact ⟨xs, v, HSS.out, rfl, HO.out, hb⟩

theorem ready_mk (ao : Option Addr) (n cap b : Nat) (w : World) : Calls Try.prog 42 #[.slice ao n cap, .map (some b)] w
    (fun e w' => e = .returned (.func (.func 54) #[] #[.pointer (some ⟨w.heap.size, 0, none⟩), .pointer (some ⟨w.heap.size + 1, 0, none⟩)]) ∧ Below w.heap.size w w' ∧ w'.heap.size = w.heap.size + 2 ∧ Box w' w.heap.size 22 [.slice ao n cap] ∧ Box w' (w.heap.size + 1) 52 [.map (some b)]) := by
  obtain ⟨W0, hW0, HB_W0, hZ, h1, h2⟩ := boxes2 w [.slice ao n cap] [.map (some b)] 22 52
  have H1 := Lib.hid h1
  have H2 := Lib.hid h2
  have HZ := Lib.hid hZ
  clear h1 h2 hZ
  go_enter Try.func42, Try.ntmps42
  go_wp2_with fail
  go_ret
  exact ⟨rfl, HB_W0, HZ.out, H1.out, H2.out⟩

theorem readyR_bad {l : List St} {d : List Int} (h : valid l = false ∨ isDone d = false) : readyR l d = ([], 1) := by unfold readyR; rw [if_neg]; rcases h with h | h <;> simp [h]
theorem readyR_ok {l : List St} {d : List Int} (h1 : valid l = true) (h2 : isDone d = true) : readyR l d = (readyF l d, 0) := by unfold readyR; rw [if_pos (by simp [h1, h2])]

set_option maxRecDepth 100000 in
set_option maxHeartbeats 4000000 in
theorem Ready_any (ao : Option Addr) (n cap : Nat) (l : List St) (bo : Option Addr) (m capb : Nat) (d : List Int) (w : World) (hs : SlS w ao n cap l) (hd : Sl w 1 cI bo m capb d) :
    Calls Try.prog 15 #[.slice ao n cap, .slice bo m capb] w (IntsE w (readyR l d)) := by
  have HS := Lib.hid hs
  have HD := Lib.hid hd
  have HB_w : Below w.heap.size w w := Below.refl _ _
  have HBAD := Lib.hid (@readyR_bad l d)
  have HOK := Lib.hid (@readyR_ok l d)
  clear hs hd
  generalize readyR l d = p at *
  go_enter Try.func15, Try.ntmps15
  go_wp2_with fail
  refine (Valid_any _ _ _ l _ HS.out).mono ?_
  rintro e wa ⟨rfl, hb_wa⟩
  have HB_wa : Below w.heap.size w wa := by first | exact after0 HB_w hb_wa | exact after1 HB_w hb_wa | exact after2 HB_w hb_wa | exact after3 HB_w hb_wa | exact after4 HB_w hb_wa | exact after5 HB_w hb_wa
  replace HS := Lib.hid (HS.out.below hb_wa)
  replace HD := Lib.hid (HD.out.below hb_wa)
  cases h1 : valid l
  · have HP := Lib.hid (HBAD.out (.inl h1))
    clear h1
    go_wp2_with fail
    go_ret2
    exact ⟨none, 0, 0, by rw [HP.out]; rfl, by rw [HP.out]; exact Sl.nil, HB_wa⟩
  have HV := Lib.hid (vok h1)
  replace HOK := Lib.hid (HOK.out h1)
  clear h1
  go_wp2_with fail
  refine (isDone_any _ _ _ d _ HD.out).mono ?_
  rintro e wb ⟨rfl, hb_wb⟩
  have HB_wb : Below w.heap.size w wb := by first | exact after0 HB_wa hb_wb | exact after1 HB_wa hb_wb | exact after2 HB_wa hb_wb | exact after3 HB_wa hb_wb | exact after4 HB_wa hb_wb | exact after5 HB_wa hb_wb
  replace HS := Lib.hid (HS.out.below hb_wb)
  replace HD := Lib.hid (HD.out.below hb_wb)
  cases h2 : isDone d
  · have HP := Lib.hid (HBAD.out (.inr h2))
    clear h2
    go_wp2_with fail
    go_ret2
    exact ⟨none, 0, 0, by rw [HP.out]; rfl, by rw [HP.out]; exact Sl.nil, HB_wb⟩
  have hdn := isDone_iff.1 h2
  have HP := Lib.hid (HOK.out h2)
  have H64 := Lib.hid (show ∀ a ∈ d, I64 a from fun a ha => by have := hdn.2.2 a ha; exact i64_of (by omega) (by omega))
  clear h2 hdn HBAD HOK
  go_wp2_with fail
  refine (newSet_any _ _ _ d _ HD.out H64.out).mono ?_
  rintro e wc ⟨mb, rfl, hmb, hset, hb_wc⟩
  have HB_wc := after0 HB_wb hb_wc
  replace HS := Lib.hid (HS.out.below hb_wc)
  have HSET := Lib.hid hset
  clear hset hb_wc HD H64
  go_wp2_with fail
  refine (ready_mk _ _ _ _ _).mono ?_
  rintro e wd ⟨rfl, hb_wd, hsz, hx1, hx2⟩
  have HB_wd := after0 HB_wc hb_wd
  replace HS := Lib.hid (HS.out.below hb_wd)
  replace HSET := Lib.hid (HSET.out.below hb_wd)
  have hml := HSET.out.lt
  have HSTOP := Lib.hid (show SeqStopsK Fence.wide 9 Try.prog 54 #[.pointer (some ⟨wc.heap.size, 0, none⟩), .pointer (some ⟨wc.heap.size + 1, 0, none⟩)] eX (Below wd.heap.size) (fun ys => ys = readyF l d) (fun pre => pre <+: readyF l d) 200 wd from
    fun lid J Jx W hW hJ _ hY h0 => ready1_wide lid wc.heap.size (wc.heap.size + 1) _ _ wd.heap.size mb d.length ao n cap l d J Jx W hJ hY (hx1.below hW) (hx2.below hW)
      (fun W' hW' => (HSET.out.below hW).low hW' hml) (fun W' hW' => HS.out.below (hW.trans hW')) HV.out.len (fun s hs => by have := HV.out.num s hs; exact i64_of (by omega) (by omega)) ⟨by omega, by omega, hW.size⟩ h0)
  clear hx1 hx2 hsz hb_wd
  go_wp2_with fail
  refine (collect_any 54 _ _ _ _ _ (Nat.le_refl _) HSTOP.out (by intro args w; kernel_rfl)).mono ?_
  rintro e we ⟨xs, v, rfl, rfl, ho, hb_we⟩
  have HB_we := after0 HB_wd hb_we
  obtain ⟨vo, vc, rfl, hss⟩ := ho.sl cI_len
  have HSS := Lib.hid hss
  clear ho hss hb_we
  go_wp2_with fail
  go_ret2
  exact ⟨vo, _, vc, by rw [HP.out]; rfl, by rw [HP.out]; exact HSS.out, HB_we⟩
end Go.Proofs.Ytofilkphaelceaa
