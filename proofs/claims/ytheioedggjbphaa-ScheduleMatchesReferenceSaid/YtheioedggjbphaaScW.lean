/-
  Walks of the layer 'schedule': Admit.
-/
import Derived.RangeFuncCalls
import Derived.Test.YtheioedggjbphaaScV
import Derived.Test.YtheioedggjbphaaScX
import Derived.Test.YtheioedggjbphaaRput
import Derived.Test.YtheioedggjbphaaMixIn
set_option linter.unusedVariables false
namespace Sc
def srtN (q : List Nat) : List Nat := q.mergeSort fun x y => decide (x ≤ y)
theorem srtN_mem {l : List Nat} {x : Nat} : x ∈ srtN l ↔ x ∈ l := (List.mergeSort_perm l _).mem_iff
theorem srtN_len (l : List Nat) : (srtN l).length = l.length := (List.mergeSort_perm l _).length_eq
theorem srtN_sorted (l : List Nat) : (srtN l).Pairwise (· ≤ ·) := by
  have := List.pairwise_mergeSort (le := fun x y : Nat => decide (x ≤ y)) (fun a b c h1 h2 => by simp at *; omega) (fun a b => by simp; omega) l
  exact this.imp (fun h => by simpa using h)
def srtI (l : List Int) : List Int := l.mergeSort fun x y => decide (x ≤ y)
theorem srtI_sorted (l : List Int) : (srtI l).Pairwise (· ≤ ·) := by
  have := List.pairwise_mergeSort (le := fun x y : Int => decide (x ≤ y)) (fun a b c h1 h2 => by simp at *; omega) (fun a b => by simp; omega) l
  exact this.imp (fun h => by simpa using h)
theorem srtI_nat (l : List Nat) : srtI (l.map Int.ofNat) = (srtN l).map Int.ofNat := by
  have h1 : (srtI (l.map Int.ofNat)).Perm ((srtN l).map Int.ofNat) := (List.mergeSort_perm _ _).trans ((List.mergeSort_perm l _).symm.map _)
  refine List.Perm.eq_of_pairwise (le := fun x y : Int => x ≤ y) (fun a b _ _ h1 h2 => by omega) (srtI_sorted _) ?_ h1
  rw [List.pairwise_map]
  exact (srtN_sorted l).imp (fun h => Int.ofNat_le.2 h)
/-- the jobs with some indices -/
def pickJ (J : List Jb) (q : List Nat) : List Jb := q.map (jat J)
/-- whether all are in time if they alone are sent -/
def fits (J : List Jb) (f : Int) (q : List Nat) : Bool := (lateF (pickJ J q) (planF (pickJ J q) f)).isEmpty
def admI (J : List Jb) (f : Int) (a : List Nat) (i : Nat) : List Nat := if fits J f (srtN (a ++ [i])) then srtN (a ++ [i]) else a
def admF (J : List Jb) (f : Int) (q : List Nat) : List Nat := q.foldl (admI J f) []
theorem admF_snoc (J : List Jb) (f : Int) (q : List Nat) (i : Nat) : admF J f (q ++ [i]) = admI J f (admF J f q) i := by unfold admF; rw [List.foldl_append]; rfl
theorem admI_mem {J : List Jb} {f : Int} {a : List Nat} {i x : Nat} (h : x ∈ admI J f a i) : x ∈ a ∨ x = i := by
  unfold admI at h
  split at h
  · rw [srtN_mem] at h; simpa using h
  · exact .inl h
theorem admI_len (J : List Jb) (f : Int) (a : List Nat) (i : Nat) : (admI J f a i).length ≤ a.length + 1 := by
  unfold admI
  split
  · rw [srtN_len]; simp
  · omega
theorem foldl_snoc {α : Type} {C : List α → Prop} (h0 : C []) (h1 : ∀ q x, C q → C (q ++ [x])) (q : List α) : C q := by
  suffices ∀ p q : List α, C p → C (p ++ q) by simpa using this [] q h0
  intro p q
  induction q generalizing p with
  | nil => intro h; simpa using h
  | cons x q ih => intro h; have := ih (p ++ [x]) (h1 p x h); simpa using this
theorem admF_mem {J : List Jb} {f : Int} {q : List Nat} : ∀ x ∈ admF J f q, x ∈ q := by
  induction q using foldl_snoc with
  | h0 => intro x h; cases h
  | h1 q i ih =>
    intro x h
    rw [admF_snoc] at h
    rw [List.mem_append, List.mem_singleton]
    exact (admI_mem h).imp (ih x) id
theorem admF_len (J : List Jb) (f : Int) (q : List Nat) : (admF J f q).length ≤ q.length := by
  induction q using foldl_snoc with
  | h0 => exact Nat.le_refl _
  | h1 q i ih =>
    rw [admF_snoc, List.length_append]
    have := admI_len J f (admF J f q) i
    simp only [List.length_singleton]
    omega
theorem pickJ_valid {J : List Jb} {q : List Nat} (hv : ∀ j ∈ J, jobB j = true) (hq : ∀ x ∈ q, x < J.length) (hl : q.length ≤ 100) : validJ (pickJ J q) = true := by
  refine validJ_iff.2 ⟨by unfold pickJ; simpa using hl, fun j hj => ?_⟩
  obtain ⟨x, hx, rfl⟩ := List.mem_map.1 hj
  rw [jat_get (hq x hx)]
  exact hv _ (List.getElem_mem _)
/-- what Admit returns -/
def AdmSp (J : List Jb) (f : Int) (L : List Int) (er : Int) : Prop := if validJ J = true ∧ slotB f = true then er = 0 ∧ ∃ q, AskL J q ∧ L = (admF J f q).map Int.ofNat else L = [] ∧ er = 1
theorem adm_bad {J : List Jb} {f : Int} (h : validJ J = false ∨ slotB f = false) : AdmSp J f [] 1 := by unfold AdmSp; rw [if_neg (by rintro ⟨h1, h2⟩; rcases h with h | h <;> simp_all)]; exact ⟨rfl, rfl⟩
theorem adm_ok {J : List Jb} {f : Int} (h1 : validJ J = true) (h2 : slotB f = true) {q : List Nat} (h : AskL J q) : AdmSp J f ((admF J f q).map Int.ofNat) 0 := by unfold AdmSp; rw [if_pos ⟨h1, h2⟩]; exact ⟨rfl, q, h, rfl⟩
theorem ask_lt {J : List Jb} {q : List Nat} (h : AskL J q) : ∀ x ∈ q, x < J.length := fun x hx => List.mem_range.1 (h.1.mem_iff.1 hx)
theorem ask_len {J : List Jb} {q : List Nat} (h : AskL J q) : q.length = J.length := by rw [h.1.length_eq, List.length_range]
end Sc
namespace Go.Proofs.Ytheioedggjbphaa
open Go Go.RowKit Sc Sk Go.Sort Go.Shelf
attribute [local go_sem] Oper.semAt_some
/-- the library's sort of integers, at a slice of the call's own (a premise: paid in the statements' texts) -/
def SortOk : Prop := ∀ (w : World) (base : Nat) (v : Value) (ys : List Int), OwnL w base 3 1 cI v ys → ys.length ≤ 1000000 →
    Calls Try.prog 49 #[v] w (fun e w' => e = .returned (.tuple #[]) ∧ OwnL w' base 3 1 cI v (srtI ys) ∧ w.grownBy w' v.ownBlock)
theorem ownN_I {w : World} {base : Nat} {v : Value} {q : List Nat} : OwnL w base 3 1 cN v q ↔ OwnL w base 3 1 cI v (q.map Int.ofNat) := by
  unfold OwnL
  rw [List.length_map, List.flatMap_map]
  rfl
theorem sortN (hso : SortOk) (w : World) (base : Nat) (v : Value) (ys : List Nat) (h : OwnL w base 3 1 cN v ys) (hl : ys.length ≤ 1000000) :
    Calls Try.prog 49 #[v] w (fun e w' => e = .returned (.tuple #[]) ∧ OwnL w' base 3 1 cN v (srtN ys) ∧ w.grownBy w' v.ownBlock) := by
  refine (hso w base v _ (ownN_I.1 h) (by simpa using hl)).mono ?_
  rintro e w' ⟨h1, h2, h3⟩
  exact ⟨h1, ownN_I.2 (srtI_nat ys ▸ h2), h3⟩
theorem cJ_one : ∀ x, ∀ u ∈ cJ x, u.oneCell' = true := by intro x u hu; simp [cJ] at hu; rcases hu with rfl | rfl | rfl | rfl <;> rfl
theorem info_job : (Try.prog.info? 44).map (fun i => (i.zero, i.size, i.bytes)) = some (some (.agg #[.int .i64 0, .int .i64 0, .int .i64 0, .int .i64 0]), 4, 32) := by kernel_rfl
theorem grown_setCell (w : World) (g j : Nat) (v : Value) : w.grownBy (w.setCell ⟨g, j, none⟩ v) (some g) :=
  ⟨rfl, rfl, rfl, by simp, fun k _ hk => heap_setCell_other w ⟨g, j, none⟩ k v (fun e => hk (by simp [e]))⟩
theorem grown_none' {w w' : World} {r : Nat} (h : Below w.heap.size w w') : w.grownBy w' (some r) := ⟨h.os, h.tape, h.output, h.size, fun i hi _ => h.block i hi⟩
def AdmE (w : World) (J : List Jb) (f : Int) (e : Ending) (w' : World) : Prop := ∃ v L er, e = .returned (.tuple #[v, .int .i64 er]) ∧ OwnL w' w.heap.size 3 1 cI v L ∧ AdmSp J f L er ∧ Below w.heap.size w w'
set_option maxRecDepth 100000 in
set_option maxHeartbeats 8000000 in
theorem Admit_any (hso : SortOk) (jo : Option Addr) (n cap : Nat) (J : List Jb) (f : Int) (w : World) (hj : Sl w 4 cJ jo n cap J) (hl : J.length ≤ 19) :
    Calls Try.prog 25 #[.slice jo n cap, .int .i64 f] w (AdmE w J f) := by
  obtain rfl := hj.len
  have hcap := hj.max
  have hle := hj.le
  unfold maxLen at hcap
  have HJ := Lib.hid hj
  have HSO := Lib.hid hso
  have HBAD := Lib.hid (@adm_bad J f)
  have HOK := Lib.hid (@adm_ok J f)
  have HL := Lib.hid hl
  clear hj hso
  obtain ⟨R, hR⟩ : ∃ R, w.heap.size = R := ⟨_, rfl⟩
  obtain ⟨W0, hW0, HB_W0, hZ, hb1, hb2⟩ := boxes2 w [.slice jo J.length cap] [.int .i64 f] 22 3
  rw [hR] at hb1 hb2 hZ
  have HZ := Lib.hid hZ
  have HRW := Lib.hid hR
  have H_l := Lib.hid hb1
  have H_f := Lib.hid hb2
  have l_0 := hb1.c1
  clear hb1 hb2 hZ
  refine (callsIn_wide (n := 10)).1 (callsIn_of_wp_marks Try.func25 rfl trivial (wpIn_wide.2 ?_) rfl)
  simp only [Try.ntmps25, List.size_toArray, List.length_cons, List.length_nil, Nat.reduceAdd, Nat.reduceSub, Array.replicate_succ, Array.replicate_zero, List.push_toArray, List.append_toArray, List.nil_append, List.cons_append]
  have HV := Lib.hid (Valid_any jo J.length cap J W0 (HJ.out.below HB_W0))
  cases h1 : validJ J with
  | false =>
    rw [h1] at HV
    have HP := Lib.hid (HBAD.out (.inl h1))
    clear h1 HBAD HOK
    go_wp2_with fail
    refine (HV.out).mono ?_
    rintro e wa ⟨rfl, hb_wa⟩
    have HB_wa : Below w.heap.size w wa := by first | exact after0 HB_W0 hb_wa | exact after1 HB_W0 hb_wa | exact after2 HB_W0 hb_wa | exact after3 HB_W0 hb_wa | exact after4 HB_W0 hb_wa | exact after5 HB_W0 hb_wa
    go_wp2_with fail
    refine marks_ret0 (v := .tuple #[.slice none 0 0, .int .i64 1]) (by simp [results, Try.results25, go_sem]) rfl ?_
    exact ⟨_, _, _, rfl, OwnL.nil, HP.out, HB_wa⟩
  | true =>
  rw [h1] at HV
  have HV1 := Lib.hid h1
  go_wp2_with fail
  clear hW0 l_0
  refine (HV.out).mono ?_
  rintro e wa ⟨rfl, hb_wa⟩
  have HB_wa : Below w.heap.size w wa := by first | exact after0 HB_W0 hb_wa | exact after1 HB_W0 hb_wa | exact after2 HB_W0 hb_wa | exact after3 HB_W0 hb_wa | exact after4 HB_W0 hb_wa | exact after5 HB_W0 hb_wa
  have H_l1 := Lib.hid (H_l.out.below hb_wa)
  have H_f1 := Lib.hid (H_f.out.below hb_wa)
  have HZa := Lib.hid hb_wa.size
  have f_0 := H_f1.out.c1
  have HSL := Lib.hid (fun W => slot_any f W)
  clear H_l H_f hb_wa HV h1
  cases h2 : slotB f with
  | false =>
    rw [h2] at HSL
    have HP := Lib.hid (HBAD.out (.inr h2))
    clear h2 HBAD HOK
    go_wp2_with fail
    refine (HSL.out _).mono ?_
    rintro e wb ⟨rfl, hb_wb⟩
    have HB_wb : Below w.heap.size w wb := by first | exact after0 HB_wa hb_wb | exact after1 HB_wa hb_wb | exact after2 HB_wa hb_wb | exact after3 HB_wa hb_wb | exact after4 HB_wa hb_wb | exact after5 HB_wa hb_wb
    go_wp2_with fail
    refine marks_ret0 (v := .tuple #[.slice none 0 0, .int .i64 1]) (by simp [results, Try.results25, go_sem]) rfl ?_
    exact ⟨_, _, _, rfl, OwnL.nil, HP.out, HB_wb⟩
  | true =>
  rw [h2] at HSL
  have HV2 := Lib.hid h2
  go_wp2_with fail
  refine (HSL.out _).mono ?_
  rintro e wb ⟨rfl, hb_wb⟩
  have HB_wb : Below w.heap.size w wb := by first | exact after0 HB_wa hb_wb | exact after1 HB_wa hb_wb | exact after2 HB_wa hb_wb | exact after3 HB_wa hb_wb | exact after4 HB_wa hb_wb | exact after5 HB_wa hb_wb
  have H_l2 := Lib.hid (H_l1.out.below hb_wb)
  have H_f2 := Lib.hid (H_f1.out.below hb_wb)
  have HZb := Lib.hid hb_wb.size
  clear H_l1 H_f1 hb_wb HSL h2 f_0
  obtain ⟨I, hI⟩ : ∃ I, wb.heap.size = I := ⟨_, rfl⟩
  obtain ⟨W1, hW1, HB1, hZ1, hbi⟩ := boxes1 wb [.slice none 0 0] 30
  rw [hI] at hbi hZ1
  have H_i3 := Lib.hid hbi
  have H_l3 := Lib.hid (H_l2.out.below HB1)
  have H_f3 := Lib.hid (H_f2.out.below HB1)
  have HB_W1 := after0 HB_wb HB1
  have HZ1 := Lib.hid hZ1
  have hRI : R + 2 ≤ I := by have := HZ.out; have := HZa.out; have := HZb.out; omega
  have l_0 := H_l3.out.c1
  clear hbi hZ1 HB1 H_l2 H_f2
  go_wp2_with fail
  clear hW1 l_0
  refine (asked_any jo J.length cap J W1 (HJ.out.below HB_W1) HL.out).mono ?_
  rintro e wc ⟨X, S, q, rfl, hbx, hoq, hask, hb_wc, hX1, hX2, hS2⟩
  have HB_wc := after0 HB_W1 hb_wc
  have H_i4 := Lib.hid (H_i3.out.below hb_wc)
  have H_l4 := Lib.hid (H_l3.out.below hb_wc)
  have H_f4 := Lib.hid (H_f3.out.below hb_wc)
  have hZc := hb_wc.size
  rw [HZ1.out] at hX1 hZc hoq
  have HBX := Lib.hid hbx
  have HOQ := Lib.hid hoq
  have HASK := Lib.hid hask
  have HQL := Lib.hid (ask_len hask)
  have HHX := Lib.hid (And.intro hX1 (And.intro hX2 hS2))
  clear hbx hoq hask hb_wc H_i3 H_l3 H_f3 hX1 hX2 hS2
  have HSEQ := Lib.hid (show SeqPut Fence.wide 9 Try.prog 71 #[.pointer (some ⟨X, 0, none⟩)] eNn (fun x => x < J.length) (KpBut I) (fun xs => xs = q) q.length wc from
    values1_seq X I S (I + 1) q wc (fun x => x < J.length) (ask_lt HASK.out) (by have := HBX.out; rwa [← HQL.out] at this) (by have := HOQ.out; rwa [← HQL.out] at this) (Nat.lt_succ_self I) (by have := HQL.out; have := HL.out; omega))
  clear hI
  go_wp2_with fail
  refine (wpIn_wide (n := 10)).1 ?_
  refine wpIn_rangeFunc_put rfl (by omega) (gf := 71) (lb := #[.pointer (some ⟨X, 0, none⟩)]) rfl trivial (enters_of Try.func71 (by kernel_rfl) rfl) HSEQ.out
    KpBut.trans (fun W l' o o' hl h hc hw => KpBut.put W l' o o' (by omega) h hc hw) (Below.refl _ _) (fun _ => rfl)
    (fun pre W => ∃ v, Box W I 30 [v] ∧ OwnL W (I + 1) 3 1 cN v (admF J f pre) ∧ (Box W R 22 [.slice jo J.length cap] ∧ Box W (R + 1) 3 [.int .i64 f]) ∧ Below w.heap.size w W ∧ I + 1 ≤ W.heap.size ∧ ∀ y ∈ pre, y < J.length)
    (fun s A B row hs hg hr => by
      obtain ⟨v, b1, o1, ⟨b2, b3⟩, hb, hz, hp⟩ := hs
      exact ⟨v, box_own _ I _ (fun (_ : Unit) => _) () A B row b1 hg hr, o1.grown hg (fun r h => (hr r h).2), ⟨box_own _ R _ (fun (_ : Unit) => _) () A B row b2 hg hr, box_own _ (R + 1) _ (fun (_ : Unit) => _) () A B row b3 hg hr⟩, ownFrom_below (β := Unit) (Nat.le_refl _) HB_wc.size () A B row hb hg hr, Nat.le_trans hz hg.size, hp⟩)
    ⟨_, H_i4.out, OwnL.nil, ⟨H_l4.out, H_f4.out⟩, HB_wc, by omega, fun y hy => by cases hy⟩
    (fun x => { tmps := #[.slice jo J.length cap, .int .i64 f, .pointer (some ⟨R, 0, none⟩), .pointer (some ⟨R + 1, 0, none⟩), .slice none 0 0, .int .i64 0, .pointer (some ⟨I, 0, none⟩), .int .i64 x,
        undef, undef, undef, undef, .slice jo J.length cap, .bool true, .bool false, .bool false, .int .i64 f, .bool true, .bool false, .bool false, .slice jo J.length cap,
        .func (.func 71) #[] #[.pointer (some ⟨X, 0, none⟩)], .int .i64 x, undef, undef, undef, undef, undef, undef, undef, undef, undef, undef, undef, undef, undef, undef,
        undef, undef, undef, undef, undef, undef, undef, undef, undef, undef, undef, undef, undef, undef, undef, undef], defers := [] })
    ?assign ?body ?done
  case assign =>
    intro l' x W K hK
    dsimp only [eNn]
    gi_wp2
    simpa using hK
  case body =>
    have hql19 : q.length ≤ 19 := by have := HQL.out; have := HL.out; omega
    clear HBX HOQ HASK HSEQ HHX H_i4 H_l4 H_f4 HOK HBAD
    rintro l' pre x W hxJ ⟨v, b1, o1, ⟨b2, b3⟩, hb, hz, hp⟩ hlt
    have r0 := b1.c1
    have hal := admF_len J f pre
    have HAM := Lib.hid (show ∀ y ∈ srtN (admF J f pre ++ [x]), y < J.length from fun y hy => by
      rw [srtN_mem, List.mem_append, List.mem_singleton] at hy
      rcases hy with hy | rfl
      · exact hp y (admF_mem y hy)
      · exact hxJ)
    have HPP := Lib.hid (show ∀ y ∈ pre ++ [x], y < J.length from fun y hy => by
      rw [List.mem_append, List.mem_singleton] at hy
      rcases hy with hy | rfl
      · exact hp y hy
      · exact hxJ)
    have HSTP := Lib.hid (admF_snoc J f pre x)
    have hwl := srtN_len (admF J f pre ++ [x])
    rw [List.length_append, List.length_singleton] at hwl
    have HB1 := Lib.hid b1
    have HO1 := Lib.hid o1
    have HBL := Lib.hid b2
    have HBF := Lib.hid b3
    have HHB := Lib.hid hb
    have HHZ := Lib.hid hz
    obtain ⟨ao, ca, rfl, hsa⟩ := o1.sl cN_len
    have HCL := Lib.hid (clip_any ao (admF J f pre).length ca W hsa.le hsa.max (by
      intro e
      rcases o1.2 with ⟨h1, h2⟩ | ⟨g, cap', cur, h1, _⟩
      · simp only [Value.slice.injEq] at h1; exact ⟨h2, h1.2.2⟩
      · subst e; simp at h1))
    clear b1 o1 b2 b3 hb hz hp hsa
    gi_wp2_with fail
    refine ⟨trivial, (((callsIn_wide (n := 7)).2 HCL.out).inRound l').mono ?_⟩
    rintro e w1 ⟨rfl, hb_w1⟩
    have HK1 := Lib.hid hb_w1
    have HOX := Lib.hid ((HO1.out.below hb_w1).alloc (.cells #[.int .i64 (x : Int)] 3))
    have HSX := Lib.hid (Sl.one (x := x) cN_len (Box.new w1 (cN x) 3))
    obtain ⟨i0, hi, hz0, hz1, hz2⟩ := info_parts info_int
    have hl6 : (admF J f pre).length ≤ 20 := by omega
    have HLL := Lib.hid hl6
    clear HCL hb_w1 r0 hl6
    gi_wp2_with (gi_at_builtin; refine wpListIn_append_new rfl _ _ 30 rfl 3 i0 _ 1 8 Try.underlying30 hi hz0 hz1 hz2 rfl (by decide) cN_len cN_one (I + 1) _ _ HOX.out rfl ⟨w1.heap.size, 0, none⟩ 1 1 [x] rfl HSX.out (by decide) (by have := HLL.out; unfold maxLen; omega) (by have := HLL.out; omega) ?_)
    rintro v3 w3 ho3 hb_w3
    have hk1 := HK1.out.size
    have HK3 := Lib.hid ((grew1 HK1.out (o := .cells #[.int .i64 (x : Int)] 3)).trans (hb_w3.mono (by omega)))
    have HSRT := Lib.hid (sortN HSO.out w3 _ v3 _ ho3 (by rw [List.length_append]; have := HLL.out; simp only [List.length_singleton]; omega))
    obtain ⟨g, cap3, rfl, hg1, hg2⟩ := ho3.form' (by simp)
    have HO3 := Lib.hid ho3
    have HG := Lib.hid (And.intro hg1 hg2)
    clear ho3 hb_w3 hg1 hg2 hi hz0 hz1 hz2 HOX HSX
    have HO1F := Lib.hid HO1.out
    clear HO1
    have HPM := Lib.hid (srtN_len (admF J f pre ++ [x]))
    have hm1 : (admF J f pre ++ [x]).length = (admF J f pre).length + 1 := by simp
    have HM1 := Lib.hid hm1
    have HFI := Lib.hid (show admI J f (admF J f pre) x = if fits J f (srtN (admF J f pre ++ [x])) then srtN (admF J f pre ++ [x]) else admF J f pre from rfl)
    clear hm1 hwl
    generalize hws : srtN (admF J f pre ++ [x]) = ws at *
    generalize hmm : (admF J f pre ++ [x]).length = m at *
    clear hws hmm
    obtain ⟨B3, hB3⟩ : ∃ B3, w1.heap.size + 1 = B3 := ⟨_, rfl⟩
    have HB3 := Lib.hid hB3
    rw [hB3] at HO3 HSRT
    clear hB3
    gi_wp2_with fail
    refine ⟨trivial, (((callsIn_wide (n := 7)).2 HSRT.out).inRound l').mono ?_⟩
    rintro e w4 ⟨rfl, ho4, hg4⟩
    have HO4 := Lib.hid ho4
    have HK4 := Lib.hid (HK3.out.trans ((below_grown HO3.out (Nat.le_refl _) (by have := HG.out; have := HB3.out; omega) hg4).mono (show W.heap.size ≤ B3 by have := HB3.out; omega)))
    have HS4 := Lib.hid hg4.size
    clear ho4 hg4 HSRT HO3 HK3 HK1
    gi_wp2_with fail
    have hm200 : m ≤ 200 := by have := HM1.out; have := HLL.out; omega
    have HR : Hid (R + 2 ≤ W.heap.size ∧ I + 1 ≤ W.heap.size) := ⟨by have := HHZ.out; omega, HHZ.out⟩
    gi_loopw [9, 32] (fun o i wr => ∃ k : Nat, k ≤ m ∧ i = .int .i64 k ∧ Hid (OwnL wr w4.heap.size 44 4 cJ o ((ws.take k).map (jat J))) ∧ Hid (Below w4.heap.size w4 wr)) (fun _ i _ => m - (intOf i).toNat)
    case atStart => exact ⟨0, Nat.zero_le _, rfl, OwnL.nil, Below.refl _ _⟩
    case round =>
      obtain ⟨k, hk, rfl, HO9, HB9⟩ := hrel
      have HK9 := Lib.hid (HK4.out.trans (HB9.out.mono HK4.out.size))
      have HW9 := Lib.hid (HHB.out.trans (HK9.out.mono HHB.out.size))
      by_cases hlt2 : k < m
      · have hkw : k < ws.length := by have := HPM.out; omega
        have hyJ := HAM.out _ (List.getElem_mem hkw)
        have HSUC := Lib.hid (show (ws.take (k + 1)).map (jat J) = (ws.take k).map (jat J) ++ [J[ws[k]]] by rw [List.take_add_one, List.getElem?_eq_getElem hkw, Option.toList_some, List.map_append, List.map_singleton, jat_get hyJ])
        have g_0 := (HO4.out.below HB9.out).cellG cN_len (j := k) (i := 0) (List.getElem?_eq_getElem hkw) rfl
        simp only [Nat.mul_one, Nat.add_zero] at g_0
        obtain ⟨bj, offj, rfl, hbj, hrow⟩ := (HJ.out.below HW9.out).get hyJ
        obtain ⟨e_0, e_1, e_2, e_3⟩ := (hrow ws[k] hyJ).c4
        have l_0 := (HBL.out.low HK9.out (by have := HR.out; omega)).c1
        have hyi : (ws[k] : Int) < (J.length : Int) := by omega
        have hlk : ((ws.take k).map (jat J)).length ≤ 200 := by rw [List.length_map, List.length_take]; omega
        clear hrow
        generalize J[ws[k]] = jb at *
        generalize ws[k] = y at *
        clear hkw
        obtain ⟨y0, y1, y2, y3⟩ := jb
        dsimp only at e_0 e_1 e_2 e_3
        have HSUC2 := Lib.hid HSUC.out
        generalize (ws.take k).map (jat J) = pre2 at *
        obtain ⟨i1, hi, hz0, hz1, hz2⟩ := info_parts info_job
        have hsz9 := HB9.out.size
        have HOX := Lib.hid (HO9.out.alloc (.cells #[.int .i64 y0, .int .i64 y1, .int .i64 y2, .int .i64 y3] 44))
        have HSX := Lib.hid (Sl.one (x := (⟨y0, y1, y2, y3⟩ : Jb)) cJ_len (Box.new wr (cJ ⟨y0, y1, y2, y3⟩) 44))
        have HLK := Lib.hid hlk
        have HSZ := Lib.hid hsz9
        clear hsz9 HO9 hlk HSUC
        gi_wp2_with (gi_at_builtin; refine wpListIn_append_sl rfl _ _ 22 rfl w4.heap.size 44 i1 _ 4 32 Try.underlying22 hi hz0 hz1 hz2 rfl (by decide) cJ_len cJ_one _ _ rfl HOX.out ⟨wr.heap.size, 0, none⟩ 1 1 [(⟨y0, y1, y2, y3⟩ : Jb)] rfl HSX.out (by have := HLK.out; unfold maxLen; omega) (by have := HLK.out; omega) (by have := HSZ.out; simp; omega) ?_)
        rintro v7 w7 ho7 hl7 hg7
        have HO7 := Lib.hid ho7
        have HB7 := Lib.hid ((HB9.out.alloc HB9.out.size (.cells #[.int .i64 y0, .int .i64 y1, .int .i64 y2, .int .i64 y3] 44)).trans (hl7 _ (Nat.le_refl _)))
        clear ho7 hl7 hg7 hi hz0 hz1 hz2 HOX HSX g_0 e_0 e_1 e_2 e_3 l_0
        gi_wp2_with fail
        go_roundw
        case rel => exact ⟨k + 1, by omega, by go_num, by rw [HSUC2.out]; exact HO7.out, HB7⟩
        case measure => simp [intOf] <;> omega
      · obtain rfl : k = m := by omega
        rw [List.take_of_length_le (by have := HPM.out; omega)] at HO9
        have f_0 := (HBF.out.low HK9.out (by have := HR.out; omega)).c1
        obtain ⟨ao9, cap9, e9, hsl9⟩ := HO9.out.sl cJ_len
        rw [List.length_map] at e9 hsl9
        subst e9
        have HVW := Lib.hid (pickJ_valid (validJ_iff.1 HV1.out).2 HAM.out (by have := HPM.out; have := HM1.out; have := HLL.out; omega))
        have HFF := Lib.hid (show 0 ≤ f ∧ f < 400 by have := HV2.out; simpa [slotB] using this)
        have HPL := Lib.hid (plan_any ao9 _ cap9 (ws.map (jat J)) f wr hsl9 HVW.out HV2.out)
        have HS9 := Lib.hid hsl9
        clear hsl9
        gi_wp2_with fail
        refine ⟨trivial, (((callsIn_wide (n := 7)).2 HPL.out).inRound l').mono ?_⟩
        rintro e w5 ⟨v5, rfl, ho5, hb_w5⟩
        obtain ⟨ao5, cap5, rfl, hsl5⟩ := ho5.sl cS_len
        have HLT := Lib.hid (late_any ao9 _ cap9 (ws.map (jat J)) ao5 _ cap5 (planF (ws.map (jat J)) f) w5 (HS9.out.below hb_w5) hsl5 HVW.out (plan_names HFF.out.1))
        have HB5 := Lib.hid (HB9.out.trans (hb_w5.mono HB9.out.size))
        have HK5 := Lib.hid (HK9.out.trans (hb_w5.mono HK9.out.size))
        clear ho5 hsl5 hb_w5 HPL
        gi_wp2_with fail
        refine ⟨trivial, (((callsIn_wide (n := 7)).2 HLT.out).inRound l').mono ?_⟩
        rintro e w6 ⟨v6, rfl, ho6, hb_w6⟩
        obtain ⟨ao6, cap6, rfl, hsl6⟩ := ho6.sl cI_len
        have HB6 := Lib.hid (HB5.out.trans (hb_w6.mono HB5.out.size))
        have HK6 := Lib.hid (HK5.out.trans (hb_w6.mono HK5.out.size))
        have HO6 := Lib.hid (HO4.out.below HB6.out)
        have HW6 := Lib.hid (HHB.out.trans (HK6.out.mono HHB.out.size))
        have HB_I := Lib.hid (HB1.out.low HK6.out HR.out.2)
        have HB_R := Lib.hid (HBL.out.low HK6.out (by have := HR.out; omega))
        have HB_F := Lib.hid (HBF.out.low HK6.out (by have := HR.out; omega))
        have hwm := HPM.out
        clear ho6 hsl6 hb_w6 HLT f_0
        cases hfit : fits J f ws with
        | true =>
          have hle0 : lateF (ws.map (jat J)) (planF (ws.map (jat J)) f) = [] := List.isEmpty_iff.1 hfit
          rw [hle0]
          have HFI2 := Lib.hid (show admF J f (pre ++ [x]) = ws by rw [HSTP.out, HFI.out, hfit]; rfl)
          have ff := HB_I.out.frozen
          have f1 := HB_I.out.c1
          clear hfit
          gi_wp2_with fail
          have h1 := HR.out
          have h2 := HK6.out.size
          have h3 := HB3.out
          have hrI : w.heap.size ≤ I := by omega
          refine ⟨((KeepsOthers.of_grownBy (grown_none HK6.out) (fun j o hj => by cases hj)).trans (KeepsOthers.setCell _ _ _)).from _, (KpBut.of_grown (grown_none' HK6.out) h1.2).trans (KpBut.of_grown (grown_setCell _ I 0 _) (by omega)), _, HB_I.out.set 0 _, ?_, ⟨HB_R.out.other (by omega), HB_F.out.other (by omega)⟩, HW6.out.setCell (p := ⟨I, 0, none⟩) hrI _, by simp; omega, HPP.out⟩
          rw [HFI2.out]
          exact (HO6.out.setCell (b := I) (j := 0) (by omega)).mono (by omega)
        | false =>
          have hle0 : 0 < (lateF (ws.map (jat J)) (planF (ws.map (jat J)) f)).length := by
            have : (lateF (pickJ J ws) (planF (pickJ J ws) f)) ≠ [] := fun e => by unfold fits at hfit; rw [e] at hfit; cases hfit
            exact List.length_pos_iff.2 this
          have HFI2 := Lib.hid (show admF J f (pre ++ [x]) = admF J f pre by rw [HSTP.out, HFI.out, hfit]; rfl)
          clear hfit
          generalize (lateF (ws.map (jat J)) (planF (ws.map (jat J)) f)).length = ll at *
          have hb0 : ((ll : Int) == 0) = false := by simp; omega
          gi_wp2_with fail
          have h1 := HR.out
          have h2 := HK6.out.size
          refine ⟨(KeepsOthers.of_grownBy (grown_none HK6.out) (fun j o hj => by cases hj)).from _, KpBut.of_grown (grown_none' HK6.out) h1.2, _, HB_I.out, ?_, ⟨HB_R.out, HB_F.out⟩, HW6.out, by omega, HPP.out⟩
          rw [HFI2.out]
          exact HO1F.out.below HK6.out
  case done =>
    rintro D xs W hD rfl ⟨v, b1, o1, _, hb, hz, hp⟩ hK
    have r0 := b1.c1
    have HD : Hid (W.heap[D]? = some (.deferred (some []))) := hK
    have HDR : Hid (wc.heap.size ≤ D) := hD
    have HHB := Lib.hid hb
    obtain ⟨ao', cap', rfl, hsl⟩ := o1.sl cN_len
    have HOO := Lib.hid o1
    have HP := Lib.hid (HOK.out HV1.out HV2.out HASK.out)
    clear hK hD b1 hb hz o1 hsl hp
    dsimp only [Exit.inBlock, Exit.then]
    go_wp2_with fail
    refine marks_ret1 (v := .tuple #[.slice ao' (admF J f xs).length cap', .int .i64 0]) HD.out rfl (by simp [results, Try.results25, go_sem]) ?_
    have hput := HOO.out.grown (grownBy_putObj' W D (.deferred none)) (fun r e => by cases e; exact ⟨_, HD.out, rfl⟩)
    have h3 := HDR.out
    have h4 := HB_wc.size
    exact ⟨_, _, 0, rfl, ownN_I.1 (hput.mono (by omega)), HP.out, HHB.out.trans (belowK_b (w := w) (Nat.le_refl _) W D _ _ (by omega) HD.out rfl rfl)⟩
end Go.Proofs.Ytheioedggjbphaa
