/-
  Plain laws of the layer 'eyes': every state of Replay is valid; as long as one person acts alone, nothing is told, and nothing that is told changes. No program in sight.
-/
import Derived.Test.YtmbnhlihcnbebaaEyTw
import Derived.Test.YtmbnhlihcnbebaaEyTa
set_option linter.unusedVariables false
namespace Ey
/-! ### states stay valid -/
theorem sound_parts {d : Dg} (h : soundD d = true) : numB d.id = true ∧ (d.prop = 0 ∨ numB d.prop = true) ∧ (d.prop = 0 → d.drop = false ∧ d.told = true) ∧ (d.told = true → boxB d.area = true) ∧ (d.told = false → d.drop = false ∧ d.area = bx0) ∧ (d.prop ≠ 0 → d.drop = false → boxB d.next = true) ∧ (d.prop = 0 ∨ d.drop = true → d.next = bx0) := by
  unfold soundD at h
  simp only [Bool.and_eq_true, Bool.or_eq_true, decide_eq_true_eq] at h
  obtain ⟨⟨⟨⟨h1, h2⟩, h3⟩, h4⟩, h5⟩ := h
  refine ⟨h1, h2, fun e => ?_, fun e => ?_, fun e => ?_, fun e1 e2 => ?_, fun e => ?_⟩
  · rcases h3 with h3 | h3
    · exact absurd e h3
    · simpa using h3
  · rwa [if_pos e] at h4
  · rw [if_neg (by simp [e])] at h4
    simpa using h4
  · rwa [if_pos ⟨e1, e2⟩] at h5
  · rw [if_neg (by rcases e with e | e <;> simp [e])] at h5
    simpa using h5
theorem sound_mk {d : Dg} (h1 : numB d.id = true) (h2 : d.prop = 0 ∨ numB d.prop = true) (h3 : d.prop = 0 → d.drop = false ∧ d.told = true) (h4 : d.told = true → boxB d.area = true) (h5 : d.told = false → d.drop = false ∧ d.area = bx0) (h6 : d.prop ≠ 0 → d.drop = false → boxB d.next = true) (h7 : d.prop = 0 ∨ d.drop = true → d.next = bx0) : soundD d = true := by
  unfold soundD
  simp only [Bool.and_eq_true, Bool.or_eq_true, decide_eq_true_eq]
  refine ⟨⟨⟨⟨h1, h2⟩, ?_⟩, ?_⟩, ?_⟩
  · by_cases e : d.prop = 0
    · right; simpa using h3 e
    · exact .inl e
  · by_cases e : d.told = true
    · rw [if_pos e]; exact h4 e
    · rw [if_neg e]; simpa using h5 (by simpa using e)
  · by_cases e : d.prop ≠ 0 ∧ d.drop = false
    · rw [if_pos e]; exact h6 e.1 e.2
    · rw [if_neg e]
      refine decide_eq_true (h7 ?_)
      by_cases e1 : d.prop = 0
      · exact .inl e1
      · right
        cases hd : d.drop with
        | true => rfl
        | false => exact absurd ⟨e1, hd⟩ e
theorem numB_ne {x : Int} (h : numB x = true) : x ≠ 0 := by unfold numB at h; simp at h; omega
theorem validA_box {a : Ac} (h : validA a = true) : a.kind = 1 → boxB a.area = true := by
  intro hk
  unfold validA at h
  simp only [Bool.and_eq_true, if_pos hk] at h
  exact h.2
theorem validA_kind {a : Ac} (h : validA a = true) : a.kind = 1 ∨ a.kind = 2 ∨ a.kind = 3 ∨ a.kind = 4 := by
  unfold validA at h
  simp only [Bool.and_eq_true] at h
  have := h.2
  split at this
  · rename_i h; exact .inl h
  · split at this
    · rename_i h; omega
    · cases this
/-- what an act leaves of a danger is sound -/
theorem lv_sound {L : List Dg} {a : Ac} (hs : ∀ d ∈ L, soundD d = true) (hv : validA a = true) (h0 : (actS L a).2 = 0) {d : Dg} (hd : lv L a = some d) : soundD d = true := by
  obtain ⟨vd, vp⟩ := validA_nums hv
  have hb := validA_box hv
  have hp0 := numB_ne vp
  unfold lv at hd
  have hid := eff_id (L := L) (a := a)
  unfold actS at h0
  have hg := gt_cases L a.danger
  generalize gt L a.danger = g at *
  have hg2 : g = dg0 ∨ soundD g = true := hg.elim (fun h => .inl h.2) (fun h => .inr (hs _ h.2.1))
  have herr : (eff g a).2.2 = 0 := by
    by_cases h : (eff g a).2.2 = 0
    · exact h
    · rw [if_pos h] at h0; exact absurd h0 h
  have hid := hid herr
  clear h0 hg
  split at hd
  case isFalse => cases hd
  case isTrue hst =>
  cases hd
  by_cases k1 : a.kind = 1
  · rw [eff_k1 g k1] at herr hst hid ⊢
    split at herr
    · cases herr
    split at herr
    · cases herr
    rename_i hp hq
    have hp : g.prop = 0 := by simpa using hp
    rw [if_neg (by simpa using hp), if_neg hq]
    rcases hg2 with rfl | hg2
    · exact sound_mk vd (.inr vp) (fun e => absurd e hp0) (fun e => by cases e) (fun _ => ⟨rfl, rfl⟩) (fun _ _ => hb k1) (fun e => by rcases e with e | e; exact absurd e hp0; cases e)
    · obtain ⟨s1, s2, s3, s4, s5, s6, s7⟩ := sound_parts hg2
      have h3 := s3 hp
      exact sound_mk vd (.inr vp) (fun e => absurd e hp0) s4 s5 (fun _ _ => hb k1) (fun e => by
        rcases e with e | e
        · exact absurd e hp0
        · dsimp only at e; rw [h3.1] at e; cases e)
  by_cases k2 : a.kind = 2
  · rw [eff_k2 g k2] at herr hst hid ⊢
    split at herr
    · cases herr
    split at herr
    · cases herr
    rename_i ht hp
    have hp : g.prop = 0 := by simpa using hp
    rw [if_neg ht, if_neg (by simpa using hp)]
    rcases hg2 with rfl | hg2
    · exact absurd rfl ht
    · obtain ⟨s1, s2, s3, s4, s5, s6, s7⟩ := sound_parts hg2
      exact sound_mk s1 (.inr vp) (fun e => absurd e hp0) s4 (fun e => absurd e ht) (fun _ e => by cases e) (fun _ => s7 (.inl hp))
  by_cases k3 : a.kind = 3
  · rw [eff_k3 g k3] at herr hst hid ⊢
    split at herr
    · cases herr
    split at herr
    · cases herr
    rename_i hp hq
    rw [if_neg hp, if_neg hq] at hst ⊢
    rcases hg2 with rfl | hg2
    · exact absurd rfl hp
    · obtain ⟨s1, s2, s3, s4, s5, s6, s7⟩ := sound_parts hg2
      have hdr : g.drop = false := by simpa using hst
      exact sound_mk s1 (.inl rfl) (fun _ => ⟨rfl, rfl⟩) (fun _ => s6 hp hdr) (fun e => by cases e) (fun e => absurd rfl e) (fun _ => rfl)
  · rw [eff_k4 g k1 k2 k3] at herr hst hid ⊢
    split at herr
    · cases herr
    rename_i hp
    rw [if_neg hp] at hst ⊢
    rcases hg2 with rfl | hg2
    · exact absurd rfl hp
    · obtain ⟨s1, s2, s3, s4, s5, s6, s7⟩ := sound_parts hg2
      have ht : g.told = true := hst
      exact sound_mk s1 (.inl rfl) (fun _ => ⟨rfl, ht⟩) s4 (fun e => by rw [ht] at e; cases e) (fun e => absurd rfl e) (fun _ => rfl)
theorem act_sound {L : List Dg} {a : Ac} (hs : stateB L = true) (hv : validA a = true) : stateB (actS L a).1 = true := by
  rw [stateB_iff] at hs ⊢
  refine ⟨fun d hd => ?_, hs.2.act a⟩
  have hf := (hs.2.act a).fnd_mem hd
  rw [fnd_act] at hf
  split at hf
  · rename_i h; exact lv_sound hs.1 hv h.2 hf
  · exact hs.1 _ (fnd_id hf).1
theorem rstep_sound {s : RS} (h : stateB s.L = true) (a : Ac) : stateB (rstep s a).L = true := by
  rw [rstep_eq]
  dsimp only
  split
  · rename_i hc; exact act_sound h (ce_ok hc).2.1
  · exact h
theorem replS_state (l : List Ac) : stateB (replS l).L = true := by
  unfold replS
  suffices ∀ (l : List Ac) (s : RS), stateB s.L = true → stateB (l.foldl rstep s).L = true from this l _ rfl
  intro l
  induction l with
  | nil => intro s h; exact h
  | cons a l ih => intro s h; rw [List.foldl_cons]; exact ih _ (rstep_sound h a)

/-! ### one person alone -/
/-- for which area a danger is told -/
def cor (L : List Dg) (x : Int) : Option Bx := if (gt L x).told = true then some (gt L x).area else none
def OnlyP (p : Int) (L : List Dg) : Prop := ∀ x, (gt L x).prop = 0 ∨ (gt L x).prop = p
theorem gt_act (L : List Dg) (a : Ac) (x : Int) : gt (actS L a).1 x = if x = a.danger ∧ (actS L a).2 = 0 then (lv L a).getD dg0 else gt L x := by
  unfold gt
  rw [fnd_act]
  split <;> rfl
theorem alone_act {p : Int} {L : List Dg} (h : OnlyP p L) {a : Ac} (ha : a.person = p) : OnlyP p (actS L a).1 ∧ ∀ x, cor (actS L a).1 x = cor L x := by
  have key : ∀ x, ((gt (actS L a).1 x).prop = 0 ∨ (gt (actS L a).1 x).prop = p) ∧ (if (gt (actS L a).1 x).told = true then some (gt (actS L a).1 x).area else none) = (if (gt L x).told = true then some (gt L x).area else none) := by
    intro x
    rw [gt_act]
    split
    case isFalse => exact ⟨h x, rfl⟩
    case isTrue hc =>
    obtain ⟨hx, h0⟩ := hc
    have hpx := h x
    rw [hx] at hpx ⊢
    unfold lv
    unfold actS at h0
    generalize gt L a.danger = g at *
    have herr : (eff g a).2.2 = 0 := by
      by_cases h : (eff g a).2.2 = 0
      · exact h
      · rw [if_pos h] at h0; exact absurd h0 h
    clear h0
    by_cases k1 : a.kind = 1
    · rw [eff_k1 g k1] at herr ⊢
      split at herr
      · cases herr
      split at herr
      · cases herr
      rename_i hp hq
      rw [if_neg hp, if_neg hq, if_pos rfl]
      exact ⟨.inr ha, rfl⟩
    by_cases k2 : a.kind = 2
    · rw [eff_k2 g k2] at herr ⊢
      split at herr
      · cases herr
      split at herr
      · cases herr
      rename_i hp hq
      rw [if_neg hp, if_neg hq, if_pos rfl]
      exact ⟨.inr ha, rfl⟩
    by_cases k3 : a.kind = 3
    · rw [eff_k3 g k3] at herr
      split at herr
      · cases herr
      split at herr
      · cases herr
      rename_i hp hq
      rw [ha] at hq
      rcases hpx with e | e
      · exact absurd e hp
      · exact absurd e hq
    · rw [eff_k4 g k1 k2 k3] at herr ⊢
      split at herr
      · cases herr
      rename_i hp
      rw [if_neg hp]
      dsimp only
      cases ht : g.told with
      | true => exact ⟨.inl rfl, by simp⟩
      | false => exact ⟨.inl rfl, by simp [dg0]⟩
  exact ⟨fun x => (key x).1, fun x => (key x).2⟩
theorem alone_fold {p : Int} (m : List Ac) (hm : ∀ a ∈ m, a.person = p) (s : RS) (h : OnlyP p s.L) : OnlyP p (m.foldl rstep s).L ∧ ∀ x, cor (m.foldl rstep s).L x = cor s.L x := by
  induction m generalizing s with
  | nil => exact ⟨h, fun _ => rfl⟩
  | cons a m ih =>
    rw [List.foldl_cons]
    have h1 : OnlyP p (rstep s a).L ∧ ∀ x, cor (rstep s a).L x = cor s.L x := by
      rw [rstep_eq]
      dsimp only
      split
      · exact alone_act h (hm a List.mem_cons_self)
      · exact ⟨h, fun _ => rfl⟩
    obtain ⟨h2, h3⟩ := ih (fun b hb => hm b (List.mem_cons_of_mem _ hb)) _ h1.1
    exact ⟨h2, fun x => (h3 x).trans (h1.2 x)⟩
theorem Sor.gt_mem {L : List Dg} (h : Sor L) {d : Dg} (hd : d ∈ L) : gt L d.id = d := by unfold gt; rw [h.fnd_mem hd]; rfl
/-- by one person nothing is told -/
theorem alone_none {p : Int} {m : List Ac} (hm : ∀ a ∈ m, a.person = p) {d : Dg} (hd : d ∈ (replS m).L) : d.told = false := by
  have h := (alone_fold m hm ⟨[], 0, []⟩ (fun x => .inl rfl)).2 d.id
  have e := (replS_sor m).1.gt_mem hd
  unfold replS at e
  unfold cor at h
  rw [e] at h
  dsimp only at h
  cases ht : d.told with
  | false => rfl
  | true => rw [if_pos ht] at h; cases h
/-- what is told is the same -/
def can (d : Dg) : Dg := ⟨d.id, true, d.area, 0, false, bx0⟩
theorem Sor.ext_mem {L M : List Dg} (hl : Sor L) (hm : Sor M) (h : ∀ d, d ∈ L ↔ d ∈ M) : L = M := Sor.ext hl hm fun x => by
  apply Option.ext
  intro d
  constructor
  · intro e
    obtain ⟨h1, h2⟩ := fnd_id e
    rw [← h2]
    exact hm.fnd_mem ((h d).1 h1)
  · intro e
    obtain ⟨h1, h2⟩ := fnd_id e
    rw [← h2]
    exact hl.fnd_mem ((h d).2 h1)
def tol (L : List Dg) : List Dg := (L.filter (fun d => d.told)).map can
theorem tol_sor {L : List Dg} (h : Sor L) : Sor (tol L) := by
  unfold tol Sor
  rw [List.pairwise_map]
  exact h.filter _
theorem tol_mem {L : List Dg} (h : Sor L) (d : Dg) : d ∈ tol L ↔ (d = can d ∧ cor L d.id = some d.area) := by
  unfold tol
  rw [List.mem_map]
  constructor
  · rintro ⟨e, he, rfl⟩
    obtain ⟨h1, h2⟩ := List.mem_filter.1 he
    refine ⟨rfl, ?_⟩
    unfold cor can
    dsimp only
    rw [h.gt_mem h1, if_pos h2]
  · rintro ⟨h1, h2⟩
    unfold cor at h2
    split at h2
    case isFalse => cases h2
    case isTrue ht =>
    rcases gt_cases L d.id with ⟨_, e⟩ | ⟨e1, e2, _⟩
    · rw [e] at ht; cases ht
    · refine ⟨gt L d.id, List.mem_filter.2 ⟨e2, ht⟩, ?_⟩
      rw [h1]
      unfold can
      rw [e1, Option.some.inj h2]
theorem tol_all {L : List Dg} (h : ∀ d ∈ L, d.told = true) : tol L = L.map can := by
  unfold tol
  rw [List.filter_eq_self.2 (fun d hd => h d hd)]
theorem alone_tol {p : Int} {l m : List Ac} (hm : ∀ a ∈ m, a.person = p) (h : ∀ d ∈ (replS l).L, d.prop = 0) : tol (replS (l ++ m)).L = (replS l).L.map can := by
  have hs := (stateB_iff.1 (replS_state l))
  have ho : OnlyP p (replS l).L := fun x => by
    rcases gt_cases (replS l).L x with ⟨_, e⟩ | ⟨_, e, _⟩
    · rw [e]; exact .inl rfl
    · exact .inl (h _ e)
  have e : replS (l ++ m) = m.foldl rstep (replS l) := by unfold replS; rw [List.foldl_append]
  have hc := (alone_fold m hm (replS l) ho).2
  rw [← e] at hc
  rw [← tol_all (fun d hd => ((sound_parts (hs.1 d hd)).2.2.1 (h d hd)).2)]
  refine Sor.ext_mem (tol_sor (replS_sor _).1) (tol_sor (replS_sor _).1) fun d => ?_
  rw [tol_mem (replS_sor _).1, tol_mem (replS_sor _).1, hc]
/-- as the law compares it: the dangers told, one after the other -/
def tn (M : List Dg) (k : Nat) : Nat := ((M.take k).filter (fun d => d.told)).length
theorem tn_zero (M : List Dg) : tn M 0 = 0 := rfl
theorem tn_no {M : List Dg} {k : Nat} (hk : k < M.length) (h : M[k].told = false) : tn M (k + 1) = tn M k := by
  unfold tn
  rw [List.take_add_one, List.getElem?_eq_getElem hk, Option.toList_some, List.filter_append]
  simp [h]
theorem tn_yes {M : List Dg} {k : Nat} (hk : k < M.length) (h : M[k].told = true) : tn M (k + 1) = tn M k + 1 := by
  unfold tn
  rw [List.take_add_one, List.getElem?_eq_getElem hk, Option.toList_some, List.filter_append]
  simp [h]
theorem tn_at {L M : List Dg} (h : tol M = L.map can) {k : Nat} (hk : k < M.length) (ht : M[k].told = true) : ∃ hn : tn M k < L.length, L[tn M k].id = M[k].id ∧ L[tn M k].area = M[k].area := by
  have e : M.filter (fun d => d.told) = (M.take k).filter (fun d => d.told) ++ M[k] :: (M.drop (k + 1)).filter (fun d => d.told) := by
    conv => lhs; rw [← List.take_append_drop k M, List.filter_append, List.drop_eq_getElem_cons hk, List.filter_cons, if_pos ht]
  have e2 : (tol M)[tn M k]? = some (can M[k]) := by
    unfold tol tn
    rw [e, List.map_append, List.getElem?_append_right (by rw [List.length_map]; exact Nat.le_refl _), List.length_map, Nat.sub_self]
    rfl
  rw [h, List.getElem?_map, Option.map_eq_some_iff] at e2
  obtain ⟨d, h1, h2⟩ := e2
  obtain ⟨hn, rfl⟩ := List.getElem?_eq_some_iff.1 h1
  refine ⟨hn, ?_, ?_⟩
  · exact (congrArg Dg.id h2 : (can _).id = (can _).id)
  · exact (congrArg Dg.area h2 : (can _).area = (can _).area)
theorem tn_len {L M : List Dg} (h : tol M = L.map can) : tn M M.length = L.length := by
  have := congrArg List.length h
  unfold tol at this
  rw [List.length_map, List.length_map] at this
  unfold tn
  rw [List.take_length]
  exact this
theorem tn_le (M : List Dg) (k : Nat) : tn M k ≤ k := Nat.le_trans (List.length_filter_le _ _) (List.length_take_le _ _)

/-- the acts as the law changes them, up to k -/
def whoL (p : Int) (m : List Ac) (k : Nat) : List Ac := (m.take k).map (fun a => { a with person := p }) ++ m.drop k
theorem whoL_zero (p : Int) (m : List Ac) : whoL p m 0 = m := rfl
theorem whoL_len (p : Int) (m : List Ac) (k : Nat) : (whoL p m k).length = m.length := by
  unfold whoL
  simp only [List.length_append, List.length_map, List.length_take, List.length_drop]
  omega
theorem whoL_at {p : Int} {m : List Ac} {k : Nat} (hk : k < m.length) : (whoL p m k)[k]? = some m[k] := by
  unfold whoL
  rw [List.getElem?_append_right (by rw [List.length_map]; exact List.length_take_le _ _), List.length_map, List.length_take_of_le (Nat.le_of_lt hk), Nat.sub_self, List.drop_eq_getElem_cons hk]
  rfl
theorem whoL_set {p : Int} {m : List Ac} {k : Nat} (hk : k < m.length) : (whoL p m k).set k { m[k] with person := p } = whoL p m (k + 1) := by
  unfold whoL
  rw [List.set_append_right _ _ (by rw [List.length_map]; exact List.length_take_le _ _), List.length_map, List.length_take_of_le (Nat.le_of_lt hk), Nat.sub_self, List.drop_eq_getElem_cons hk, List.set_cons_zero, List.take_add_one, List.getElem?_eq_getElem hk, Option.toList_some, List.map_append, List.append_assoc]
  rfl
theorem whoL_all (p : Int) (m : List Ac) : ∀ a ∈ whoL p m m.length, a.person = p := by
  unfold whoL
  intro a ha
  rw [List.take_length, List.drop_length, List.append_nil, List.mem_map] at ha
  obtain ⟨b, _, rfl⟩ := ha
  rfl
theorem prop_zero {L : List Dg} (h : stateB L = true) {d : Dg} (hd : d ∈ L) (hp : ¬ 0 < d.prop) : d.prop = 0 := by
  rcases (sound_parts ((stateB_iff.1 h).1 d hd)).2.1 with e | e
  · exact e
  · unfold numB at e; simp at e; omega
theorem zero_told {L : List Dg} (h : stateB L = true) {d : Dg} (hd : d ∈ L) (hp : d.prop = 0) : d.told = true := ((sound_parts ((stateB_iff.1 h).1 d hd)).2.2.1 hp).2
end Ey
