/- Replay: a chair that is made of records; two chairs in one world. -/
import Derived.Test.YtdlfjbllmmkmkaaPlayed
namespace Go.Proofs.Ytdlfjbllmmkmkaa.Chair
open Go.RowKit Go.Maps Flat ChairSpec News Go.Proofs.YtdlfjbllmmkmkaaW.PrintLast
set_option linter.unusedSimpArgs false
set_option linter.unusedVariables false
set_option maxRecDepth 100000
/-! ### in plain Lean -/
def replayF (s : Ch) : List Re → Option Ch
  | [] => some s
  | r :: l => if (doC s r).2.2 = 0 then replayF (doC s r).1 l else none
theorem replay_append (s : Ch) (a b : List Re) : replayF s (a ++ b) = (replayF s a).bind fun t => replayF t b := by
  induction a generalizing s with
  | nil => rfl
  | cons r a ih =>
    rw [List.cons_append, replayF, replayF]
    split
    · exact ih _
    · rfl
theorem doC_err {s : Ch} {r : Re} (h : (doC s r).2.2 ≠ 0) : (doC s r).1 = s := by
  unfold doC at h ⊢
  split
  · rfl
  · rename_i h1
    rw [if_neg h1] at h
    split
    · rfl
    · rename_i h2; rw [if_neg h2] at h; exact absurd rfl h
theorem doC_log {s : Ch} {r : Re} (h : (doC s r).2.2 = 0) : (doC s r).1.log = s.log ++ [r] := by
  unfold doC at h ⊢
  split
  · rename_i h1; rw [if_pos h1] at h; cases h
  · rename_i h1
    rw [if_neg h1] at h
    split
    · rename_i h2; rw [if_pos h2] at h; exact absurd h h2
    · rfl
/-- A chair that its log makes. -/
def LogMakes (s : Ch) : Prop := replayF c0 s.log = some s
theorem told_do {s : Ch} (h : LogMakes s) (r : Re) : LogMakes (doC s r).1 := by
  by_cases he : (doC s r).2.2 = 0
  · unfold LogMakes
    rw [doC_log he, replay_append, show replayF c0 s.log = some s from h]
    show replayF s [r] = _
    rw [replayF, if_pos he]
    rfl
  · rw [doC_err he]; exact h
theorem told_none {s : Ch} (h : LogMakes s) {r : Re} (he : (doC s r).2.2 ≠ 0) : replayF c0 (s.log ++ [r]) = none := by
  rw [replay_append, show replayF c0 s.log = some s from h]
  show replayF s [r] = _
  rw [replayF, if_neg he]
theorem told_play (l : List Re) (k : Nat) : LogMakes (playC l k) := by
  induction k with
  | zero => rfl
  | succ k ih =>
    by_cases hk : k < l.length
    · rw [play_succ l k hk]; exact told_do ih _
    · have e : playC l (k + 1) = playC l k := by rw [playC, playC, List.take_of_length_le (by omega), List.take_of_length_le (by omega)]
      rw [e]; exact ih
/-- Of the records of a log each has a node that a byte can be. -/
def LogOk (s : Ch) : Prop := ∀ r ∈ s.log, 0 ≤ r.who ∧ r.who ≤ 255
theorem logok_do {s : Ch} (h : LogOk s) {r : Re} (h0 : 0 ≤ r.who) (h1 : r.who ≤ 255) : LogOk (doC s r).1 := by
  by_cases he : (doC s r).2.2 = 0
  · unfold LogOk
    rw [doC_log he]
    intro x hx
    rcases List.mem_append.1 hx with h2 | h2
    · exact h x h2
    · rw [List.mem_singleton] at h2; subst h2; exact ⟨h0, h1⟩
  · rw [doC_err he]; exact h
theorem logok_play (l : List Re) (hok : ∀ r ∈ l, ReOk r) (k : Nat) : LogOk (playC l k) := by
  induction k with
  | zero => intro r hr; cases hr
  | succ k ih =>
    by_cases hk : k < l.length
    · rw [play_succ l k hk]
      have := hok _ (List.getElem_mem hk)
      exact logok_do ih this.1 this.2.1
    · have e : playC l (k + 1) = playC l k := by rw [playC, playC, List.take_of_length_le (by omega), List.take_of_length_le (by omega)]
      rw [e]; exact ih
/-! ### two chairs -/
theorem ChairAt.heap {w w' : World} {g bm c : Nat} {lv : Value} {s : Ch} (h : ChairAt w g bm lv c s) (h1 : w'.heap[g]? = w.heap[g]?) (h2 : w'.heap[bm]? = w.heap[bm]?) (h3 : ∀ i, lv.ownBlock = some i → w'.heap[i]? = w.heap[i]?) : ChairAt w' g bm lv c s where
  map := (cell_block h1).trans h.map
  lt := h.lt
  fz := by
    have := h.fz
    unfold World.frozen? at this ⊢
    simp only [h1]
    exact this
  own := h.own.heap h2
  few := h.few
  keys := h.keys
  logc := (cell_block h1).trans h.logc
  row := own_block h.row h3
theorem ChairAt.away {w w' : World} {g bm c : Nat} {lv : Value} {s : Ch} {g' bm' : Nat} {lv' : Value} (h : ChairAt w g bm lv c s) (hap : Apart w w' g' bm' lv') (h1 : g ≠ g') (h2 : g ≠ bm') (h3 : some g ≠ lv'.ownBlock) (h4 : bm ≠ g') (h5 : bm ≠ bm') (h6 : some bm ≠ lv'.ownBlock) (h7 : ∀ i, lv.ownBlock = some i → i ≠ g' ∧ i ≠ bm' ∧ some i ≠ lv'.ownBlock) : ChairAt w' g bm lv c s :=
  h.heap (hap.block g (Flat.cell_lt h.map) h1 h2 h3) (hap.block bm h.own.lt h4 h5 h6) (fun i hi => hap.block i (h.row.lt i hi).2 (h7 i hi).1 (h7 i hi).2.1 (h7 i hi).2.2)
/-- The elder chair's row is none of the younger one's blocks. -/
structure Two (g bm : Nat) (lv : Value) (g' bm' : Nat) (lv' : Value) : Prop where
  lt : g < bm'
  ng : lv.ownBlock ≠ some g'
  nm : lv.ownBlock ≠ some bm'
  nr : ∀ i, lv.ownBlock = some i → lv'.ownBlock ≠ some i
theorem Two.elder {w w' : World} {g bm c g' bm' c' : Nat} {lv lv' : Value} {s s' : Ch} (t : Two g bm lv g' bm' lv') (h : ChairAt w g bm lv c s) (h' : ChairAt w g' bm' lv' c' s') (hap : Apart w w' g bm lv) : ChairAt w' g' bm' lv' c' s' := by
  have a := t.lt
  have b := h.lt
  have d := h'.lt
  refine h'.away hap (by omega) (by omega) (fun e => t.ng e.symm) (by omega) (by omega) (fun e => t.nm e.symm) (fun i hi => ⟨?_, ?_, fun e => t.nr i e.symm hi⟩)
  · have := (h'.row.lt i hi).1; omega
  · have := (h'.row.lt i hi).1; omega
theorem Two.younger {w w' : World} {g bm c g' bm' c' : Nat} {lv lv' : Value} {s s' : Ch} (t : Two g bm lv g' bm' lv') (h : ChairAt w g bm lv c s) (h' : ChairAt w g' bm' lv' c' s') (hap : Apart w w' g' bm' lv') : ChairAt w' g bm lv c s := by
  have a := t.lt
  have b := h.lt
  have d := h'.lt
  refine h.away hap (by omega) (by omega) (fun e => by have := (h'.row.lt g e.symm).1; omega) (by omega) (by omega) (fun e => by have := (h'.row.lt bm e.symm).1; omega) (fun i hi => ⟨fun e => t.ng (by rw [hi, e]), fun e => t.nm (by rw [hi, e]), fun e => t.nr i hi e.symm⟩)
theorem Two.moved {w : World} {g bm g' bm' c' : Nat} {lv lv' lv2 : Value} {s' : Ch} (t : Two g bm lv g' bm' lv') (h' : ChairAt w g' bm' lv' c' s') (hl : Loc w lv lv2) : Two g bm lv2 g' bm' lv' := by
  rcases hl with e | e
  · exact ⟨t.lt, by rw [e]; exact t.ng, by rw [e]; exact t.nm, fun i hi => t.nr i (by rw [← e]; exact hi)⟩
  · have k := Flat.cell_lt h'.map
    have d := h'.own.lt
    refine ⟨t.lt, fun h => ?_, fun h => ?_, fun i hi h => ?_⟩
    · have := e _ h; omega
    · have := e _ h; omega
    · have := e _ hi
      have := (h'.row.lt i h).2
      omega
theorem Two.moved' {w : World} {g bm g' bm' c : Nat} {lv lv' lv2 : Value} {s : Ch} (t : Two g bm lv g' bm' lv') (h : ChairAt w g bm lv c s) (hl : Loc w lv' lv2) : Two g bm lv g' bm' lv2 := by
  rcases hl with e | e
  · exact ⟨t.lt, t.ng, t.nm, fun i hi => by rw [e]; exact t.nr i hi⟩
  · refine ⟨t.lt, t.ng, t.nm, fun i hi h2 => ?_⟩
    have := e _ h2
    have := (h.row.lt i hi).2
    omega
/-! ### the walk -/
def ReplayPost (w : World) (l : List Re) (e : Ending) (w' : World) : Prop :=
  Below w.heap.size w w' ∧ match replayF c0 l with
  | some s => ∃ g bm lv c, e = .returned (.tuple #[.pointer (some ⟨g, 0, none⟩), .int .i64 0]) ∧ ChairAt w' g bm lv c s ∧ w.heap.size ≤ bm
  | none => e = .returned (.tuple #[.pointer none, .int .i64 4])
theorem drop_at {l : List Re} {k : Nat} (h : k < l.length) : l.drop k = l[k] :: l.drop (k + 1) := List.drop_eq_getElem_cons h
set_option maxHeartbeats 8000000 in
theorem replay_any (w : World) (a0 : Option Addr) (cap0 : Nat) (l : List Re) (hcm : cap0 ≤ maxLen) (hlc : l.length ≤ cap0) (hl6 : l.length < 1000000) (hok : ∀ r ∈ l, 0 ≤ r.who ∧ r.who ≤ 255) (hrec : IsRecs w w.heap.size a0 l) :
    Calls Try.prog 22 #[.slice a0 l.length cap0] w (ReplayPost w l) := by
  have HREC := Lib.hid hrec
  have HOK := Lib.hid hok
  have hcm' := hcm
  unfold maxLen at hcm'
  clear hrec hok
  go_enter Try.func22, Try.ntmps22
  go_wp2_with fail
  refine (chair_new w).mono ?_
  rintro r v1 ⟨g, bm, rfl, hbm0, hbmg, hgl, h0, h1, hf, ho, hb1⟩
  have HC1 := Lib.hid (chair_made h0 hbmg h1 hf ho)
  have HB1 := Lib.hid hb1
  clear h0 h1 hf ho hb1
  go_wp2_with fail
  go_loopw [12] (fun i wr => ∃ (k : Nat) (s : Ch) (lv : Value) (c : Nat), k ≤ l.length ∧ i = .int .i64 (k : Int) ∧ replayF s (l.drop k) = replayF c0 l ∧ s.log.length ≤ k ∧ ChairAt wr g bm lv c s ∧ Below w.heap.size w wr) (fun i _ => l.length - (intOf i).toNat)
  case atStart => exact ⟨0, c0, _, _, by omega, rfl, rfl, Nat.le_refl _, HC1.out, HB1.out⟩
  case round =>
    obtain ⟨wo, h_wo⟩ : ∃ v : World, v = wr := ⟨_, rfl⟩; subst h_wo
    obtain ⟨k, s, lv, c, hk, rfl, hrp, hsl, hC, hB⟩ := hrel
    have HRP := Lib.hid hrp
    have HC := Lib.hid hC
    have HB := Lib.hid hB
    clear hC hB hrp
    by_cases hkl : k = l.length
    · have hkI : ¬ (k : Int) < (l.length : Int) := by omega
      have hp : replayF c0 l = some s := by have h := HRP.out; rw [List.drop_of_length_le (by omega)] at h; exact h.symm
      have HP := Lib.hid hp
      clear hp
      go_wp2_with fail
      go_ret2
      refine ⟨HB.out, ?_⟩
      rw [HP.out]
      exact ⟨g, bm, lv, c, rfl, HC.out, hbm0⟩
    · have hkI : (k : Int) < (l.length : Int) := by omega
      have hk0 : (0 : Int) ≤ (k : Int) := by omega
      have hlt : k < l.length := by omega
      obtain ⟨b, off, rfl, hbl, hcc⟩ := HREC.out (by omega)
      have hq := fun j v hv => (HB.out.cell (p := ⟨b, off + (k * 8 + j), none⟩) hbl).trans (hcc k hlt j v hv)
      have hro := HOK.out _ (List.getElem_mem hlt)
      have hps := HRP.out
      rw [drop_at hlt, replayF] at hps
      generalize l[k] = r at *
      obtain ⟨kd, tx, who, ep, vt, now, sp, cp⟩ := r
      obtain ⟨w0, w255⟩ := hro
      dsimp only at w0 w255
      obtain ⟨n, rfl⟩ : ∃ n : Nat, who = (n : Int) := ⟨who.toNat, by omega⟩
      have q0 := hq 0 _ rfl
      have q1 := hq 1 _ rfl
      have q2 := hq 2 _ rfl
      have q3 := hq 3 _ rfl
      have q4 := hq 4 _ rfl
      have q5 := hq 5 _ rfl
      have q6 := hq 6 _ rfl
      have q7 := hq 7 _ rfl
      simp only [Nat.add_zero, ← Nat.add_assoc] at q0 q1 q2 q3 q4 q5 q6 q7
      have HPS := Lib.hid hps
      have HDO := Lib.hid (fun (W : World) (h : ChairAt W g bm lv c s) => do_any g bm c lv s kd tx ep vt now sp cp n (by omega) (by omega) W h)
      have HLE := Lib.hid (doC_len s ⟨kd, tx, n, ep, vt, now, sp, cp⟩)
      clear hq hcc hps
      obtain ⟨pp, HPP⟩ : ∃ pp, Hid (doC s ⟨kd, tx, n, ep, vt, now, sp, cp⟩ = pp) := ⟨_, Lib.hid rfl⟩
      rw [HPP.out] at HDO HPS HLE
      obtain ⟨s2, n2, e2⟩ := pp
      dsimp only at HPS HLE
      clear HPP HRP
      go_wp2_with fail
      generalize hv4 : World.alloc wo _ = v4
      obtain ⟨hb4, hz4, hc4⟩ := alloc_facts hv4
      have HB4 := Lib.hid (HB.out.trans (hb4.mono HB.out.size))
      refine (HDO.out v4 (HC.out.below hb4)).mono ?_
      rintro e v5 ⟨rfl, hap, lv', c', hC', hloc⟩
      have HC5 := Lib.hid hC'
      have HB5 := Lib.hid (HB4.out.trans (hap.below (HC.out.below hb4) hbm0 HB4.out.size))
      clear hap hC' hloc HDO hb4 hc4 hv4 q0 q1 q2 q3 q4 q5 q6 q7
      by_cases he : e2 = 0
      · subst he
        have HPS2 : Hid (replayF s2 (l.drop (k + 1)) = replayF c0 l) := Lib.hid (by have h := HPS.out; rwa [if_pos rfl] at h)
        have hle := HLE.out
        go_wp2_with fail
        exact ⟨⟨k + 1, s2, lv', c', by omega, by go_num, HPS2.out, by omega, HC5.out, HB5.out⟩, by simp [intOf]; omega⟩
      · have b1 : (e2 != 0) = true := bne_iff_ne.2 he
        have b2 : (e2 == 0) = false := beq_eq_false_iff_ne.2 he
        have HPS2 : Hid (replayF c0 l = none) := Lib.hid (by have h := HPS.out; rw [if_neg he] at h; exact h.symm)
        go_wp2_with fail
        go_ret2
        refine ⟨HB5.out, ?_⟩
        rw [HPS2.out]
        rfl
end Go.Proofs.Ytdlfjbllmmkmkaa.Chair
