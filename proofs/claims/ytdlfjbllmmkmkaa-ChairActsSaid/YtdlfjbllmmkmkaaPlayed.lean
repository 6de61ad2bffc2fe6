/- Records that came in; a chair of calls. -/
import Derived.Test.YtdlfjbllmmkmkaaChairAlive
namespace Go.Proofs.Ytdlfjbllmmkmkaa.Chair
open Go.RowKit Go.Maps Flat ChairSpec News Go.Proofs.YtdlfjbllmmkmkaaW.PrintLast
set_option linter.unusedSimpArgs false
set_option linter.unusedVariables false
set_option maxRecDepth 100000
def ReOk (r : Re) : Prop := 0 ≤ r.who ∧ r.who ≤ 255 ∧ (Lit.int .i64 r.tx).wf = true
def IsRecs (w : World) (B : Nat) (a : Option Addr) (l : List Re) : Prop :=
  0 < l.length → ∃ b off, a = some ⟨b, off, none⟩ ∧ b < B ∧ ∀ i (h : i < l.length), ∀ j v, (rec1 l[i])[j]? = some v → w.cell? ⟨b, off + (i * 8 + j), none⟩ = some v
theorem fits_rec {x : List Value} (h : Fits [.int .i64, .int .i64, .int .u8, .int .i64, .int .i64, .int .i64, .int .i64, .int .i64] x) : ∃ r : Re, ReOk r ∧ x = rec1 r := by
  obtain ⟨a1, x1, rfl, w1, h⟩ := h.int
  obtain ⟨a2, x2, rfl, w2, h⟩ := h.int
  obtain ⟨a3, x3, rfl, w3, h⟩ := h.int
  obtain ⟨a4, x4, rfl, w4, h⟩ := h.int
  obtain ⟨a5, x5, rfl, w5, h⟩ := h.int
  obtain ⟨a6, x6, rfl, w6, h⟩ := h.int
  obtain ⟨a7, x7, rfl, w7, h⟩ := h.int
  obtain ⟨a8, x8, rfl, w8, h⟩ := h.int
  obtain rfl := h.done
  obtain ⟨b1, b2⟩ := bounds_u8 w3
  exact ⟨⟨a1, a2, a3, a4, a5, a6, a7, a8⟩, ⟨b1, b2, w2⟩, rfl⟩
theorem recs_of {w : World} {a : Option Addr} {len cap : Nat} {rows : List (List Value)} (h : IsRows [.int .i64, .int .i64, .int .u8, .int .i64, .int .i64, .int .i64, .int .i64, .int .i64] w a len cap rows) :
    ∃ l : List Re, l.length = len ∧ len ≤ cap ∧ cap ≤ maxLen ∧ (∀ r ∈ l, ReOk r) ∧ IsRecs w w.heap.size a l := by
  obtain ⟨hl, hlc, hcm, hf, hc⟩ := h
  have key : ∀ rows : List (List Value), (∀ x ∈ rows, Fits [.int .i64, .int .i64, .int .u8, .int .i64, .int .i64, .int .i64, .int .i64, .int .i64] x) → ∃ l : List Re, l.map rec1 = rows ∧ ∀ r ∈ l, ReOk r := by
    intro rows
    induction rows with
    | nil => intro _; exact ⟨[], rfl, by simp⟩
    | cons x rows ih =>
      intro hall
      obtain ⟨l, h1, h2⟩ := ih (fun y hy => hall y (List.mem_cons_of_mem _ hy))
      obtain ⟨r, hr, rfl⟩ := fits_rec (hall x (by simp))
      exact ⟨r :: l, by rw [List.map_cons, h1], by
        intro y hy
        rcases List.mem_cons.1 hy with rfl | hy
        · exact hr
        · exact h2 y hy⟩
  obtain ⟨l, h1, h2⟩ := key rows hf
  have hll : l.length = len := by rw [← hl, ← h1, List.length_map]
  refine ⟨l, hll, hlc, hcm, h2, fun hpos => ?_⟩
  obtain ⟨b, off, ha, hd⟩ := hc (by omega)
  have hcell : ∀ i (h : i < l.length), ∀ j v, (rec1 l[i])[j]? = some v → w.cell? ⟨b, off + (i * 8 + j), none⟩ = some v := fun i hi j v hv => by
    have hj : j < 8 := (List.getElem?_eq_some_iff.1 hv).1
    have e := hd i (by omega) j hj
    rw [show rows.getD i [] = rec1 l[i] by rw [← h1]; simp [hi]] at e
    exact e.trans hv
  exact ⟨b, off, ha, Flat.cell_lt (hcell 0 hpos 0 _ rfl), hcell⟩
theorem IsRecs.below {w w' : World} {B : Nat} {a : Option Addr} {l : List Re} (h : IsRecs w B a l) (hb : Below B w w') : IsRecs w' B a l := fun hl => by
  obtain ⟨b, off, ha, hbB, hc⟩ := h hl
  exact ⟨b, off, ha, hbB, fun i hi j v hv => (hb.cell (p := ⟨b, off + (i * 8 + j), none⟩) hbB).trans (hc i hi j v hv)⟩
/-- The chair of the first k calls. -/
def playC (l : List Re) (k : Nat) : Ch := (l.take k).foldl (fun s r => (doC s r).1) c0
theorem play_succ (l : List Re) (k : Nat) (h : k < l.length) : playC l (k + 1) = (doC (playC l k) l[k]).1 := by
  rw [playC, List.take_succ_eq_append_getElem h, List.foldl_append]
  rfl
theorem doC_len (s : Ch) (r : Re) : (doC s r).1.log.length ≤ s.log.length + 1 := by
  unfold doC
  split
  · exact Nat.le_succ _
  · split
    · exact Nat.le_succ _
    · simp
theorem play_len (l : List Re) (k : Nat) : (playC l k).log.length ≤ k := by
  induction k with
  | zero => exact Nat.le_refl 0
  | succ k ih =>
    by_cases h : k < l.length
    · rw [play_succ l k h]
      exact Nat.le_trans (doC_len _ _) (by omega)
    · have : playC l (k + 1) = playC l k := by rw [playC, playC, List.take_of_length_le (by omega), List.take_of_length_le (by omega)]
      rw [this]; omega
def played (l : List Re) : Ch := playC l (min l.length 120)
def PlayedPost (w : World) (l : List Re) (e : Ending) (w' : World) : Prop := ∃ g bm lv c, e = .returned (.pointer (some ⟨g, 0, none⟩)) ∧ ChairAt w' g bm lv c (played l) ∧ w.heap.size ≤ bm ∧ Below w.heap.size w w'
set_option maxHeartbeats 8000000 in
theorem played_any (w : World) (a0 : Option Addr) (cap0 : Nat) (l : List Re) (hcm : cap0 ≤ maxLen) (hlc : l.length ≤ cap0) (hok : ∀ r ∈ l, ReOk r) (hrec : IsRecs w w.heap.size a0 l) :
    Calls Try.prog 20 #[.slice a0 l.length cap0] w (PlayedPost w l) := by
  have HREC := Lib.hid hrec
  have HOK := Lib.hid hok
  have hcm' := hcm
  unfold maxLen at hcm'
  clear hrec hok
  go_enter Try.func20, Try.ntmps20
  go_wp2_with fail
  refine (chair_new w).mono ?_
  rintro r v1 ⟨g, bm, rfl, hbm0, hbmg, hgl, h0, h1, hf, ho, hb1⟩
  have HC1 := Lib.hid (chair_made h0 hbmg h1 hf ho)
  have HB1 := Lib.hid hb1
  clear h0 h1 hf ho hb1
  go_wp2_with fail
  go_loopw [4] (fun i wr => ∃ k : Nat, k ≤ l.length ∧ k ≤ 120 ∧ i = .int .i64 (k : Int) ∧ (∃ lv c, ChairAt wr g bm lv c (playC l k)) ∧ Below w.heap.size w wr) (fun i _ => 120 - (intOf i).toNat)
  case atStart => exact ⟨0, by omega, by omega, rfl, ⟨_, _, HC1.out⟩, HB1.out⟩
  case round =>
    obtain ⟨wo, h_wo⟩ : ∃ v : World, v = wr := ⟨_, rfl⟩; subst h_wo
    obtain ⟨k, hk, hk120, rfl, ⟨lv, c, hC⟩, hB⟩ := hrel
    have HC := Lib.hid hC
    have HB := Lib.hid hB
    clear hC hB
    by_cases hkl : k = l.length
    · have hkI : ¬ (k : Int) < (l.length : Int) := by omega
      have hp : played l = playC l k := by rw [played, show min l.length 120 = k by omega]
      have HP := Lib.hid hp
      clear hp
      go_wp2_with fail
      go_ret
      exact ⟨g, bm, lv, c, rfl, by rw [HP.out]; exact HC.out, hbm0, HB.out⟩
    · have hkI : (k : Int) < (l.length : Int) := by omega
      by_cases hk2 : k = 120
      · have hkJ : ¬ (k : Int) < 120 := by omega
        have hp : played l = playC l k := by rw [played, show min l.length 120 = k by omega]
        have HP := Lib.hid hp
        clear hp
        go_wp2_with fail
        go_ret
        exact ⟨g, bm, lv, c, rfl, by rw [HP.out]; exact HC.out, hbm0, HB.out⟩
      · have hkJ : (k : Int) < 120 := by omega
        have hk0 : (0 : Int) ≤ (k : Int) := by omega
        have hlt : k < l.length := by omega
        obtain ⟨b, off, rfl, hbl, hcc⟩ := HREC.out (by omega)
        have hq := fun j v hv => (HB.out.cell (p := ⟨b, off + (k * 8 + j), none⟩) hbl).trans (hcc k hlt j v hv)
        have hro := HOK.out _ (List.getElem_mem hlt)
        have hps := play_succ l k hlt
        have hpl := play_len l k
        generalize l[k] = r at *
        obtain ⟨kd, tx, who, ep, vt, now, sp, cp⟩ := r
        obtain ⟨w0, w255, _⟩ := hro
        dsimp only at w0 w255
        obtain ⟨n, rfl⟩ : ∃ n : Nat, who = (n : Int) := ⟨who.toNat, by omega⟩
        have q0 := hq 0 _ rfl
        have q1 := hq 1 _ rfl
        have q2 := hq 2 _ rfl
        have q3 := hq 3 _ rfl
        have q4 := hq 4 _ rfl
        have q5 := hq 5 _ rfl
        have q6 := hq 6 _ rfl
        have q7 := hq 7 _ rfl
        simp only [Nat.add_zero, ← Nat.add_assoc] at q0 q1 q2 q3 q4 q5 q6 q7
        have HPS := Lib.hid hps
        have HDO := Lib.hid (do_any g bm c lv (playC l k) kd tx ep vt now sp cp n (by omega) (by omega) wo HC.out)
        clear hq hcc hps
        go_wp2_with fail
        refine HDO.out.mono ?_
        rintro e v5 ⟨rfl, hap, lv', c', hC', hloc⟩
        have HC5 := Lib.hid hC'
        have HB5 := Lib.hid (HB.out.trans (hap.below HC.out hbm0 HB.out.size))
        clear hap hC' hloc HDO
        go_wp2_with fail
        exact ⟨⟨k + 1, by omega, by omega, by go_num, ⟨lv', c', by rw [HPS.out]; exact HC5.out⟩, HB5.out⟩, by simp [intOf]; omega⟩
end Go.Proofs.Ytdlfjbllmmkmkaa.Chair
