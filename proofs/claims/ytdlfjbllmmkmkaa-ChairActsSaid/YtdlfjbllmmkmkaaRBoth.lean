/- A chair and the document's side by side in one world. -/
import Derived.Test.YtdlfjbllmmkmkaaRDo
import Derived.Test.YtdlfjbllmmkmkaaReplay
namespace Go.Proofs.Ytdlfjbllmmkmkaa.Chair
open Go.RowKit Flat ChairSpec News Go.Proofs.YtdlfjbllmmkmkaaW.PrintLast
set_option linter.unusedSimpArgs false
set_option linter.unusedVariables false
structure Both (w : World) (g bm gm : Nat) (lv dv lm : Value) (c : Nat) (s : Ch) (D : Ds) (L : List Re) : Prop where
  chair : ChairAt w g bm lv c s
  deals : IsDeals w dv D
  log : IsLog w lm L
  mem : w.rangeAt gm 0 (chc dv lm)
  mth : w.there gm 0 2
  gmg : g < gm
  lvm : ∀ k, lv.ownBlock = some k → k ≠ gm
  dvb : ∀ k, dv.ownBlock = some k → 0 < D.length → gm < k ∧ lv.ownBlock ≠ some k
  lmb : ∀ k, lm.ownBlock = some k → 0 < L.length → gm < k ∧ lv.ownBlock ≠ some k
theorem Both.lt {w : World} {g bm gm : Nat} {lv dv lm : Value} {c : Nat} {s : Ch} {D : Ds} {L : List Re} (h : Both w g bm gm lv dv lm c s D L) : gm < w.heap.size := Flat.cell_lt (h.mem 0 _ rfl)
theorem Both.below {w w' : World} {g bm gm : Nat} {lv dv lm : Value} {c : Nat} {s : Ch} {D : Ds} {L : List Re} (h : Both w g bm gm lv dv lm c s D L) (hb : Below w.heap.size w w') : Both w' g bm gm lv dv lm c s D L :=
  ⟨h.chair.below hb, h.deals.below hb, IsSl.below h.log hb, fun j u hu => (hb.cell (p := ⟨gm, 0 + j, none⟩) h.lt).trans (h.mem j u hu), there_below h.mth hb, h.gmg, h.lvm, h.dvb, h.lmb⟩
theorem IsSl.block {w w' : World} {v : Value} {n : Nat} {xs : List Value} (h : IsSl w v n xs) (hs : w.heap.size ≤ w'.heap.size) (hk : ∀ k, v.ownBlock = some k → 0 < n → w'.heap[k]? = w.heap[k]?) : IsSl w' v n xs := by
  obtain ⟨a, cap, rfl, h1, h2, hc⟩ := h
  refine ⟨a, cap, rfl, h1, h2, fun hl => ?_⟩
  obtain ⟨b, off, rfl, hb, hd⟩ := hc hl
  have e := hk b rfl hl
  exact ⟨b, off, rfl, Nat.lt_of_lt_of_le hb hs, fun j u hu => (cell_block e).trans (hd j u hu)⟩
/-- The chair's call leaves the document's alone. -/
theorem Both.acted {w w' : World} {g bm gm : Nat} {lv lv' dv lm : Value} {c c' : Nat} {s s' : Ch} {D : Ds} {L : List Re} (h : Both w g bm gm lv dv lm c s D L) (ha : Apart w w' g bm lv) (hc : ChairAt w' g bm lv' c' s') (hl : Loc w lv lv') : Both w' g bm gm lv' dv lm c' s' D L := by
  have hlt := h.lt
  have hbl := h.chair.lt
  have hgm := h.gmg
  have hm : w'.heap[gm]? = w.heap[gm]? := ha.block gm hlt (by omega) (by omega) (fun e => h.lvm gm e.symm rfl)
  have hd : IsSl w' dv D.length (dcl D) := IsSl.block h.deals.sl ha.size fun k hk hl => by
    obtain ⟨h1, h2⟩ := h.dvb k hk hl
    exact ha.block k (h.deals.lt k hk hl) (by omega) (by omega) (fun e => h2 e.symm)
  have hg : IsSl w' lm L.length (rcl L) := IsSl.block h.log ha.size fun k hk hl => by
    obtain ⟨h1, h2⟩ := h.lmb k hk hl
    exact ha.block k (IsSl.lt h.log k hk hl) (by omega) (by omega) (fun e => h2 e.symm)
  refine ⟨hc, isDeals_of hd, hg, fun j u hu => (cell_block hm).trans (h.mem j u hu), fun j hj => ?_, h.gmg, fun k hk => ?_, fun k hk hp => ⟨(h.dvb k hk hp).1, ?_⟩, fun k hk hp => ⟨(h.lmb k hk hp).1, ?_⟩⟩
  · have := h.mth j hj
    unfold World.frozen? at this ⊢
    rw [cell_block hm]
    simp only [hm]
    exact this
  · rcases hl with e | e
    · exact h.lvm k (e ▸ hk)
    · have := e k hk; omega
  · rcases hl with e | e
    · rw [e]; exact (h.dvb k hk hp).2
    · intro e2; have := e k e2; have := h.deals.lt k hk hp; omega
  · rcases hl with e | e
    · rw [e]; exact (h.lmb k hk hp).2
    · intro e2; have := e k e2; have := IsSl.lt h.log k hk hp; omega
/-- What the document's Do leaves. -/
def RefOut (W w' : World) (dv lm v' u' : Value) (D' : Ds) (L' : List Re) : Prop := IsDeals w' v' D' ∧ IsLog w' u' L' ∧ (v' = dv ∨ ∀ k, v'.ownBlock = some k → W.heap.size ≤ k) ∧ (u' = lm ∨ ∀ k, u'.ownBlock = some k → W.heap.size ≤ k)
theorem RefOut.below {W w w' : World} {dv lm v' u' : Value} {D' : Ds} {L' : List Re} (h : RefOut W w dv lm v' u' D' L') (hb : Below w.heap.size w w') : RefOut W w' dv lm v' u' D' L' := ⟨h.1.below hb, IsSl.below h.2.1 hb, h.2.2⟩
theorem setCells_heap (b : Nat) : ∀ (vs : List Value) (o : Nat) (w : World) (i : Nat), i ≠ b → (w.setCells b o vs).heap[i]? = w.heap[i]?
  | [], _, _, _, _ => rfl
  | v :: r, o, w, i, h => by
    rw [World.setCells, setCells_heap b r (o + 1) _ i h]
    exact Below.heap_setCell _ _ _ _ h
theorem lo_one {w W w' : World} {dv v' : Value} {n n' gm : Nat} {xs xs' : List Value} {lv : Value} (h : IsSl w dv n xs) (h' : IsSl w' v' n' xs') (hlo : v' = dv ∨ ∀ k, v'.ownBlock = some k → W.heap.size ≤ k) (hd : ∀ k, dv.ownBlock = some k → 0 < n → gm < k ∧ lv.ownBlock ≠ some k)
    (hg : gm < W.heap.size) (hlv : ∀ k, lv.ownBlock = some k → k < W.heap.size) : ∀ k, v'.ownBlock = some k → 0 < n' → gm < k ∧ lv.ownBlock ≠ some k := by
  intro k hk hl
  rcases hlo with rfl | e
  · obtain ⟨a, cap, rfl, _⟩ := h
    obtain ⟨a', cap', e2, _⟩ := h'
    have : n = n' := by injection e2
    exact hd k hk (by omega)
  · have := e k hk
    exact ⟨by omega, fun e2 => by have := hlv k e2; omega⟩
theorem Both.stored {W W' W'' : World} {g bm gm : Nat} {lv dv lm v' u' : Value} {c : Nat} {s : Ch} {D D' : Ds} {L L' : List Re} (h : Both W g bm gm lv dv lm c s D L) (hb : Below W.heap.size W W') (hr : RefOut W W' dv lm v' u' D' L') (e : W'.setCells gm 0 (chc v' u').toArray.toList = W'') :
    Both W'' g bm gm lv v' u' c s D' L' := by
  obtain ⟨h1, h2, h3, h4⟩ := hr
  have hB := h.below hb
  have hd := lo_one h.deals.sl h1.sl h3 h.dvb h.lt (fun k hk => (h.chair.row.lt k hk).2)
  have hl := lo_one h.log h2 h4 h.lmb h.lt (fun k hk => (h.chair.row.lt k hk).2)
  refine ⟨hB.chair.heap ?_ ?_ ?_, h1.keep e fun k hk hp => ?_, IsSl.keep h2 e fun k hk hp => ?_, ?_, ?_, h.gmg, h.lvm, hd, hl⟩
  · rw [← e]; exact setCells_heap _ _ _ _ _ (by have := h.gmg; omega)
  · rw [← e]; exact setCells_heap _ _ _ _ _ (by have := h.gmg; have := h.chair.lt; omega)
  · intro i hi; rw [← e]; exact setCells_heap _ _ _ _ _ (h.lvm i hi)
  · have := (hd k hk hp).1; omega
  · have := (hl k hk hp).1; omega
  · rw [← e]; exact World.rangeAt_setCells_same _ _ _ _ hB.mth
  · rw [← e]; exact World.there_setCells hB.mth _ _ _
theorem Both.bel {W W' W'' : World} {g bm gm B : Nat} {lv dv lm v' u' : Value} {c : Nat} {s : Ch} {D : Ds} {L : List Re} (h : Both W g bm gm lv dv lm c s D L) (hB : B ≤ bm) (h0 : Below B W W') (e : W'.setCells gm 0 (chc v' u').toArray.toList = W'') : Below B W W'' :=
  below_cells _ _ _ h0 (by have := h.gmg; have := h.chair.lt; omega) e
/-- The document's chair of the first k calls. -/
def playR (l : List Re) (k : Nat) : ChR := (l.take k).foldl (fun m r => (doR m r).1) ⟨[], []⟩
theorem playR_succ (l : List Re) (k : Nat) (h : k < l.length) : playR l (k + 1) = (doR (playR l k) l[k]).1 := by
  rw [playR, List.take_succ_eq_append_getElem h, List.foldl_append]
  rfl
theorem playR_agree (l : List Re) : ∀ k, k ≤ l.length → Agree (playR l k).deals (playC l k).deals ∧ (playR l k).log = (playC l k).log ∧ (playR l k).deals.length ≤ k
  | 0, _ => ⟨by simpa [playR, playC, c0] using agree_nil, by simp [playR, playC, c0], by simp [playR]⟩
  | k + 1, h => by
    obtain ⟨h1, h2, h3⟩ := playR_agree l k (by omega)
    rw [playR_succ l k (by omega), play_succ l k (by omega)]
    obtain ⟨_, e2, e3⟩ := do_law h1 h2 l[k]
    exact ⟨e2, e3, Nat.le_trans (doR_len _ _) (by omega)⟩
end Go.Proofs.Ytdlfjbllmmkmkaa.Chair
