/- What chair.Do makes of any chair. -/
import Derived.Test.YtdlfjbllmmkmkaaStepAny
import Derived.Test.YtdlfjbllmmkmkaaChairGood
import Derived.Test.YtdlfjbllmmkmkaaAppend
namespace Go.Proofs.Ytdlfjbllmmkmkaa.Chair
open Go.RowKit Go.Maps Flat ChairSpec News Go.Proofs.YtdlfjbllmmkmkaaW.PrintLast
set_option linter.unusedSimpArgs false
set_option linter.unusedVariables false
set_option maxRecDepth 100000
def rec1 (r : Re) : List Value := [.int .i64 r.kind, .int .i64 r.tx, .int .u8 r.who, .int .i64 r.epoch, .int .i64 r.vote, .int .i64 r.now, .int .i64 r.span, .int .i64 r.cap]
def rcl (l : List Re) : List Value := l.flatMap rec1
theorem rcl_append (a b : List Re) : rcl (a ++ b) = rcl a ++ rcl b := by simp [rcl]
theorem rec1_one (r : Re) : ∀ u ∈ rec1 r, u.oneCell' = true := by
  intro u hu
  simp only [rec1, List.mem_cons, List.not_mem_nil, or_false] at hu
  rcases hu with rfl | rfl | rfl | rfl | rfl | rfl | rfl | rfl <;> rfl
theorem new_rec1 {w : World} {r : Re} {t : TypeId} {j : Nat} {u : Value} (h : (rec1 r)[j]? = some u) :
    (w.drew.alloc (.cells #[.int .i64 r.kind, .int .i64 r.tx, .int .u8 r.who, .int .i64 r.epoch, .int .i64 r.vote, .int .i64 r.now, .int .i64 r.span, .int .i64 r.cap] t)).cell? ((⟨w.heap.size, 0, none⟩ : Addr).add j) = some u := by
  have e : ((⟨w.heap.size, 0, none⟩ : Addr).add j) = ⟨w.heap.size, j, none⟩ := by unfold Addr.add; split <;> simp_all
  rw [e]
  have k := World.cell?_alloc_new (w := w.drew) #[.int .i64 r.kind, .int .i64 r.tx, .int .u8 r.who, .int .i64 r.epoch, .int .i64 r.vote, .int .i64 r.now, .int .i64 r.span, .int .i64 r.cap] t j
  rw [show w.drew.heap.size = w.heap.size from rfl] at k
  rw [k]
  simpa [rec1] using h
/-- A slice appended, in a region that draws its order; where the row lies behind. -/
theorem append_rowL_ {P : Program} {ops : Array Oper} {Q : Exit → Act → World → Prop} {oi : Oper} {N : Option Tmp} {a : Act} {w : World} {K : Act → World → Prop} (hw : Region.wanted oi (yielded ops a.tmps) = true) (hN : oi.dst = N)
    (s x : Operand) (t : TypeId) (ho : oi.op = .call { callee := .builtin .append, args := #[s, x], argTypes := #[t, t] })
    (base : Nat) (e : TypeId) (i : TypeInfo) (z : Value) (size bytes : Nat) (ht : P.underlying t = some (.slice e)) (hi : P.info? e = some i) (hz : i.zero = some z)
    (hsize : i.size = size) (hby : i.bytes = bytes) (hzs : z.cells.size = size) (hsz : 0 < size)
    (v : Value) (n : Nat) (xs : List Value) (hs : a.eval s = v) (hown : w.ownsRow base e size v n xs)
    (ad : Addr) (m c : Nat) (news : List Value) (hx : a.eval x = .slice (some ad) m c) (hl : news.length = m * size) (hnews : ∀ j u, news[j]? = some u → w.cell? (ad.add j) = some u) (h1 : ∀ u ∈ news, u.oneCell' = true)
    (h63 : n + m ≤ maxLen) (hbytes : (n + m) * bytes ≤ 140737488355328) (hbase : base ≤ w.heap.size)
    (h : ∀ v' w', w'.ownsRow base e size v' (n + m) (xs ++ news) → w.grownBy w' v.ownBlock → (v'.ownBlock = v.ownBlock ∨ v'.ownBlock = some w.heap.size) → K (a.put N v') w') :
    if Region.wanted oi (yielded ops a.tmps) = true then Oper.wp P oi a w K Q else K (a.put N undef) w := by
  rw [if_pos hw]
  subst hN
  obtain ⟨v', w', hr, h2, h3, h4, h5⟩ := run_append_own_at (P := P) w base t oi.type e i z size bytes ht hi hz hsize hby hzs hsz v n xs hown ad m c news hl hnews h1 h63 hbytes hbase
  unfold Oper.wp execOp
  simp only [ho, resolve, invoke, builtin, Sem.run_bind, Sem.run_pure, Result.andThen_ok, List.map_toArray, List.map_cons, List.map_nil, hs, hx, hr]
  exact h v' w' h2 h3 h5
theorem frozen_far {w w' : World} {row : Option Nat} {g o : Nat} (h : w.grownBy w' row) (hl : g < w.heap.size) (hne : some g ≠ row) : w'.frozen? ⟨g, o, none⟩ = w.frozen? ⟨g, o, none⟩ := by
  unfold World.frozen?
  simp only [h.block g hl hne]
theorem own_blocks' {w w' : World} {base size n : Nat} {e : TypeId} {v : Value} {xs : List Value} (h : w.ownsRow base e size v n xs) (hk : ∀ i, base ≤ i → i < w.heap.size → w'.heap[i]? = w.heap[i]?) : w'.ownsRow base e size v n xs := by
  have hlt := h.lt
  refine ⟨h.1, ?_⟩
  rcases h.2 with h1 | ⟨g, cap, cur, h1, h2, h3, rest⟩
  · exact .inl h1
  · subst h1
    exact .inr ⟨g, cap, cur, rfl, h2, (hk g h2 (hlt g rfl).2).trans h3, rest⟩
/-- .. where its own block alone is asked. -/
theorem own_block {w w' : World} {base size n : Nat} {e : TypeId} {v : Value} {xs : List Value} (h : w.ownsRow base e size v n xs) (hk : ∀ i, v.ownBlock = some i → w'.heap[i]? = w.heap[i]?) : w'.ownsRow base e size v n xs := by
  refine ⟨h.1, ?_⟩
  rcases h.2 with h1 | ⟨g, cap, cur, h1, h2, h3, rest⟩
  · exact .inl h1
  · subst h1
    exact .inr ⟨g, cap, cur, rfl, h2, (hk g rfl).trans h3, rest⟩
/-- A chair at block g: its deals in the map of block bm, its log the row lv. -/
structure ChairAt (w : World) (g bm : Nat) (lv : Value) (c : Nat) (s : Ch) : Prop where
  map : w.cell? ⟨g, 0, none⟩ = some (.map (some bm))
  lt : bm < g
  fz : w.frozen? ⟨g, 1, none⟩ = false
  own : MapV.Own Try.prog .i64 3 w bm (mv s.deals) c
  few : c ≤ s.log.length
  keys : ∀ k d, s.deals k = some d → 0 ≤ k ∧ k < 1000
  logc : w.cell? ⟨g, 1, none⟩ = some lv
  row : w.ownsRow (g + 1) 33 8 lv s.log.length (rcl s.log)
/-- Of what was there nothing has turned but the chair, its map and its log. -/
structure Apart (w w' : World) (g bm : Nat) (lv : Value) : Prop where
  os : w'.os = w.os
  tape : w'.tape = w.tape
  output : w'.output = w.output
  size : w.heap.size ≤ w'.heap.size
  block : ∀ i, i < w.heap.size → i ≠ g → i ≠ bm → some i ≠ lv.ownBlock → w'.heap[i]? = w.heap[i]?
theorem Apart.below {w w' : World} {g bm B : Nat} {lv : Value} {s : Ch} {c : Nat} (h : Apart w w' g bm lv) (hc : ChairAt w g bm lv c s) (h1 : B ≤ bm) (h2 : B ≤ w.heap.size) : Below B w w' :=
  ⟨h.os, h.tape, h.output, h.size, fun i hi => h.block i (by omega) (by have := hc.lt; omega) (by omega) (fun e => by have := (hc.row.lt i e.symm).1; have := hc.lt; omega)⟩
theorem row_below {w w' : World} {B n k : Nat} {e : TypeId} {v : Value} {l : List Value} (h : w.ownsRow B e k v n l) (hb : Below w.heap.size w w') : w'.ownsRow B e k v n l :=
  own_blocks' h (fun i h1 h2 => hb.block i h2)
theorem ChairAt.below {w w' : World} {g bm c : Nat} {lv : Value} {s : Ch} (h : ChairAt w g bm lv c s) (hb : Below w.heap.size w w') : ChairAt w' g bm lv c s where
  map := (hb.cell (p := ⟨g, 0, none⟩) (Flat.cell_lt h.map)).trans h.map
  lt := h.lt
  fz := (hb.frozen (p := ⟨g, 1, none⟩) (Flat.cell_lt h.map)).trans h.fz
  own := h.own.below hb h.own.lt
  few := h.few
  keys := h.keys
  logc := (hb.cell (p := ⟨g, 1, none⟩) (Flat.cell_lt h.map)).trans h.logc
  row := row_below h.row hb
def Loc (w : World) (lv lv' : Value) : Prop := lv'.ownBlock = lv.ownBlock ∨ ∀ k, lv'.ownBlock = some k → w.heap.size ≤ k
def DoPost (w : World) (g bm : Nat) (lv : Value) (p : Ch × Int × Int) (e : Ending) (w' : World) : Prop :=
  e = .returned (.tuple #[.int .i64 p.2.1, .int .i64 p.2.2]) ∧ Apart w w' g bm lv ∧ ∃ lv' c', ChairAt w' g bm lv' c' p.1 ∧ Loc w lv lv'
theorem keys_step {f : Int → Option De} {r : Re} (h : ∀ k d, f k = some d → 0 ≤ k ∧ k < 1000) (h0 : 0 ≤ r.tx) (h1 : r.tx < 1000) : ∀ k d, (stepC f r).1 k = some d → 0 ≤ k ∧ k < 1000 := by
  intro k d hd
  unfold stepC at hd
  split at hd
  · dsimp only at hd
    cases hf : f k with
    | none => rw [hf] at hd; cases hd
    | some d' => exact h k d' hf
  · split at hd
    · exact h k d hd
    · dsimp only [setD] at hd
      split at hd
      · rename_i e; subst e; exact ⟨h0, h1⟩
      · exact h k d hd
theorem stepC_err {f : Int → Option De} {r : Re} (h : (stepC f r).2.2 ≠ 0) : (stepC f r).1 = f := by
  unfold stepC at h ⊢
  split
  · rename_i h4; rw [if_pos h4] at h; exact absurd rfl h
  · rename_i h4
    rw [if_neg h4] at h
    split
    · rfl
    · rename_i h5; rw [if_neg h5] at h; exact absurd rfl h
theorem finish {w v2 wa w8 : World} {g bm c2 : Nat} {lv v8 : Value} {s : Ch} {f2 : Int → Option De} {r : Re} {m2 : Int} (hap : Apart w v2 g bm lv) (hl : Below v2.heap.size v2 wa) (hg8 : wa.grownBy w8 lv.ownBlock) (hlt : ∀ i, lv.ownBlock = some i → g + 1 ≤ i ∧ i < v2.heap.size)
    (hm2 : v2.cell? ⟨g, 0, none⟩ = some (.map (some bm))) (ho2 : MapV.Own Try.prog .i64 3 v2 bm (mv f2) c2) (hbg : bm < g) (hob8 : w8.ownsRow (g + 1) 33 8 v8 (s.log.length + 1) (rcl s.log ++ rec1 r)) (hu8 : w8.cell? ⟨g, 1, none⟩ = some lv) (hf8 : w8.frozen? ⟨g, 1, none⟩ = false)
    (hkeys : ∀ k d, f2 k = some d → 0 ≤ k ∧ k < 1000) (hfew : c2 ≤ s.log.length + 1) (hloc : v8.ownBlock = lv.ownBlock ∨ v8.ownBlock = some wa.heap.size) :
    DoPost w g bm lv (⟨f2, s.log ++ [r]⟩, m2, 0) (.returned (.tuple #[.int .i64 m2, .int .i64 0])) (w8.setCell ⟨g, 1, none⟩ v8) := by
  have hgl : g < v2.heap.size := Flat.cell_lt hm2
  have hga : g < wa.heap.size := Nat.lt_of_lt_of_le hgl hl.size
  have hgo : some g ≠ lv.ownBlock := fun e => by have := (hlt g e.symm).1; omega
  have hbo : some bm ≠ lv.ownBlock := fun e => by have := (hlt bm e.symm).1; omega
  have hbl := ho2.lt
  refine ⟨rfl, ⟨?_, ?_, ?_, ?_, fun i hi h1 h2 h3 => ?_⟩, v8, c2, ⟨?_, hbg, ?_, ?_, ?_, hkeys, World.cell?_setCell_same _ _ _ hu8, ?_⟩, ?_⟩
  · exact hg8.os.trans (hl.os.trans hap.os)
  · exact hg8.tape.trans (hl.tape.trans hap.tape)
  · exact hg8.output.trans (hl.output.trans hap.output)
  · have := hap.size; have := hl.size; have := hg8.size; simp; omega
  · have hi2 := Nat.lt_of_lt_of_le hi hap.size
    rw [Below.heap_setCell _ _ _ _ (fun e => h1 (by simpa using e))]
    exact (hg8.block i (Nat.lt_of_lt_of_le hi2 hl.size) h3).trans ((hl.block i hi2).trans (hap.block i hi h1 h2 h3))
  · refine (World.cell?_setCell_other _ _ _ _ (by simp)).trans ?_
    exact (hg8.cell_far ⟨g, 0, none⟩ hga hgo).trans ((hl.cell (p := ⟨g, 0, none⟩) hgl).trans hm2)
  · rw [World.frozen?_setCell]; exact hf8
  · refine MapV.Own.setCell ?_ (by omega)
    exact (ho2.below hl hbl).heap (hg8.block bm (Nat.lt_of_lt_of_le hbl hl.size) hbo)
  · simpa using hfew
  · have h1 := own_block (w' := w8.setCell ⟨g, 1, none⟩ v8) hob8 (fun i hi => Below.heap_setCell _ _ _ _ (fun e => by
      have := (hob8.lt i hi).1
      have e2 : i = g := by simpa using e
      omega))
    rw [List.length_append, rcl_append]
    simpa [rcl] using h1
  · rcases hloc with h | h
    · exact .inl h
    · refine .inr fun k hk => ?_
      rw [h] at hk
      have := Option.some.inj hk
      have := hap.size
      have := hl.size
      omega
set_option maxHeartbeats 16000000 in
theorem do_any (g bm c : Nat) (lv : Value) (s : Ch) (kd tx ep vt now sp cp : Int) (n : Nat) (hn : n ≤ 255) (hlen : s.log.length < 1000000) (w : World) (hC : ChairAt w g bm lv c s) :
    Calls Try.prog 12 #[.pointer (some ⟨g, 0, none⟩), .agg #[.int .i64 kd, .int .i64 tx, .int .u8 (n : Int), .int .i64 ep, .int .i64 vt, .int .i64 now, .int .i64 sp, .int .i64 cp]] w (DoPost w g bm lv (doC s ⟨kd, tx, n, ep, vt, now, sp, cp⟩)) := by
  obtain ⟨pp, HP⟩ : ∃ pp, Hid (doC s ⟨kd, tx, n, ep, vt, now, sp, cp⟩ = pp) := ⟨_, Lib.hid rfl⟩
  rw [HP.out]
  have hpp := HP.out
  unfold doC at hpp
  dsimp only at hpp
  have HPP := Lib.hid hpp
  have HC := Lib.hid hC
  clear hpp HP hC
  by_cases hbad : kd < 1 ∨ 4 < kd ∨ tx < 0 ∨ 1000 ≤ tx
  · have hp : pp = (s, 0, 2) := by rw [← HPP.out, if_pos hbad]
    subst hp
    have hways : kd < 1 ∨ (¬ kd < 1 ∧ 4 < kd) ∨ (¬ kd < 1 ∧ ¬ 4 < kd ∧ tx < 0) ∨ (¬ kd < 1 ∧ ¬ 4 < kd ∧ ¬ tx < 0 ∧ 1000 ≤ tx) := by omega
    clear HPP hbad
    rcases hways with h | ⟨h1, h⟩ | ⟨h1, h2, h⟩ | ⟨h1, h2, h3, h⟩
    all_goals
      go_enter Try.func12, Try.ntmps12
      go_wp2_with fail
      generalize hv1 : World.alloc w _ = v1
      obtain ⟨hb1, hz1, hc1⟩ := alloc_facts hv1
      have hC1 := HC.out.below hb1
      have HC1 := Lib.hid hC1
      have HB1 := Lib.hid hb1
      have hg1 := hC1.map
      have q0 := hc1 0
      have q1 := hc1 1
      have q2 := hc1 2
      have q3 := hc1 3
      have q4 := hc1 4
      have q5 := hc1 5
      have q6 := hc1 6
      have q7 := hc1 7
      clear hc1
      clear hv1 hb1 hC1
      generalize hgb : w.heap.size = gb at *
      refine (chair_good g bm v1 hg1).mono ?_
      rintro r v1 ⟨rfl, rfl⟩
      go_wp2_with fail
      go_ret2
      refine ⟨rfl, ?_, lv, c, HC1.out, .inl rfl⟩
      have k := HB1.out
      exact ⟨k.os, k.tape, k.output, k.size, fun i hi _ _ _ => k.block i (by omega)⟩
  · have n1 : ¬ kd < 1 := by omega
    have n2 : ¬ (4 : Int) < kd := by omega
    have n3 : ¬ tx < 0 := by omega
    have n4 : ¬ (1000 : Int) ≤ tx := by omega
    have hp2 := HPP.out
    rw [if_neg hbad] at hp2
    have HP2 := Lib.hid hp2
    have hcm : c < maxLen := by have := HC.out.few; unfold maxLen; omega
    have HFE := Lib.hid (fun h => stepC_err (f := s.deals) (r := ⟨kd, tx, n, ep, vt, now, sp, cp⟩) h)
    have HSA := Lib.hid (fun W a b => step_any g bm c s.deals kd tx ep vt now sp cp n hn (by omega) (by omega) (by omega) (by omega) W a b hcm HC.out.keys)
    have HKS := Lib.hid (keys_step (r := ⟨kd, tx, n, ep, vt, now, sp, cp⟩) HC.out.keys (by show 0 ≤ tx; omega) (by show tx < 1000; omega))
    obtain ⟨st, HST⟩ : ∃ st, Hid (stepC s.deals ⟨kd, tx, n, ep, vt, now, sp, cp⟩ = st) := ⟨_, Lib.hid rfl⟩
    rw [HST.out] at HP2 HSA HKS HFE
    clear hp2 HPP HST hcm hbad
    obtain ⟨f2, m2, e2⟩ := st
    dsimp only at HP2 HSA HKS HFE
    go_enter Try.func12, Try.ntmps12
    go_wp2_with fail
    generalize hv1 : World.alloc w _ = v1
    obtain ⟨hb1, hz1, hc1⟩ := alloc_facts hv1
    have hC1 := HC.out.below hb1
    have HC1 := Lib.hid hC1
    have HB1 := Lib.hid hb1
    have hg1 := hC1.map
    have q0 := hc1 0
    have q1 := hc1 1
    have q2 := hc1 2
    have q3 := hc1 3
    have q4 := hc1 4
    have q5 := hc1 5
    have q6 := hc1 6
    have q7 := hc1 7
    clear hc1
    clear hv1 hb1 hC1
    generalize hgb : w.heap.size = gb at *
    refine (chair_good g bm v1 hg1).mono ?_
    rintro r v1 ⟨rfl, rfl⟩
    go_wp2_with fail
    refine (HSA.out v1 hg1 HC1.out.own).mono ?_
    rintro r v2 ⟨rfl, ⟨c2, hc2, hcc2, ho2⟩, hG2⟩
    have hbg := HC1.out.lt
    have hgl : g < v1.heap.size := Flat.cell_lt hg1
    have hgne : g ≠ bm := by omega
    have hgbm0 : gb ≠ bm := by have := HC.out.own.lt; omega
    have hlv : ∀ i, lv.ownBlock = some i → g + 1 ≤ i ∧ i < v1.heap.size := HC1.out.row.lt
    have hrow2 : v2.ownsRow (g + 1) 33 8 lv s.log.length (rcl s.log) := own_block HC1.out.row (fun i hi => hG2.block i (hlv i hi).2 (fun e => by have := (hlv i hi).1; have := Option.some.inj e; omega))
    have hl2 := (hG2.cell_far ⟨g, 1, none⟩ hgl (fun e => hgne (Option.some.inj e))).trans HC1.out.logc
    have hm2 := (hG2.cell_far ⟨g, 0, none⟩ hgl (fun e => hgne (Option.some.inj e))).trans hg1
    have hf2 : v2.frozen? ⟨g, 1, none⟩ = false := (frozen_far hG2 hgl (fun e => hgne (Option.some.inj e))).trans HC1.out.fz
    have HAP : Hid (Apart w v2 g bm lv) := Lib.hid (by
      have k := HB1.out
      exact ⟨hG2.os.trans k.os, hG2.tape.trans k.tape, hG2.output.trans k.output, Nat.le_trans k.size hG2.size, fun i hi _ h2 _ => (hG2.block i (Nat.lt_of_lt_of_le hi k.size) (fun e => h2 (Option.some.inj e))).trans (k.block i (by omega))⟩)
    have p0 := (hG2.cell_far ⟨gb, 0, none⟩ hz1 (fun e => hgbm0 (Option.some.inj e))).trans q0
    have p1 := (hG2.cell_far ⟨gb, 1, none⟩ hz1 (fun e => hgbm0 (Option.some.inj e))).trans q1
    have p2 := (hG2.cell_far ⟨gb, 2, none⟩ hz1 (fun e => hgbm0 (Option.some.inj e))).trans q2
    have p3 := (hG2.cell_far ⟨gb, 3, none⟩ hz1 (fun e => hgbm0 (Option.some.inj e))).trans q3
    have p4 := (hG2.cell_far ⟨gb, 4, none⟩ hz1 (fun e => hgbm0 (Option.some.inj e))).trans q4
    have p5 := (hG2.cell_far ⟨gb, 5, none⟩ hz1 (fun e => hgbm0 (Option.some.inj e))).trans q5
    have p6 := (hG2.cell_far ⟨gb, 6, none⟩ hz1 (fun e => hgbm0 (Option.some.inj e))).trans q6
    have p7 := (hG2.cell_far ⟨gb, 7, none⟩ hz1 (fun e => hgbm0 (Option.some.inj e))).trans q7
    have hsz2 := hG2.size
    have HO2 := Lib.hid ho2
    have HROW := Lib.hid hrow2
    have hgb2 : gb < v2.heap.size := Nat.lt_of_lt_of_le hz1 hsz2
    have hfew := HC1.out.few
    have hgbm : bm < gb := by have := HC.out.own.lt; omega
    clear ho2 hrow2 hG2 q0 q1 q2 q3 q4 q5 q6 q7 HSA hg1 hlv
    by_cases he : e2 = 0
    · subst he
      have hp : pp = (⟨f2, s.log ++ [⟨kd, tx, n, ep, vt, now, sp, cp⟩]⟩, m2, 0) := by rw [← HP2.out, if_neg (by simp)]
      subst hp
      clear HP2
      obtain ⟨la, lc, rfl⟩ := slice_of HROW.out
      obtain ⟨i0, hi, hz0, hz1', hz2⟩ := info_parts infoRec
      have HI := Lib.hid hi
      have HZ0 := Lib.hid hz0
      have HZ1 := Lib.hid hz1'
      have HZ2 := Lib.hid hz2
      clear hi hz0 hz1' hz2
      go_wp2_with fail
      have hg3 : g < v2.heap.size := Flat.cell_lt hm2
      refine start_ (n := 11) (S := fun w' => Below v2.heap.size v2 w' ∧ w'.cell? ⟨g, 1, none⟩ = some (.slice la s.log.length lc) ∧ w'.cell? ⟨gb, 0, none⟩ = some (.int .i64 kd) ∧ w'.cell? ⟨gb, 1, none⟩ = some (.int .i64 tx) ∧ w'.cell? ⟨gb, 2, none⟩ = some (.int .u8 (n : Int)) ∧ w'.cell? ⟨gb, 3, none⟩ = some (.int .i64 ep) ∧ w'.cell? ⟨gb, 4, none⟩ = some (.int .i64 vt) ∧ w'.cell? ⟨gb, 5, none⟩ = some (.int .i64 now) ∧ w'.cell? ⟨gb, 6, none⟩ = some (.int .i64 sp) ∧ w'.cell? ⟨gb, 7, none⟩ = some (.int .i64 cp)) (ds := [7, 10]) #[false, false, false, false, false, false, false, false, false, false, false] (by kernel_rfl) rfl rfl ⟨(still_drew v2).1, hl2, p0, p1, p2, p3, p4, p5, p6, p7⟩ (fun hHeld => ?_)
      refine pure_ (i := 0) (N := some 40) (v := ?_) (a' := ?_) #[true, false, false, false, false, false, false, false, false, false, false] rfl rfl (by kernel_rfl) (fun _ _ _ h => h) (Or.inl ⟨by rfl, ?_⟩) ?_ ?_
      rotate_left
      · intro w'
        go_simp
        with_reducible rfl
      rotate_left
      · simp only [Act.put, List.setIfInBounds_toArray, List.set_cons_zero, List.set_cons_succ, i64_w, i32_w]
        rfl
      refine pure_ (i := 1) (N := some 41) (v := ?_) (a' := ?_) #[true, true, false, false, false, false, false, false, false, false, false] rfl rfl (by kernel_rfl) (fun _ _ _ h => h) (Or.inl ⟨by rfl, ?_⟩) ?_ ?_
      rotate_left
      · intro w'
        go_simp
        with_reducible rfl
      rotate_left
      · simp only [Act.put, List.setIfInBounds_toArray, List.set_cons_zero, List.set_cons_succ, i64_w, i32_w]
        rfl
      refine pure_ (i := 2) (N := some 42) (v := ?_) (a' := ?_) #[true, true, true, false, false, false, false, false, false, false, false] rfl rfl (by kernel_rfl) (fun _ _ _ h => h) (Or.inl ⟨by rfl, ?_⟩) ?_ ?_
      rotate_left
      · intro w'
        go_simp
        with_reducible rfl
      rotate_left
      · simp only [Act.put, List.setIfInBounds_toArray, List.set_cons_zero, List.set_cons_succ, i64_w, i32_w]
        rfl
      refine pure_ (i := 3) (N := some 43) (v := ?_) (a' := ?_) #[true, true, true, true, false, false, false, false, false, false, false] rfl rfl (by kernel_rfl) (fun _ _ _ h => h) (Or.inl ⟨by rfl, ?_⟩) ?_ ?_
      rotate_left
      · intro w'
        go_simp
        with_reducible rfl
      rotate_left
      · simp only [Act.put, List.setIfInBounds_toArray, List.set_cons_zero, List.set_cons_succ, i64_w, i32_w]
        rfl
      refine take_ (i := 4) (N := some 44) (v := ?_) (a' := ?_) #[true, true, true, true, true, false, false, false, false, false, false] rfl rfl (by kernel_rfl) (fun _ _ _ h => h) (Or.inl ⟨by rfl, ?_⟩) hHeld ?_ ?_
      rotate_left
      · rintro w' ⟨s0, s1, s2, s3, s4, s5, s6, s7, s8, s9⟩
        go_simp
        with_reducible rfl
      rotate_left
      · simp only [Act.put, List.setIfInBounds_toArray, List.set_cons_zero, List.set_cons_succ, i64_w, i32_w]
        rfl
      refine take_ (i := 5) (N := some 45) (v := ?_) (a' := ?_) #[true, true, true, true, true, true, false, false, false, false, false] rfl rfl (by kernel_rfl) (fun _ _ _ h => h) (Or.inl ⟨by rfl, ?_⟩) hHeld ?_ ?_
      rotate_left
      · rintro w' ⟨s0, s1, s2, s3, s4, s5, s6, s7, s8, s9⟩
        go_simp
        with_reducible rfl
      rotate_left
      · simp only [Act.put, List.setIfInBounds_toArray, List.set_cons_zero, List.set_cons_succ, i64_w, i32_w]
        rfl
      refine one_ (i := 6) (N := some 46) #[true, true, true, true, true, true, true, false, false, false, false] rfl rfl (by kernel_rfl) (by decide) (fun K hK => ?_)
      refine value_ (w1 := ?_) (v := ?_) (by rfl) rfl ?_ ?_
      rotate_left 2
      · go_simp
        constructor
        · rfl
        · rfl
      refine hK.out _ _ ⟨bw_alloc hHeld.1, ((bw_alloc hHeld.1).cell (p := ⟨g, 1, none⟩) hg3).trans hl2, ((bw_alloc hHeld.1).cell (p := ⟨gb, 0, none⟩) hgb2).trans p0, ((bw_alloc hHeld.1).cell (p := ⟨gb, 1, none⟩) hgb2).trans p1, ((bw_alloc hHeld.1).cell (p := ⟨gb, 2, none⟩) hgb2).trans p2, ((bw_alloc hHeld.1).cell (p := ⟨gb, 3, none⟩) hgb2).trans p3, ((bw_alloc hHeld.1).cell (p := ⟨gb, 4, none⟩) hgb2).trans p4, ((bw_alloc hHeld.1).cell (p := ⟨gb, 5, none⟩) hgb2).trans p5, ((bw_alloc hHeld.1).cell (p := ⟨gb, 6, none⟩) hgb2).trans p6, ((bw_alloc hHeld.1).cell (p := ⟨gb, 7, none⟩) hgb2).trans p7⟩ (fun hHeld => ?_)
      clear hK K
      refine norm_ (a' := ?_) ?_ ?_
      rotate_left
      · show Act.put _ (some 46) _ = _
        simp only [Act.put, List.setIfInBounds_toArray, List.set_cons_zero, List.set_cons_succ, i64_w, i32_w]
        rfl
      refine last_ (i := 7) (N := some 47) #[true, true, true, true, true, true, true, true, false, false, false] rfl rfl (by kernel_rfl) (by decide) (fun K hK => ?_)
      refine append_rowL_ (by rfl) rfl (.tmp 44) (.tmp 46) 53 rfl (g + 1) 33 i0 _ 8 64 Try.underlying53 HI.out HZ0.out HZ1.out HZ2.out rfl (by decide) (.slice la s.log.length lc) s.log.length (rcl s.log) (by rfl) (row_below HROW.out hHeld.1) ⟨v2.heap.size, 0, none⟩ 1 1 (rec1 ⟨kd, tx, n, ep, vt, now, sp, cp⟩) (by rfl) rfl (fun j u hu => new_rec1 hu) (rec1_one _) (by unfold maxLen; omega) (by omega) (Nat.le_trans hg3 hHeld.1.size) ?_
      intro v8 w8 hob8 hg8 hloc8
      have HL8 := Lib.hid hHeld.1
      have hu8 : w8.cell? ⟨g, 1, none⟩ = some (.slice la s.log.length lc) := (hg8.cell_far ⟨g, 1, none⟩ (Nat.lt_of_lt_of_le hg3 hHeld.1.size) (fun e => by have := (HROW.out.lt g e.symm).1; omega)).trans hHeld.2.1
      have hf8 : w8.frozen? ⟨g, 1, none⟩ = false := (frozen_far hg8 (Nat.lt_of_lt_of_le hg3 hHeld.1.size) (fun e => by have := (HROW.out.lt g e.symm).1; omega)).trans ((hHeld.1.frozen (p := ⟨g, 1, none⟩) hg3).trans hf2)
      obtain ⟨a8, c8, rfl⟩ := slice_of hob8
      have HOB8 := Lib.hid hob8
      have HG8 := Lib.hid hg8
      have HLOC := Lib.hid hloc8
      clear hob8 hg8 hloc8
      refine hK.out _ _ ?_
      clear hK K
      refine norm_ (a' := ?_) ?_ ?_
      rotate_left
      · show Act.put _ (some 47) _ = _
        simp only [Act.put, List.setIfInBounds_toArray, List.set_cons_zero, List.set_cons_succ, i64_w, i32_w]
        rfl
      refine pure_ (i := 8) (N := some 48) (v := ?_) (a' := ?_) #[true, true, true, true, true, true, true, true, true, false, false] rfl rfl (by kernel_rfl) (fun _ _ _ h => h) (Or.inl ⟨by rfl, ?_⟩) ?_ ?_
      rotate_left
      · intro w'
        go_simp
        with_reducible rfl
      rotate_left
      · simp only [Act.put, List.setIfInBounds_toArray, List.set_cons_zero, List.set_cons_succ, i64_w, i32_w]
        rfl
      refine pure_ (i := 9) (N := some 49) (v := ?_) (a' := ?_) #[true, true, true, true, true, true, true, true, true, true, false] rfl rfl (by kernel_rfl) (fun _ _ _ h => h) (Or.inl ⟨by rfl, ?_⟩) ?_ ?_
      rotate_left
      · intro w'
        go_simp
        with_reducible rfl
      rotate_left
      · simp only [Act.put, List.setIfInBounds_toArray, List.set_cons_zero, List.set_cons_succ, i64_w, i32_w]
        rfl
      refine last_ (i := 10) (N := none) #[true, true, true, true, true, true, true, true, true, true, true] rfl rfl (by kernel_rfl) (by decide) (fun K hK => ?_)
      refine skip_ (w1 := ?_) (by rfl) rfl ?_ ?_
      rotate_left
      · go_simp
        rfl
      refine hK.out _ _ ?_
      clear hK K
      refine done_ (by kernel_rfl) ?_

      go_wp2_with fail
      go_ret2
      exact finish HAP.out HL8.out HG8.out (fun i hi => ⟨(HROW.out.lt i hi).1, (HROW.out.lt i hi).2⟩) hm2 HO2.out hbg HOB8.out hu8 hf8 HKS.out (by omega) HLOC.out
    · have hp : pp = (s, 0, e2) := by rw [← HP2.out, if_pos he]
      subst hp
      have b1 : (e2 != 0) = true := bne_iff_ne.2 he
      have b2 : (e2 == 0) = false := beq_eq_false_iff_ne.2 he
      clear HP2
      go_wp2_with fail
      go_ret2
      have hfe : f2 = s.deals := HFE.out he
      have hce : c2 = c := hcc2 he
      subst hfe
      exact ⟨rfl, HAP.out, lv, c2, ⟨hm2, hbg, hf2, HO2.out, by rw [hce]; exact hfew, HKS.out, hl2, HROW.out⟩, .inl rfl⟩
end Go.Proofs.Ytdlfjbllmmkmkaa.Chair
