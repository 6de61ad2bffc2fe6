/- slices.Collect of ballots. -/
import Derived.Test.YtajnaiofagppeaaDoorBallot
import Derived.Test.YtajnaiofagppeaaDoorSeq
import Derived.Maps.OwnIn
import Derived.Maps.AppendAt
import Derived.OwnWalkIn
import Derived.TacticsInMore
import Derived.LoopNIn
import Derived.LoopIn
namespace Go.Proofs.YtajnaiofagppeaaDoor.Collect
open Go Go.RowKit Go.Shelf CodeSpec AgentSpec Flat Ballot SeqOver
set_option linter.unusedSimpArgs false
set_option linter.unusedVariables false
set_option maxRecDepth 100000
attribute [local go_sem] Oper.semAt_some
def bal1 (b : Ba) : List Value := [.int .i64 b.tx, .int .i64 b.vote]
def bcl (l : List Ba) : List Value := l.flatMap bal1
theorem bcl_append (a b : List Ba) : bcl (a ++ b) = bcl a ++ bcl b := by simp [bcl]
theorem bcl_len (l : List Ba) : (bcl l).length = l.length * 2 := by
  induction l with
  | nil => rfl
  | cons r l ih => simp only [bcl, List.flatMap_cons, List.length_append, List.length_cons] at ih ⊢; rw [ih, show (bal1 r).length = 2 from rfl]; omega
theorem infoBa : (Tryd.prog.info? 49).map (fun i => (i.zero, i.size, i.bytes)) = some (some (.agg #[.int .i64 0, .int .i64 0]), 2, 16) := by kernel_rfl
def encB (b : Ba) : Array Value := #[.agg #[.int .i64 b.tx, .int .i64 b.vote]]
/-- What the loop holds between two rounds. -/
def In (w : World) (pre : List Ba) (row : Option Nat) (W : World) : Prop :=
  ∃ v, W.cell? ⟨w.heap.size, 0, none⟩ = some v ∧ W.frozen? ⟨w.heap.size, 0, none⟩ = false ∧ W.ownsRow (w.heap.size + 1) 49 2 v pre.length (bcl pre) ∧ row = v.ownBlock ∧ Below w.heap.size w W
theorem own_one {w w' : World} {base size n : Nat} {e : TypeId} {v : Value} {xs : List Value} (h : w.ownsRow base e size v n xs) (hk : ∀ i, v.ownBlock = some i → w'.heap[i]? = w.heap[i]?) : w'.ownsRow base e size v n xs := by
  refine ⟨h.1, ?_⟩
  rcases h.2 with h1 | ⟨g, cap, cur, h1, h2, h3, rest⟩
  · exact .inl h1
  · subst h1
    exact .inr ⟨g, cap, cur, rfl, h2, (hk g rfl).trans h3, rest⟩
theorem in_abs (w : World) : Abs (w.heap.size + 1) (In w) := fun s row W W' t hs hg ht => by
  obtain ⟨v, h1, h2, h3, h4, h5⟩ := hs
  have hl := Flat.cell_lt h1
  have hb := hg.block w.heap.size hl (fun e => absurd (ht _ e.symm).1 (by omega))
  refine ⟨v, (World.cell?_of_block (a := ⟨w.heap.size, 0, none⟩) hb).trans h1, (World.frozen?_of_block (a := ⟨w.heap.size, 0, none⟩) hb).trans h2, own_one h3 (fun i hi => hg.block i (h3.lt i hi).2 (fun e => (ht i e.symm).2 (by rw [h4, hi]))), h4, h5.grown hg h5.size (fun r e => by have := (ht r e).1; omega)⟩
theorem cells_no_loop {W : World} {b o : Nat} {v : Value} {lp : Loop} (h : W.cell? ⟨b, o, none⟩ = some v) : W.heap[b]? ≠ some (.loop lp) := fun e => by
  unfold World.cell? at h
  rw [show (⟨b, o, none⟩ : Addr).block = b from rfl, e] at h
  cases h
theorem slice_of {w : World} {B n k : Nat} {e : TypeId} {v : Value} {l : List Value} (h : w.ownsRow B e k v n l) : ∃ a cap, v = .slice a n cap := by
  rcases h.2 with ⟨h1, h2⟩ | ⟨g, cap, cur, h1, _⟩
  · exact ⟨none, 0, by rw [h1, h2]⟩
  · exact ⟨_, cap, h1⟩
def At2 (x : Ba) (a' : Act) (T : Nat → Array Value) (W : World) : Prop := ∃ Bx, W.cell? ⟨Bx, 0, none⟩ = some (.int .i64 x.tx) ∧ W.cell? ⟨Bx, 1, none⟩ = some (.int .i64 x.vote) ∧ a' = { tmps := T Bx, defers := [] }
theorem at2_kept {x : Ba} {a' : Act} {T : Nat → Array Value} {W W' : World} {t : Option Nat} (h : At2 x a' T W) (hg : W.grownBy W' t) (ht : ∀ r, t = some r → ∃ o, W.heap[r]? = some (.loop o)) : At2 x a' T W' := by
  obtain ⟨Bx, h1, h2, h3⟩ := h
  have hne : some Bx ≠ t := fun e => by
    obtain ⟨o, ho⟩ := ht Bx e.symm
    exact cells_no_loop h1 ho
  exact ⟨Bx, (World.cell?_of_block (a := ⟨Bx, 0, none⟩) (hg.block Bx (Flat.cell_lt h1) hne)).trans h1, (World.cell?_of_block (a := ⟨Bx, 1, none⟩) (hg.block Bx (Flat.cell_lt h2) hne)).trans h2, h3⟩
set_option maxHeartbeats 8000000 in
theorem append_seq {g : Nat} {lb : Array Value} {Kp : World → World → Prop} {S Sp : List Ba → Prop} {N : Nat} (w : World) (hN : N ≤ 1000) (eg : ∀ args w, (callFunc g args).run Tryd.prog w = .ok (.enter g args) w)
    (hseq : SeqO Fence.wide 11 Tryd.prog g lb encB Kp S Sp N w) (hKt : ∀ {A B C : World}, Kp A B → Kp B C → Kp A C) (hKp : ∀ W W' : World, w.heap.size ≤ W.heap.size → (∀ i, i < w.heap.size → W'.heap[i]? = W.heap[i]?) → Kp W W') :
    Calls Tryd.prog 65 #[.slice none 0 0, .func (.func g) #[] lb] w fun e w' => ∃ v xs, e = .returned v ∧ S xs ∧ xs.length ≤ N ∧ w'.ownsRow w.heap.size 49 2 v xs.length (bcl xs) ∧ Below w.heap.size w w' := by
  refine (callsIn_wide (n := 12)).1 ?_
  refine callsIn_of_wp_marks Tryd.func65 rfl trivial ?_ rfl
  simp only [Tryd.ntmps65]
  simp only [List.size_toArray, List.length_cons, List.length_nil, Nat.reduceAdd, Nat.reduceSub, Array.replicate_succ, Array.replicate_zero, List.push_toArray, List.append_toArray, List.nil_append, List.cons_append]
  gi_wp2_with fail
  generalize hv1 : World.alloc w _ = v1
  obtain ⟨hb1, hz1, hc1⟩ := alloc_facts hv1
  have hr1 : v1.frozen? ⟨w.heap.size, 0, none⟩ = false := by rw [← hv1]; exact World.frozen?_alloc_at _ _ _ _ rfl
  have hs1 : v1.heap.size = w.heap.size + 1 := by rw [← hv1]; simp
  have hc1 := hc1 0
  clear hv1
  have hI0 : In w [] none v1 := ⟨_, hc1, hr1, World.ownsRow_nil _ _ _ _, rfl, hb1⟩
  have mixed : Tryd.prog.follows Departure.mixedOrders = true := by kernel_rfl
  obtain ⟨i0, hi, hz0, hz1', hz2⟩ := info_parts infoBa
  refine range_over (n := 12) rfl (by omega) (gf := g) (lb := lb) rfl trivial eg hseq hKt (fun V V' t hz hg ht => hKp V V' (by omega) (fun i h1 => hg.block i (by omega) (fun e => absurd (ht i e.symm) (by omega)))) hb1 (fun _ => rfl)
    (fun pre row V => In w pre row V ∧ pre.length ≤ N) (fun _ _ _ _ => False)
    (fun s row V V' t hs hg ht => ⟨in_abs w s row V V' t hs.1 hg (fun r e => ⟨by have := (ht r e).1; omega, (ht r e).2⟩), hs.2⟩) (fun _ => abs_false _)
    (fun s row V hs r e => by
      obtain ⟨⟨v, _, _, h3, h4, _⟩, _⟩ := hs
      rw [h4] at e
      exact (h3.lt r e).2)
    none (fun r e => by cases e) ⟨hI0, Nat.zero_le _⟩
    (fun x a' V => At2 x a' (fun Bx => #[.slice none 0 0, .func (.func g) #[] lb, .pointer (some ⟨w.heap.size, 0, none⟩), undef, .slice none 0 0, .pointer (some ⟨Bx, 0, none⟩), .func (.func g) #[] lb, .agg #[.int .i64 x.tx, .int .i64 x.vote], undef, undef, undef, undef, undef]) V)
    (fun x a' V V' t h hg ht => at2_kept h hg ht) ?assign ?body ?done (fun _ _ _ _ _ _ _ h => h.elim)
  case assign =>
    intro l pre row x V K hlen hI hK
    simp only [encB]
    gi_wp2
    exact hK _ _ (Keep.of_grown (World.grownBy_alloc V _ none) (fun r e => by cases e)) (hKp _ _ (by obtain ⟨⟨v, _, _, _, _, h5⟩, _⟩ := hI; exact h5.size) (fun i h1 => Below.heap_alloc V _ i (by obtain ⟨⟨v, _, _, _, _, h5⟩, _⟩ := hI; have := h5.size; omega))) ⟨(in_abs w).alloc _ hI.1, hI.2⟩ ⟨V.heap.size, (World.cell?_alloc_new V #[.int .i64 x.tx, .int .i64 x.vote] 49 0).trans rfl, (World.cell?_alloc_new V #[.int .i64 x.tx, .int .i64 x.vote] 49 1).trans rfl, rfl⟩
  case body =>
    rintro l pre row x a' V hl ⟨⟨v, h1, h2, h3, h4, h5⟩, hlN⟩ ⟨Bx, hx0, hx1, rfl⟩ hlen
    have hz := Flat.cell_lt h1
    have hzx := Flat.cell_lt hx0
    have hsV := h5.size
    obtain ⟨sa, sc, rfl⟩ := slice_of h3
    have hrow := h3.alloc (.cells #[.int .i64 x.tx, .int .i64 x.vote] 49)
    have hnews : ∀ j u, (bal1 x)[j]? = some u → (V.alloc (.cells #[.int .i64 x.tx, .int .i64 x.vote] 49)).cell? ((⟨V.heap.size, 0, none⟩ : Addr).add j) = some u := fun j u hu => by
      have e : ((⟨V.heap.size, 0, none⟩ : Addr).add j) = ⟨V.heap.size, j, none⟩ := by unfold Addr.add; split <;> simp_all
      rw [e, World.cell?_alloc_new]
      simpa [bal1] using hu
    have hone : ∀ u ∈ bal1 x, u.oneCell' = true := fun u hu => by
      simp only [bal1, List.mem_cons, List.not_mem_nil, or_false] at hu
      rcases hu with rfl | rfl <;> rfl
    have hm1 : pre.length + 1 ≤ maxLen := by unfold maxLen; omega
    have hm2 : (pre.length + 1) * 16 ≤ 140737488355328 := by omega
    have hm3 : w.heap.size + 1 ≤ (V.alloc (.cells #[.int .i64 x.tx, .int .i64 x.vote] 49)).heap.size := by simp; omega
    have HR := Lib.hid hrow
    have HN := Lib.hid hnews
    have HONE := Lib.hid hone
    have H3 := Lib.hid h3
    clear hrow hnews hone
    have hzb : w.heap.size < (V.alloc (.cells #[.int .i64 x.tx, .int .i64 x.vote] 49)).heap.size := by simp; omega
    have hne8 : some w.heap.size ≠ (Value.slice sa pre.length sc).ownBlock := fun e => by have := (h3.lt _ e.symm).1; omega
    gi_wp2_with (gi_at_builtin; refine wpListIn_append_own_at _ rfl _ _ 27 rfl (w.heap.size + 1) 49 i0 _ 2 16 Tryd.underlying27 hi hz0 hz1' hz2 rfl (by decide) (.slice sa pre.length sc) pre.length (bcl pre) rfl HR.out ⟨V.heap.size, 0, none⟩ 1 1 (bal1 x) rfl rfl HN.out HONE.out hm1 hm2 hm3 ?_; intro v8 w8 ho8 hg8 hn8 hl8; obtain ⟨ta, tc, rfl⟩ := slice_of ho8; have c8 := (hg8.block w.heap.size hzb hne8).trans (Below.heap_alloc V _ w.heap.size hz); have p8 := (World.cell?_of_block (a := ⟨w.heap.size, 0, none⟩) c8).trans h1; have r8 := (World.frozen?_of_block (a := ⟨w.heap.size, 0, none⟩) c8).trans h2)
    have hVs : V.heap.size < (V.alloc (.cells #[.int .i64 x.tx, .int .i64 x.vote] 49)).heap.size := by simp
    have hrl : ∀ r, row = some r → r < V.heap.size := fun r e => (h3.lt r (by rw [← h4]; exact e)).2
    have hnx : SeqOver.Next row (Value.slice ta (pre.length + 1) tc).ownBlock V := by
      rcases hl8 with h | h
      · exact .inl (by rw [h, h4])
      · exact .inr fun r e => by rw [h] at e; have := Option.some.inj e; omega
    have hst : ∀ i, i < V.heap.size → i ≠ w.heap.size → some i ≠ row → (w8.setCell ⟨w.heap.size, 0, none⟩ (.slice ta (pre.length + 1) tc)).heap[i]? = V.heap[i]? := fun i h1 h2 h3' =>
      (Below.heap_setCell w8 ⟨w.heap.size, 0, none⟩ _ i (by show i ≠ w.heap.size; exact h2)).trans ((hg8.block i (by omega) (by rw [← h4]; exact h3')).trans (Below.heap_alloc V _ i h1))
    have hsz8 : V.heap.size ≤ (w8.setCell ⟨w.heap.size, 0, none⟩ (.slice ta (pre.length + 1) tc)).heap.size := by have := hg8.size; simp; omega
    have hlx : (pre ++ [x]).length = pre.length + 1 := by simp
    refine ⟨_, hnx, ⟨hsz8, fun i h1 h2 h3' => hst i h2 (by omega) h3'⟩, hKp _ _ hsV (fun i h1 => hst i (by omega) (by omega) (fun e => by have := (h3.lt i (by rw [← h4]; exact e.symm)).1; omega)), ⟨_, World.cell?_setCell_same _ _ _ p8, by rw [World.frozen?_setCell]; exact r8, ?_, rfl, ?_⟩, by rw [hlx]; omega⟩
    · rw [hlx, bcl_append]
      refine own_one (by simpa [bcl] using ho8) (fun i hi => Below.heap_setCell w8 ⟨w.heap.size, 0, none⟩ _ i (by show i ≠ w.heap.size; have := (ho8.lt i hi).1; omega))
    · refine Below.setCell ?_ (by exact Nat.le_refl _) _
      exact (h5.alloc (by omega) _).grown hg8 (by omega) (fun r e => by have := (h3.lt r e).1; omega)
  case done =>
    rintro D xs row V hD hS ⟨⟨v, h1, h2, h3, h4, h5⟩, hlN⟩ hne hk
    have hDw : w.heap.size ≠ D := by omega
    gi_wp2
    refine ⟨by simp, .inl ⟨_, _, rfl, run_takeDeferred hk, ?_⟩⟩
    refine ⟨_, results_tmp rfl _ _ _, v, xs, rfl, hS, hlN, own_one ⟨h3.1, h3.2.imp id fun ⟨gg, cap, cur, e1, e2, e3⟩ => ⟨gg, cap, cur, e1, by omega, e3⟩⟩ (fun i hi => World.putObj_heap_other (fun e => hne (by rw [h4, hi, e]))), h5.grown (grownBy_putObj' V D _) h5.size (fun r e => by cases e; omega)⟩
end Go.Proofs.YtajnaiofagppeaaDoor.Collect
