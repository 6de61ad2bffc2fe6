/- Values by twos, as ballots: slices.Chunk's iterator, agent's over it, and what is collected of that. -/
import Derived.Test.YtajnaiofagppeaaDoorBallot
import Derived.Test.YtajnaiofagppeaaDoorCodeOut
import Derived.Test.YtajnaiofagppeaaDoorSeq
import Derived.Test.YtajnaiofagppeaaDoorRoundAny
import Derived.Maps.OwnIn
import Derived.Maps.AppendAt
import Derived.OwnWalkIn
import Derived.TacticsInMore
import Derived.LoopNIn
import Derived.LoopIn
import Derived.Sort.QuietIn
import Derived.Shelf.RegionOpen
namespace Go.Proofs.YtajnaiofagppeaaDoor.Pairs
open Go Go.RowKit Go.Shelf CodeSpec AgentSpec Flat CodeMem Ballot SeqOver
set_option linter.unusedSimpArgs false
set_option linter.unusedVariables false
set_option maxRecDepth 100000
attribute [local go_sem] Oper.semAt_some
theorem grown_below {v w : World} (h : Below v.heap.size v w) (row : Option Nat) : v.grownBy w row := ⟨h.os, h.tape, h.output, h.size, fun i hi _ => h.block i hi⟩
theorem grown_drewN (w : World) (n : Nat) (row : Option Nat) : w.grownBy (w.drewN n) row := ⟨rfl, rfl, rfl, Nat.le_refl _, fun _ _ _ => rfl⟩
set_option maxHeartbeats 1000000 in
theorem chunk_any (a : Option Addr) (len cap : Nat) (w : World) :
    Calls Tryd.prog 67 #[.slice a len cap, .int .i64 2] w fun e w' => ∃ g1 g2, e = .returned (.func (.func 86) #[] #[.pointer (some ⟨g1, 0, none⟩), .pointer (some ⟨g2, 0, none⟩)]) ∧
      w'.cell? ⟨g1, 0, none⟩ = some (.slice a len cap) ∧ w'.cell? ⟨g2, 0, none⟩ = some (.int .i64 2) ∧ w.heap.size ≤ g1 ∧ w.heap.size ≤ g2 ∧ Below w.heap.size w w' := by
  go_enter Tryd.func67, Tryd.ntmps67
  go_wp2_with fail
  go_ret
  exact ⟨w.heap.size, w.heap.size + 1, rfl, by simp [go_sem], by simp [go_sem], Nat.le_refl _, by omega, ((Below.refl _ w).alloc (Nat.le_refl _) _).alloc (by simp) _⟩
/-- What a round must leave alone. -/
def Same (b : Nat) (W W' : World) : Prop := W'.heap[b]? = W.heap[b]?
/-- The k-th two. -/
def part (b off : Nat) (j : Nat) : Array Value := #[.slice (some ⟨b, off + j * 2, none⟩) 2 2]
set_option maxHeartbeats 4000000 in
theorem chunk1_any (n : Nat) (hn : 1 ≤ n) (a : Option Addr) (Bs Bn b off N cap : Nat) (ha : 0 < N → a = some ⟨b, off, none⟩) (hN : N ≤ 1000) (hcap : 2 * N ≤ cap) (hcm : cap ≤ maxLen) (w : World)
    (hBs : w.cell? ⟨Bs, 0, none⟩ = some (.slice a (2 * N) cap)) (hBn : w.cell? ⟨Bn, 0, none⟩ = some (.int .i64 2)) :
    SeqO Fence.wide n Tryd.prog 86 #[.pointer (some ⟨Bs, 0, none⟩), .pointer (some ⟨Bn, 0, none⟩)] (fun i : Fin N => part b off (2 * i.val)) (fun W W' => Same Bs W W' ∧ Same Bn W W') (fun xs => xs = List.finRange N) (fun pre => pre <+: List.finRange N) N w := fun l J Jx row W hW hJ hJx hlt hY h0 => by
  have hBs := (hW.cell (p := ⟨Bs, 0, none⟩) (Flat.cell_lt hBs)).trans hBs
  have hBn := (hW.cell (p := ⟨Bn, 0, none⟩) (Flat.cell_lt hBn)).trans hBn
  unfold maxLen at hcm
  refine callsIn_of_wp Tryd.func86 rfl trivial ?_ rfl
  simp only [Tryd.ntmps86]
  simp only [List.size_toArray, List.length_cons, List.length_nil, Nat.reduceAdd, Nat.reduceSub, Array.replicate_succ, Array.replicate_zero, List.push_toArray, List.append_toArray, List.nil_append, List.cons_append]
  gi_wp2
  gi_loopw [4] (fun i wr => ∃ (k : Nat) (row : Option Nat), k ≤ N ∧ i = .int .i64 ((2 * k : Nat) : Int) ∧ J ((List.finRange N).take k) row wr ∧ Same Bs W wr ∧ Same Bn W wr) (fun i _ => 2 * N - (intOf i).toNat)
  case atStart => exact ⟨0, row, Nat.zero_le _, rfl, h0, rfl, rfl⟩
  case round =>
    obtain ⟨k, row, hk, rfl, hJs, hs1, hs2⟩ := hrel
    have c1 := (World.cell?_of_block (a := ⟨Bs, 0, none⟩) hs1).trans hBs
    have c2 := (World.cell?_of_block (a := ⟨Bn, 0, none⟩) hs2).trans hBn
    by_cases hlt2 : k < N
    · obtain rfl := ha (by omega)
      obtain ⟨kf, hkf⟩ : ∃ kf : Fin N, kf.val = k := ⟨⟨k, hlt2⟩, rfl⟩
      have hY2 := hY ((List.finRange N).take k) row kf
      have htk : (List.finRange N).take (k + 1) = (List.finRange N).take k ++ [kf] := by
        rw [List.take_succ_eq_append_getElem (by simpa using hlt2)]
        congr 2
        apply Fin.ext
        simp [hkf]
      have HTK := Lib.hid htk
      have hlk : ((List.finRange N).take k).length < N := by rw [List.length_take, List.length_finRange]; omega
      simp only [part, hkf] at hY2
      obtain ⟨j, hj⟩ : ∃ j, 2 * k = j := ⟨_, rfl⟩
      have hltI : (j : Int) < ((2 * N : Nat) : Int) := by omega
      obtain ⟨len, hlen⟩ : ∃ len, 2 * N = len := ⟨_, rfl⟩
      rw [hj] at hY2 ⊢
      rw [hlen] at c1 hltI
      have hmI : min (2 : Int) ((len - j : Nat) : Int) = 2 := by omega
      have hm1 : j + 2 ≤ len := by omega
      have hm2 : (j : Int) + 2 ≤ (len : Int) := by omega
      have hm3 : (2 : Int) + j ≤ (len : Int) := by omega
      have hj2 : j ≤ 2000 := by omega
      have hcl : len ≤ cap := by omega
      have HX := Lib.hid (And.intro hj hlen)
      have HKS := Lib.hid (And.intro hs1 hs2)
      have HKN := Lib.hid (And.intro hk hlt2)
      clear hj hlen hk hlt2 hs1 hs2 hBs hBn htk hkf
      gi_wp2
      gi_quiet (fail)
      obtain ⟨fn, tmps, assign, body, hy, hR⟩ := hY2 (wr.drewN nq) (hJ _ _ _ _ none hJs (grown_drewN wr nq none) (fun r e => by cases e)) hlk
      have e1 := (show (wr.drewN nq).cell? ⟨Bs, 0, none⟩ = wr.cell? ⟨Bs, 0, none⟩ from rfl).trans c1
      have e2 := (show (wr.drewN nq).cell? ⟨Bn, 0, none⟩ = wr.cell? ⟨Bn, 0, none⟩ from rfl).trans c2
      gi_wp2
      refine hR.mono ?_
      rintro e W3 ⟨row3, hnx, hkp, (⟨rfl, hJ3, hk3⟩ | ⟨rfl, hJx3⟩)⟩
      · have f2 := (World.cell?_of_block (a := ⟨Bn, 0, none⟩) hk3.2).trans e2
        clear c1 c2 e1 e2 hJs hJ
        gi_wp2
        go_roundw
        case rel => exact ⟨k + 1, row3, by have := HKN.out; omega, by have := HX.out.1; go_num, by rw [HTK.out]; exact hJ3, hk3.1.trans HKS.out.1, hk3.2.trans HKS.out.2⟩
        case measure => have := HX.out; simp [intOf]; omega
      · gi_wp2
        refine bodyPost_ret (results_none rfl _ _ _) rfl ?_
        exact ⟨⟨_, rfl⟩, row3, .inr ⟨_, by rw [← HTK.out]; exact List.take_prefix _ _, hJx3⟩⟩
    · have hkN : k = N := by omega
      have hltI : ¬ ((2 * k : Nat) : Int) < ((2 * N : Nat) : Int) := by omega
      have HE := Lib.hid hkN
      clear hkN hk hlt2
      gi_wp2
      go_end0
      exact ⟨⟨_, rfl⟩, row, .inl (by
        have k1 := hJs
        rwa [HE.out, List.take_of_length_le (by simp)] at k1)⟩
/-! ### pairs -/
def pairsV : List V → List Ba
  | a :: b :: l => ⟨(a.n : Int), (b.n : Int)⟩ :: pairsV l
  | _ => []
theorem pairs_get : ∀ (N : Nat) (vs : List V) (h : vs.length = 2 * N), pairsV vs = (List.finRange N).map fun i => (⟨(vs[2 * i.val]'(by have := i.isLt; omega)).n, (vs[2 * i.val + 1]'(by have := i.isLt; omega)).n⟩ : Ba)
  | 0, vs, h => by
    have : vs = [] := List.length_eq_zero_iff.1 (by omega)
    subst this
    rfl
  | N + 1, vs, h => by
    match vs, h with
    | a :: b :: l, h =>
      have ih := pairs_get N l (by simp only [List.length_cons] at h; omega)
      rw [pairsV, ih, List.finRange_succ, List.map_cons, List.map_map]
      rfl
    | [a], h => simp at h; omega
    | [], h => simp at h
theorem pairs_vals : ∀ l : List Ba, l.all (fun b => decide (0 ≤ b.tx ∧ 0 ≤ b.vote)) = true → pairsV (valsL l) = l
  | [], _ => rfl
  | b :: l, h => by
    simp only [List.all_cons, Bool.and_eq_true, decide_eq_true_eq] at h
    have ih := pairs_vals l h.2
    show (⟨((b.tx.toNat : Nat) : Int), ((b.vote.toNat : Nat) : Int)⟩ : Ba) :: pairsV (valsL l) = _
    rw [ih, show ((b.tx.toNat : Nat) : Int) = b.tx by omega, show ((b.vote.toNat : Nat) : Int) = b.vote by omega]
def encB (b : Ba) : Array Value := #[.agg #[.int .i64 b.tx, .int .i64 b.vote]]
theorem pairs_any (a : Option Addr) (len cap : Nat) (w : World) : Calls Tryd.prog 35 #[.slice a len cap] w fun e w' => ∃ g, e = .returned (.func (.func 66) #[] #[.pointer (some ⟨g, 0, none⟩)]) ∧ w'.cell? ⟨g, 0, none⟩ = some (.slice a len cap) ∧ Below w.heap.size w w' := by
  go_enter Tryd.func35, Tryd.ntmps35
  go_wp2_with fail
  go_ret
  exact ⟨w.heap.size, rfl, by simp, (Below.refl _ w).alloc (Nat.le_refl _) _⟩
theorem round_in {m m' l l' : Nat} {P : Program} {f : FuncId} {t : Array Value} {a b : Code} {w : World} {R : Ending → World → Prop} (h : RoundIn Fence.wide m P l f t a b w R) : RoundIn (Fence.wide.inRound l') m' P l f t a b w R :=
  ⟨h.1, fun c cs _ => h.2 c cs (room_wide _)⟩
set_option maxHeartbeats 8000000 in
theorem pairs1_any (n : Nat) (hn : 4 ≤ n) (a : Option Addr) (B b off N cap : Nat) (ha : 0 < N → a = some ⟨b, off, none⟩) (vs : List V) (w : World) (hN : N ≤ 1000) (hvs : vs.length = 2 * N) (hcap : 2 * N ≤ cap) (hcm : cap ≤ maxLen) (hsm : ∀ x ∈ vs, x.n < 9223372036854775808)
    (hB : w.cell? ⟨B, 0, none⟩ = some (.slice a (2 * N) cap)) (hbw : b < w.heap.size) (hcc : ∀ i (h : i < vs.length), w.cell? ⟨b, off + i * 2, none⟩ = some (.int .u64 (vs[i].n : Int))) :
    SeqO Fence.wide n Tryd.prog 66 #[.pointer (some ⟨B, 0, none⟩)] encB (Same b) (fun xs => xs = pairsV vs) (fun pre => pre <+: pairsV vs) N w := fun l J Jx row W hW hJ hJx hlt hY h0 => by
  have hb := (hW.cell (p := ⟨B, 0, none⟩) (Flat.cell_lt hB)).trans hB
  have h1 : 1 ≤ n := by omega
  have hBl := Flat.cell_lt hb
  have hbW : b < W.heap.size := Nat.lt_of_lt_of_le hbw hW.size
  have hfC : Fence.wide.fn 67 := trivial
  obtain ⟨bal, hbal⟩ : ∃ bal : Fin N → Ba, bal = fun i => (⟨(vs[2 * i.val]'(by have := i.isLt; omega)).n, (vs[2 * i.val + 1]'(by have := i.isLt; omega)).n⟩ : Ba) := ⟨_, rfl⟩
  have HPV : Hid (pairsV vs = (List.finRange N).map bal) := Lib.hid (by rw [hbal]; exact pairs_get N vs hvs)
  have HCC := Lib.hid (fun (V : World) (hs : Same b W V) (i : Fin N) => show V.cell? ⟨b, off + (2 * i.val) * 2, none⟩ = some (.int .u64 (bal i).tx) ∧ V.cell? ⟨b, off + (2 * i.val) * 2 + 2, none⟩ = some (.int .u64 (bal i).vote) from by
    have hi := i.isLt
    rw [hbal]
    exact ⟨(World.cell?_of_block (a := ⟨b, _, none⟩) hs).trans ((hW.cell (p := ⟨b, _, none⟩) hbw).trans (hcc (2 * i.val) (by omega))), (World.cell?_of_block (a := ⟨b, _, none⟩) hs).trans ((hW.cell (p := ⟨b, _, none⟩) hbw).trans (by have k := hcc (2 * i.val + 1) (by omega); rwa [show off + (2 * i.val + 1) * 2 = off + (2 * i.val) * 2 + 2 by omega] at k))⟩)
  have HSM := Lib.hid (fun (i : Fin N) => show 0 ≤ (bal i).tx ∧ (bal i).tx < 9223372036854775808 ∧ 0 ≤ (bal i).vote ∧ (bal i).vote < 9223372036854775808 from by
    have hi := i.isLt
    rw [hbal]
    have e1 := hsm _ (List.getElem_mem (show 2 * i.val < vs.length by omega))
    have e2 := hsm _ (List.getElem_mem (show 2 * i.val + 1 < vs.length by omega))
    dsimp only
    omega)
  clear hbal hcc hsm
  refine callsIn_of_wp_marks Tryd.func66 rfl trivial ?_ rfl
  simp only [Tryd.ntmps66]
  simp only [List.size_toArray, List.length_cons, List.length_nil, Nat.reduceAdd, Nat.reduceSub, Array.replicate_succ, Array.replicate_zero, List.push_toArray, List.append_toArray, List.nil_append, List.cons_append]
  have hba := fun o => (((Below.refl W.heap.size W).alloc (Nat.le_refl _) o).cell (p := ⟨B, 0, none⟩) hBl).trans hb
  gi_wp2_with fail
  generalize hv1 : World.alloc W _ = v1
  obtain ⟨hb1, hz1, hy1⟩ := alloc_facts hv1
  have hy1 := hy1 0
  clear hv1 hba
  refine (callsIn_wide.2 (chunk_any _ _ _ v1)).mono ?_
  rintro e v2 ⟨g1, g2, rfl, hc1, hc2, hg1, hg2, hb2⟩
  have s12 := hb2.size
  have hB2 : Below W.heap.size W v2 := hb1.trans (hb2.mono (Nat.le_of_lt hz1))
  have hs2 := hB2.size
  have h02 : J [] row v2 := hJ _ _ W v2 none h0 (grown_below hB2 none) (fun r e => by cases e)
  have yv2 := (hb2.cell (p := ⟨W.heap.size, 0, none⟩) hz1).trans hy1
  have lg1 := Flat.cell_lt hc1
  have lg2 := Flat.cell_lt hc2
  have hseq := chunk1_any (n - 1) (by omega) a g1 g2 b off N cap ha hN hcap hcm v2 hc1 hc2
  gi_wp2_with fail
  refine range_set (n := n) rfl h1 (gf := 86) (lb := #[.pointer (some ⟨g1, 0, none⟩), .pointer (some ⟨g2, 0, none⟩)]) rfl trivial (enters_of Tryd.func86 (by kernel_rfl) rfl)
    hseq (fun h k => ⟨Eq.trans k.1 h.1, Eq.trans k.2 h.2⟩) (fun V V' t hz hg ht => ⟨hg.block g1 (by omega) (fun e => absurd (ht g1 e.symm) (by omega)), hg.block g2 (by omega) (fun e => absurd (ht g2 e.symm) (by omega))⟩) (Below.refl _ _) (fun _ => rfl) (fun _ => ⟨rfl, rfl⟩)
    (fun pre row' V => J (pre.map bal) row' V ∧ (V.cell? ⟨W.heap.size, 0, none⟩ = some (.func (.yield l) #[] #[]) ∧ Same b W V ∧ v2.heap.size ≤ V.heap.size) ∧ row' ≠ some W.heap.size ∧ row' ≠ some g1 ∧ row' ≠ some g2)
    (fun cd pre row' V => cd = .ret ∧ Jx (pre.map bal) row' V)
    (fun s row' V V' t hs hg ht => ⟨(hJ.mono hs2) _ row' V V' t hs.1 hg ht, ⟨(hg.cell_far ⟨W.heap.size, 0, none⟩ (Flat.cell_lt hs.2.1.1) (fun e => absurd (ht W.heap.size e.symm).1 (by omega))).trans hs.2.1.1, (hg.block b (by have := hs.2.1.2.2; omega) (fun e => absurd (ht b e.symm).1 (by omega))).trans hs.2.1.2.1, Nat.le_trans hs.2.1.2.2 hg.size⟩, hs.2.2⟩)
    (fun cd s row' V V' t hs hg ht => ⟨hs.1, (hJx.mono hs2) _ row' V V' t hs.2 hg ht⟩)
    (fun s row' V hs => hlt _ row' V hs.1) row (fun r e => Nat.lt_of_lt_of_le (hlt _ _ _ h0 r e) hs2)
    ⟨h02, ⟨yv2, hB2.block b hbW, Nat.le_refl _⟩, fun e => by have := hlt _ _ _ h0 _ e; omega, fun e => by have := hlt _ _ _ h0 _ e; omega, fun e => by have := hlt _ _ _ h0 _ e; omega⟩
    (fun x T => T.setIfInBounds 3 (.slice (some ⟨b, off + (2 * x.val) * 2, none⟩) 2 2)) ?assign ?body ?done ?stop
  case assign =>
    intro l' x V K hK
    simp [part] at hK
    simp only [part]
    gi_wp2
    exact hK
  case body =>
    rintro l' pre row' x V hl ⟨hj, ⟨hy, hsb, hsv⟩, hn0, hn1, hn2⟩ hlen
    have HJ := Lib.hid hJ
    have HJX := Lib.hid hJx
    have HLT := Lib.hid hlt
    have mixed : Tryd.prog.follows Departure.mixedOrders = true := by kernel_rfl
    obtain ⟨fn, tmps, assign, body, hyy, hR⟩ := hY (pre.map bal) row' (bal x) V.drew (hJ _ _ V V.drew none hj ⟨rfl, rfl, rfl, Nat.le_refl _, fun _ _ _ => rfl⟩ (fun r e => by cases e)) (by rw [List.length_map]; omega)
    obtain ⟨q0, q1⟩ := HCC.out V hsb x
    obtain ⟨m0, m1, m2, m3⟩ := HSM.out x
    have hw0 : IntKind.i64.wrap (bal x).tx = (bal x).tx := by
      rw [IntKind.wrap_i64]; omega
    have hw1 : IntKind.i64.wrap (bal x).vote = (bal x).vote := by
      rw [IntKind.wrap_i64]; omega
    have hR := (round_in (m' := n - 1 - 1 - 1) (l' := l') hR).mono (R' := fun e W3 => ∃ bv : Bool, e = .returned (.bool bv) ∧ Hid (∃ row3, SeqOver.Next row' row3 V.drew ∧ Keep W.heap.size row' V.drew W3 ∧ ((bv = true ∧ J (pre.map bal ++ [bal x]) row3 W3 ∧ Same b V.drew W3) ∨ (bv = false ∧ Jx (pre.map bal ++ [bal x]) row3 W3)))) (by
      rintro e W3 ⟨row3, h1, h2, (⟨h3, h4⟩ | ⟨h3, h4⟩)⟩
      · exact ⟨true, h3, Lib.hid ⟨row3, h1, h2, .inl ⟨rfl, h4⟩⟩⟩
      · exact ⟨false, h3, Lib.hid ⟨row3, h1, h2, .inr ⟨rfl, h4⟩⟩⟩)
    have hd1 : 1 ≤ n - 1 - 1 := by omega
    have hyl := Flat.cell_lt hy
    unfold encB at hyy
    clear hY hJ hJx hlt
    simp only [part]
    gi_wp2
    refine wpIn_region_any mixed ?_
    change wpAnyIn _ _ _ _ _ _ _ _ _ (World.drew _)
    refine any_round l' rfl (by kernel_rfl) _ _ _ _ ?_
    refine wpAnyIn_take (i := 1) (v := ?_) rfl rfl (by kernel_rfl) (by kernel_rfl) (by kernel_rfl) (fun _ _ _ h => h) ⟨Or.inl ⟨by rfl, ?_⟩, fun _ => rfl⟩ ?_
    rotate_left
    · intro w0; go_simp; try with_reducible rfl
    refine wpAnyIn_take (i := 2) (v := ?_) rfl rfl (by kernel_rfl) (by kernel_rfl) (by kernel_rfl) (fun _ _ _ h => h) ⟨Or.inl ⟨by rfl, ?_⟩, fun _ => rfl⟩ ?_
    rotate_left
    · intro w0; go_simp; try with_reducible rfl
    refine wpAnyIn_take (i := 3) (v := ?_) rfl rfl (by kernel_rfl) (by kernel_rfl) (by kernel_rfl) (fun _ _ _ h => h) ⟨Or.inl ⟨by rfl, ?_⟩, fun _ => rfl⟩ ?_
    rotate_left
    · intro w0; go_simp; try with_reducible rfl
    refine wpAnyIn_take (i := 6) (v := ?_) rfl rfl (by kernel_rfl) (by kernel_rfl) (by kernel_rfl) (fun _ _ _ h => h) ⟨Or.inl ⟨by rfl, ?_⟩, fun _ => rfl⟩ ?_
    rotate_left
    · intro w0; go_simp; try with_reducible rfl
    refine wpAnyIn_take (i := 7) (v := ?_) rfl rfl (by kernel_rfl) (by kernel_rfl) (by kernel_rfl) (fun _ _ _ h => h) ⟨Or.inl ⟨by rfl, ?_⟩, fun _ => rfl⟩ ?_
    rotate_left
    · intro w0; go_simp; try with_reducible rfl
    refine wpAnyIn_take (i := 8) (v := ?_) rfl rfl (by kernel_rfl) (by kernel_rfl) (by kernel_rfl) (fun _ _ _ h => h) ⟨Or.inl ⟨by rfl, ?_⟩, fun _ => rfl⟩ ?_
    rotate_left
    · intro w0; go_simp; try with_reducible rfl
    refine wpAnyIn_ready (rs := [0, 4, 9]) (by kernel_rfl) (by simp) ?_
    refine AllReadyIn.cons rfl (fun K hK => ?_) ?_
    · go_simp
      refine hK _ _ ?_; clear hK K
      refine wpAnyIn_ready (rs := [4, 9]) (by kernel_rfl) (by simp) ?_
      refine AllReadyIn.cons rfl (fun K hK => ?_) ?_
      · go_simp
        refine hK _ _ ?_; clear hK K
        refine wpAnyIn_take (i := 5) (v := ?_) rfl rfl (by kernel_rfl) (by kernel_rfl) (by kernel_rfl) (fun _ _ _ h => h) ⟨Or.inl ⟨by rfl, ?_⟩, fun _ => rfl⟩ ?_
        rotate_left
        · intro w0; go_simp; try with_reducible rfl
        refine wpAnyIn_ready (rs := [9]) (by kernel_rfl) (by simp) ?_
        refine AllReadyIn.cons rfl (fun K hK => ?_) ?_
        · go_simp
          refine hK _ _ ?_; clear hK K
          refine wpAnyIn_take (i := 10) (v := ?_) rfl rfl (by kernel_rfl) (by kernel_rfl) (by kernel_rfl) (fun _ _ _ h => h) ⟨Or.inl ⟨by rfl, ?_⟩, fun _ => rfl⟩ ?_
          rotate_left
          · intro w0; go_simp; try with_reducible rfl
          refine wpAnyIn_take (i := 11) (v := ?_) rfl rfl (by kernel_rfl) (by kernel_rfl) (by kernel_rfl) (fun _ _ _ h => h) ⟨Or.inl ⟨by rfl, ?_⟩, fun _ => rfl⟩ ?_
          rotate_left
          · intro w0; go_simp; try with_reducible rfl
          refine wpAnyIn_ready (rs := [12]) (by kernel_rfl) (by simp) ?_
          refine AllReadyIn.cons rfl (fun K hK => ?_) ?_
          · go_simp
            refine hR.mono ?_
            clear hR
            rintro e W3 ⟨bv, rfl, hrest⟩
            refine hK _ _ ?_; clear hK K
            refine wpAnyIn_take (i := 13) (v := ?_) rfl rfl (by kernel_rfl) (by kernel_rfl) (by kernel_rfl) (fun _ _ _ h => h) ⟨Or.inl ⟨by rfl, ?_⟩, fun _ => rfl⟩ ?_
            rotate_left
            · intro w0; go_simp; try with_reducible rfl
            refine wpAnyIn_done (by kernel_rfl) ?_ _
            obtain ⟨row3, hnx, hkp, hor⟩ := hrest.out
            have r0 : row3 ≠ some W.heap.size := by
              rcases hnx with rfl | h
              · exact hn0
              · intro e; have k := h _ e; have k2 : V.drew.heap.size = V.heap.size := rfl; omega
            have r1 : row3 ≠ some g1 := by
              rcases hnx with rfl | h
              · exact hn1
              · intro e; have k := h _ e; have k2 : V.drew.heap.size = V.heap.size := rfl; omega
            have r2 : row3 ≠ some g2 := by
              rcases hnx with rfl | h
              · exact hn2
              · intro e; have k := h _ e; have k2 : V.drew.heap.size = V.heap.size := rfl; omega
            have hkV : Keep W.heap.size row' V W3 := ⟨hkp.size, hkp.same⟩
            have hnV : SeqOver.Next row' row3 V := hnx
            rcases hor with ⟨rfl, hJ3, hk3⟩ | ⟨rfl, hJx3⟩
            · gi_wp2
              exact ⟨row3, hnV, hkV.mono hs2, ⟨hkV.same g1 (by omega) (by omega) (fun e => hn1 e.symm), hkV.same g2 (by omega) (by omega) (fun e => hn2 e.symm)⟩, by rw [List.map_append]; exact hJ3,
                ⟨(World.cell?_of_block (a := ⟨W.heap.size, 0, none⟩) (hkV.same W.heap.size (Nat.le_refl _) hyl (fun e => hn0 e.symm))).trans hy, hk3.trans hsb, Nat.le_trans hsv hkV.size⟩, r0, r1, r2⟩
            · gi_wp2
              exact ⟨row3, hnV, hkV.mono hs2, rfl, by rw [List.map_append]; exact hJx3⟩
          exact AllReadyIn.nil
        exact AllReadyIn.nil
      refine AllReadyIn.cons rfl (fun K hK => ?_) ?_
      · go_simp
        refine hK _ _ ?_; clear hK K
        refine wpAnyIn_take (i := 10) (v := ?_) rfl rfl (by kernel_rfl) (by kernel_rfl) (by kernel_rfl) (fun _ _ _ h => h) ⟨Or.inl ⟨by rfl, ?_⟩, fun _ => rfl⟩ ?_
        rotate_left
        · intro w0; go_simp; try with_reducible rfl
        refine wpAnyIn_ready (rs := [4]) (by kernel_rfl) (by simp) ?_
        refine AllReadyIn.cons rfl (fun K hK => ?_) ?_
        · go_simp
          refine hK _ _ ?_; clear hK K
          refine wpAnyIn_take (i := 5) (v := ?_) rfl rfl (by kernel_rfl) (by kernel_rfl) (by kernel_rfl) (fun _ _ _ h => h) ⟨Or.inl ⟨by rfl, ?_⟩, fun _ => rfl⟩ ?_
          rotate_left
          · intro w0; go_simp; try with_reducible rfl
          refine wpAnyIn_take (i := 11) (v := ?_) rfl rfl (by kernel_rfl) (by kernel_rfl) (by kernel_rfl) (fun _ _ _ h => h) ⟨Or.inl ⟨by rfl, ?_⟩, fun _ => rfl⟩ ?_
          rotate_left
          · intro w0; go_simp; try with_reducible rfl
          refine wpAnyIn_ready (rs := [12]) (by kernel_rfl) (by simp) ?_
          refine AllReadyIn.cons rfl (fun K hK => ?_) ?_
          · go_simp
            refine hR.mono ?_
            clear hR
            rintro e W3 ⟨bv, rfl, hrest⟩
            refine hK _ _ ?_; clear hK K
            refine wpAnyIn_take (i := 13) (v := ?_) rfl rfl (by kernel_rfl) (by kernel_rfl) (by kernel_rfl) (fun _ _ _ h => h) ⟨Or.inl ⟨by rfl, ?_⟩, fun _ => rfl⟩ ?_
            rotate_left
            · intro w0; go_simp; try with_reducible rfl
            refine wpAnyIn_done (by kernel_rfl) ?_ _
            obtain ⟨row3, hnx, hkp, hor⟩ := hrest.out
            have r0 : row3 ≠ some W.heap.size := by
              rcases hnx with rfl | h
              · exact hn0
              · intro e; have k := h _ e; have k2 : V.drew.heap.size = V.heap.size := rfl; omega
            have r1 : row3 ≠ some g1 := by
              rcases hnx with rfl | h
              · exact hn1
              · intro e; have k := h _ e; have k2 : V.drew.heap.size = V.heap.size := rfl; omega
            have r2 : row3 ≠ some g2 := by
              rcases hnx with rfl | h
              · exact hn2
              · intro e; have k := h _ e; have k2 : V.drew.heap.size = V.heap.size := rfl; omega
            have hkV : Keep W.heap.size row' V W3 := ⟨hkp.size, hkp.same⟩
            have hnV : SeqOver.Next row' row3 V := hnx
            rcases hor with ⟨rfl, hJ3, hk3⟩ | ⟨rfl, hJx3⟩
            · gi_wp2
              exact ⟨row3, hnV, hkV.mono hs2, ⟨hkV.same g1 (by omega) (by omega) (fun e => hn1 e.symm), hkV.same g2 (by omega) (by omega) (fun e => hn2 e.symm)⟩, by rw [List.map_append]; exact hJ3,
                ⟨(World.cell?_of_block (a := ⟨W.heap.size, 0, none⟩) (hkV.same W.heap.size (Nat.le_refl _) hyl (fun e => hn0 e.symm))).trans hy, hk3.trans hsb, Nat.le_trans hsv hkV.size⟩, r0, r1, r2⟩
            · gi_wp2
              exact ⟨row3, hnV, hkV.mono hs2, rfl, by rw [List.map_append]; exact hJx3⟩
          exact AllReadyIn.nil
        exact AllReadyIn.nil
      exact AllReadyIn.nil
    refine AllReadyIn.cons rfl (fun K hK => ?_) ?_
    · go_simp
      refine hK _ _ ?_; clear hK K
      refine wpAnyIn_take (i := 5) (v := ?_) rfl rfl (by kernel_rfl) (by kernel_rfl) (by kernel_rfl) (fun _ _ _ h => h) ⟨Or.inl ⟨by rfl, ?_⟩, fun _ => rfl⟩ ?_
      rotate_left
      · intro w0; go_simp; try with_reducible rfl
      refine wpAnyIn_ready (rs := [0, 9]) (by kernel_rfl) (by simp) ?_
      refine AllReadyIn.cons rfl (fun K hK => ?_) ?_
      · go_simp
        refine hK _ _ ?_; clear hK K
        refine wpAnyIn_ready (rs := [9]) (by kernel_rfl) (by simp) ?_
        refine AllReadyIn.cons rfl (fun K hK => ?_) ?_
        · go_simp
          refine hK _ _ ?_; clear hK K
          refine wpAnyIn_take (i := 10) (v := ?_) rfl rfl (by kernel_rfl) (by kernel_rfl) (by kernel_rfl) (fun _ _ _ h => h) ⟨Or.inl ⟨by rfl, ?_⟩, fun _ => rfl⟩ ?_
          rotate_left
          · intro w0; go_simp; try with_reducible rfl
          refine wpAnyIn_take (i := 11) (v := ?_) rfl rfl (by kernel_rfl) (by kernel_rfl) (by kernel_rfl) (fun _ _ _ h => h) ⟨Or.inl ⟨by rfl, ?_⟩, fun _ => rfl⟩ ?_
          rotate_left
          · intro w0; go_simp; try with_reducible rfl
          refine wpAnyIn_ready (rs := [12]) (by kernel_rfl) (by simp) ?_
          refine AllReadyIn.cons rfl (fun K hK => ?_) ?_
          · go_simp
            refine hR.mono ?_
            clear hR
            rintro e W3 ⟨bv, rfl, hrest⟩
            refine hK _ _ ?_; clear hK K
            refine wpAnyIn_take (i := 13) (v := ?_) rfl rfl (by kernel_rfl) (by kernel_rfl) (by kernel_rfl) (fun _ _ _ h => h) ⟨Or.inl ⟨by rfl, ?_⟩, fun _ => rfl⟩ ?_
            rotate_left
            · intro w0; go_simp; try with_reducible rfl
            refine wpAnyIn_done (by kernel_rfl) ?_ _
            obtain ⟨row3, hnx, hkp, hor⟩ := hrest.out
            have r0 : row3 ≠ some W.heap.size := by
              rcases hnx with rfl | h
              · exact hn0
              · intro e; have k := h _ e; have k2 : V.drew.heap.size = V.heap.size := rfl; omega
            have r1 : row3 ≠ some g1 := by
              rcases hnx with rfl | h
              · exact hn1
              · intro e; have k := h _ e; have k2 : V.drew.heap.size = V.heap.size := rfl; omega
            have r2 : row3 ≠ some g2 := by
              rcases hnx with rfl | h
              · exact hn2
              · intro e; have k := h _ e; have k2 : V.drew.heap.size = V.heap.size := rfl; omega
            have hkV : Keep W.heap.size row' V W3 := ⟨hkp.size, hkp.same⟩
            have hnV : SeqOver.Next row' row3 V := hnx
            rcases hor with ⟨rfl, hJ3, hk3⟩ | ⟨rfl, hJx3⟩
            · gi_wp2
              exact ⟨row3, hnV, hkV.mono hs2, ⟨hkV.same g1 (by omega) (by omega) (fun e => hn1 e.symm), hkV.same g2 (by omega) (by omega) (fun e => hn2 e.symm)⟩, by rw [List.map_append]; exact hJ3,
                ⟨(World.cell?_of_block (a := ⟨W.heap.size, 0, none⟩) (hkV.same W.heap.size (Nat.le_refl _) hyl (fun e => hn0 e.symm))).trans hy, hk3.trans hsb, Nat.le_trans hsv hkV.size⟩, r0, r1, r2⟩
            · gi_wp2
              exact ⟨row3, hnV, hkV.mono hs2, rfl, by rw [List.map_append]; exact hJx3⟩
          exact AllReadyIn.nil
        exact AllReadyIn.nil
      refine AllReadyIn.cons rfl (fun K hK => ?_) ?_
      · go_simp
        refine hK _ _ ?_; clear hK K
        refine wpAnyIn_take (i := 10) (v := ?_) rfl rfl (by kernel_rfl) (by kernel_rfl) (by kernel_rfl) (fun _ _ _ h => h) ⟨Or.inl ⟨by rfl, ?_⟩, fun _ => rfl⟩ ?_
        rotate_left
        · intro w0; go_simp; try with_reducible rfl
        refine wpAnyIn_take (i := 11) (v := ?_) rfl rfl (by kernel_rfl) (by kernel_rfl) (by kernel_rfl) (fun _ _ _ h => h) ⟨Or.inl ⟨by rfl, ?_⟩, fun _ => rfl⟩ ?_
        rotate_left
        · intro w0; go_simp; try with_reducible rfl
        refine wpAnyIn_ready (rs := [0]) (by kernel_rfl) (by simp) ?_
        refine AllReadyIn.cons rfl (fun K hK => ?_) ?_
        · go_simp
          refine hK _ _ ?_; clear hK K
          refine wpAnyIn_ready (rs := [12]) (by kernel_rfl) (by simp) ?_
          refine AllReadyIn.cons rfl (fun K hK => ?_) ?_
          · go_simp
            refine hR.mono ?_
            clear hR
            rintro e W3 ⟨bv, rfl, hrest⟩
            refine hK _ _ ?_; clear hK K
            refine wpAnyIn_take (i := 13) (v := ?_) rfl rfl (by kernel_rfl) (by kernel_rfl) (by kernel_rfl) (fun _ _ _ h => h) ⟨Or.inl ⟨by rfl, ?_⟩, fun _ => rfl⟩ ?_
            rotate_left
            · intro w0; go_simp; try with_reducible rfl
            refine wpAnyIn_done (by kernel_rfl) ?_ _
            obtain ⟨row3, hnx, hkp, hor⟩ := hrest.out
            have r0 : row3 ≠ some W.heap.size := by
              rcases hnx with rfl | h
              · exact hn0
              · intro e; have k := h _ e; have k2 : V.drew.heap.size = V.heap.size := rfl; omega
            have r1 : row3 ≠ some g1 := by
              rcases hnx with rfl | h
              · exact hn1
              · intro e; have k := h _ e; have k2 : V.drew.heap.size = V.heap.size := rfl; omega
            have r2 : row3 ≠ some g2 := by
              rcases hnx with rfl | h
              · exact hn2
              · intro e; have k := h _ e; have k2 : V.drew.heap.size = V.heap.size := rfl; omega
            have hkV : Keep W.heap.size row' V W3 := ⟨hkp.size, hkp.same⟩
            have hnV : SeqOver.Next row' row3 V := hnx
            rcases hor with ⟨rfl, hJ3, hk3⟩ | ⟨rfl, hJx3⟩
            · gi_wp2
              exact ⟨row3, hnV, hkV.mono hs2, ⟨hkV.same g1 (by omega) (by omega) (fun e => hn1 e.symm), hkV.same g2 (by omega) (by omega) (fun e => hn2 e.symm)⟩, by rw [List.map_append]; exact hJ3,
                ⟨(World.cell?_of_block (a := ⟨W.heap.size, 0, none⟩) (hkV.same W.heap.size (Nat.le_refl _) hyl (fun e => hn0 e.symm))).trans hy, hk3.trans hsb, Nat.le_trans hsv hkV.size⟩, r0, r1, r2⟩
            · gi_wp2
              exact ⟨row3, hnV, hkV.mono hs2, rfl, by rw [List.map_append]; exact hJx3⟩
          exact AllReadyIn.nil
        exact AllReadyIn.nil
      exact AllReadyIn.nil
    refine AllReadyIn.cons rfl (fun K hK => ?_) ?_
    · go_simp
      refine hK _ _ ?_; clear hK K
      refine wpAnyIn_take (i := 10) (v := ?_) rfl rfl (by kernel_rfl) (by kernel_rfl) (by kernel_rfl) (fun _ _ _ h => h) ⟨Or.inl ⟨by rfl, ?_⟩, fun _ => rfl⟩ ?_
      rotate_left
      · intro w0; go_simp; try with_reducible rfl
      refine wpAnyIn_ready (rs := [0, 4]) (by kernel_rfl) (by simp) ?_
      refine AllReadyIn.cons rfl (fun K hK => ?_) ?_
      · go_simp
        refine hK _ _ ?_; clear hK K
        refine wpAnyIn_ready (rs := [4]) (by kernel_rfl) (by simp) ?_
        refine AllReadyIn.cons rfl (fun K hK => ?_) ?_
        · go_simp
          refine hK _ _ ?_; clear hK K
          refine wpAnyIn_take (i := 5) (v := ?_) rfl rfl (by kernel_rfl) (by kernel_rfl) (by kernel_rfl) (fun _ _ _ h => h) ⟨Or.inl ⟨by rfl, ?_⟩, fun _ => rfl⟩ ?_
          rotate_left
          · intro w0; go_simp; try with_reducible rfl
          refine wpAnyIn_take (i := 11) (v := ?_) rfl rfl (by kernel_rfl) (by kernel_rfl) (by kernel_rfl) (fun _ _ _ h => h) ⟨Or.inl ⟨by rfl, ?_⟩, fun _ => rfl⟩ ?_
          rotate_left
          · intro w0; go_simp; try with_reducible rfl
          refine wpAnyIn_ready (rs := [12]) (by kernel_rfl) (by simp) ?_
          refine AllReadyIn.cons rfl (fun K hK => ?_) ?_
          · go_simp
            refine hR.mono ?_
            clear hR
            rintro e W3 ⟨bv, rfl, hrest⟩
            refine hK _ _ ?_; clear hK K
            refine wpAnyIn_take (i := 13) (v := ?_) rfl rfl (by kernel_rfl) (by kernel_rfl) (by kernel_rfl) (fun _ _ _ h => h) ⟨Or.inl ⟨by rfl, ?_⟩, fun _ => rfl⟩ ?_
            rotate_left
            · intro w0; go_simp; try with_reducible rfl
            refine wpAnyIn_done (by kernel_rfl) ?_ _
            obtain ⟨row3, hnx, hkp, hor⟩ := hrest.out
            have r0 : row3 ≠ some W.heap.size := by
              rcases hnx with rfl | h
              · exact hn0
              · intro e; have k := h _ e; have k2 : V.drew.heap.size = V.heap.size := rfl; omega
            have r1 : row3 ≠ some g1 := by
              rcases hnx with rfl | h
              · exact hn1
              · intro e; have k := h _ e; have k2 : V.drew.heap.size = V.heap.size := rfl; omega
            have r2 : row3 ≠ some g2 := by
              rcases hnx with rfl | h
              · exact hn2
              · intro e; have k := h _ e; have k2 : V.drew.heap.size = V.heap.size := rfl; omega
            have hkV : Keep W.heap.size row' V W3 := ⟨hkp.size, hkp.same⟩
            have hnV : SeqOver.Next row' row3 V := hnx
            rcases hor with ⟨rfl, hJ3, hk3⟩ | ⟨rfl, hJx3⟩
            · gi_wp2
              exact ⟨row3, hnV, hkV.mono hs2, ⟨hkV.same g1 (by omega) (by omega) (fun e => hn1 e.symm), hkV.same g2 (by omega) (by omega) (fun e => hn2 e.symm)⟩, by rw [List.map_append]; exact hJ3,
                ⟨(World.cell?_of_block (a := ⟨W.heap.size, 0, none⟩) (hkV.same W.heap.size (Nat.le_refl _) hyl (fun e => hn0 e.symm))).trans hy, hk3.trans hsb, Nat.le_trans hsv hkV.size⟩, r0, r1, r2⟩
            · gi_wp2
              exact ⟨row3, hnV, hkV.mono hs2, rfl, by rw [List.map_append]; exact hJx3⟩
          exact AllReadyIn.nil
        exact AllReadyIn.nil
      refine AllReadyIn.cons rfl (fun K hK => ?_) ?_
      · go_simp
        refine hK _ _ ?_; clear hK K
        refine wpAnyIn_take (i := 5) (v := ?_) rfl rfl (by kernel_rfl) (by kernel_rfl) (by kernel_rfl) (fun _ _ _ h => h) ⟨Or.inl ⟨by rfl, ?_⟩, fun _ => rfl⟩ ?_
        rotate_left
        · intro w0; go_simp; try with_reducible rfl
        refine wpAnyIn_take (i := 11) (v := ?_) rfl rfl (by kernel_rfl) (by kernel_rfl) (by kernel_rfl) (fun _ _ _ h => h) ⟨Or.inl ⟨by rfl, ?_⟩, fun _ => rfl⟩ ?_
        rotate_left
        · intro w0; go_simp; try with_reducible rfl
        refine wpAnyIn_ready (rs := [0]) (by kernel_rfl) (by simp) ?_
        refine AllReadyIn.cons rfl (fun K hK => ?_) ?_
        · go_simp
          refine hK _ _ ?_; clear hK K
          refine wpAnyIn_ready (rs := [12]) (by kernel_rfl) (by simp) ?_
          refine AllReadyIn.cons rfl (fun K hK => ?_) ?_
          · go_simp
            refine hR.mono ?_
            clear hR
            rintro e W3 ⟨bv, rfl, hrest⟩
            refine hK _ _ ?_; clear hK K
            refine wpAnyIn_take (i := 13) (v := ?_) rfl rfl (by kernel_rfl) (by kernel_rfl) (by kernel_rfl) (fun _ _ _ h => h) ⟨Or.inl ⟨by rfl, ?_⟩, fun _ => rfl⟩ ?_
            rotate_left
            · intro w0; go_simp; try with_reducible rfl
            refine wpAnyIn_done (by kernel_rfl) ?_ _
            obtain ⟨row3, hnx, hkp, hor⟩ := hrest.out
            have r0 : row3 ≠ some W.heap.size := by
              rcases hnx with rfl | h
              · exact hn0
              · intro e; have k := h _ e; have k2 : V.drew.heap.size = V.heap.size := rfl; omega
            have r1 : row3 ≠ some g1 := by
              rcases hnx with rfl | h
              · exact hn1
              · intro e; have k := h _ e; have k2 : V.drew.heap.size = V.heap.size := rfl; omega
            have r2 : row3 ≠ some g2 := by
              rcases hnx with rfl | h
              · exact hn2
              · intro e; have k := h _ e; have k2 : V.drew.heap.size = V.heap.size := rfl; omega
            have hkV : Keep W.heap.size row' V W3 := ⟨hkp.size, hkp.same⟩
            have hnV : SeqOver.Next row' row3 V := hnx
            rcases hor with ⟨rfl, hJ3, hk3⟩ | ⟨rfl, hJx3⟩
            · gi_wp2
              exact ⟨row3, hnV, hkV.mono hs2, ⟨hkV.same g1 (by omega) (by omega) (fun e => hn1 e.symm), hkV.same g2 (by omega) (by omega) (fun e => hn2 e.symm)⟩, by rw [List.map_append]; exact hJ3,
                ⟨(World.cell?_of_block (a := ⟨W.heap.size, 0, none⟩) (hkV.same W.heap.size (Nat.le_refl _) hyl (fun e => hn0 e.symm))).trans hy, hk3.trans hsb, Nat.le_trans hsv hkV.size⟩, r0, r1, r2⟩
            · gi_wp2
              exact ⟨row3, hnV, hkV.mono hs2, rfl, by rw [List.map_append]; exact hJx3⟩
          exact AllReadyIn.nil
        exact AllReadyIn.nil
      exact AllReadyIn.nil
    exact AllReadyIn.nil
  case done =>
    rintro D xs row' V hD rfl ⟨hj, _, _⟩ hne hk
    gi_wp2
    refine ⟨by simp, .inl ⟨_, _, rfl, run_takeDeferred hk, ?_⟩⟩
    exact ⟨_, results_none rfl _ _ _, ⟨_, rfl⟩, row', .inl ⟨_, HPV.out.symm, (hJ.mono hs2).put _ hj hD hne⟩⟩
  case stop =>
    rintro D cd pre row' V hD hpre ⟨rfl, hj⟩ hne hk
    gi_wp2
    refine ⟨by simp, .inl ⟨_, _, rfl, run_takeDeferred hk, ?_⟩⟩
    exact ⟨_, results_none rfl _ _ _, ⟨_, rfl⟩, row', .inr ⟨_, by rw [HPV.out]; exact hpre.map _, (hJx.mono hs2).put _ hj hD hne⟩⟩
end Go.Proofs.YtajnaiofagppeaaDoor.Pairs
