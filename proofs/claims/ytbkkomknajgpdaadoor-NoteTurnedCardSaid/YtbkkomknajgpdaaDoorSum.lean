/- What package sum's Sum and the reference's answer. -/
import Derived.Test.YtbkkomknajgpdaaDoorCodeOut
import Derived.Test.YtbkkomknajgpdaaDoorSumSpec
import Derived.RangeFuncNested
import Derived.RangeFuncBound
import Derived.RangeFuncCalls
import Derived.RangeFuncLeaves
import Derived.Shelf.Abstract
import Derived.Shelf.RegionOpen
import Derived.OwnWalkIn
import Derived.TacticsInMore
import Derived.LoopNIn
import Derived.LoopIn
import Derived.Sort.QuietIn
namespace Go.Proofs.YtbkkomknajgpdaaDoor.SumMem
open Go.RowKit Go.Shelf CodeSpec SumSpec Flat CodeMem
set_option linter.unusedSimpArgs false
set_option linter.unusedVariables false
attribute [local go_sem] Oper.semAt_some
set_option maxRecDepth 100000

def FC : Nat := 45
def F1 : Nat := 53

set_option maxHeartbeats 1000000 in
theorem chunk_in (F : Fence) (n : Nat) (hF : F.fn 45) (hro : F.round = none) (a : Option Addr) (len cap : Nat) (w : World) :
    CallsIn F n Tryd.prog 45 #[.slice a len cap, .int .i64 3000] w fun e w' => e = .returned (.func (.func 53) #[] #[.pointer (some ⟨w.heap.size, 0, none⟩), .pointer (some ⟨w.heap.size + 1, 0, none⟩)]) ∧
      w' = (w.alloc (.cells #[.slice a len cap] 26)).alloc (.cells #[.int .i64 3000] 3) := by
  refine callsIn_of_wp Tryd.func45 rfl hF ?_ hro
  simp only [Tryd.ntmps45]
  simp only [List.size_toArray, List.length_cons, List.length_nil, Nat.reduceAdd, Nat.reduceSub, Array.replicate_succ, Array.replicate_zero, List.push_toArray, List.append_toArray, List.nil_append, List.cons_append]
  gi_wp2
  go_ret
  exact ⟨rfl, rfl⟩

theorem grown_drew (w : World) (row : Option Nat) : w.grownBy w.drew row := ⟨rfl, rfl, rfl, Nat.le_refl _, fun _ _ _ => rfl⟩
/-- What a round keeps: what lay below n₀, and the two boxes. -/
def Kp (n₀ Bs Bn : Nat) (W W' : World) : Prop := Below n₀ W W' ∧ W'.cell? ⟨Bs, 0, none⟩ = W.cell? ⟨Bs, 0, none⟩ ∧ W'.cell? ⟨Bn, 0, none⟩ = W.cell? ⟨Bn, 0, none⟩
theorem Kp.refl (n₀ Bs Bn : Nat) (W : World) : Kp n₀ Bs Bn W W := ⟨Below.refl _ _, rfl, rfl⟩
theorem Kp.trans {n₀ Bs Bn : Nat} {A B C : World} (h : Kp n₀ Bs Bn A B) (k : Kp n₀ Bs Bn B C) : Kp n₀ Bs Bn A C := ⟨h.1.trans k.1, k.2.1.trans h.2.1, k.2.2.trans h.2.2⟩

theorem grown_drewN (w : World) (n : Nat) (row : Option Nat) : w.grownBy (w.drewN n) row := ⟨rfl, rfl, rfl, Nat.le_refl _, fun _ _ _ => rfl⟩
theorem Kp.drewN (n₀ Bs Bn : Nat) (W : World) (n : Nat) : Kp n₀ Bs Bn W (W.drewN n) := ⟨⟨rfl, rfl, rfl, Nat.le_refl _, fun _ _ => rfl⟩, rfl, rfl⟩
/-- The k-th part, as the iterator hands it on. -/
def part (b off len : Nat) (k : Nat) : Array Value := #[.slice (some ⟨b, off + 3000 * k, none⟩) (min 3000 (len - 3000 * k)) (min 3000 (len - 3000 * k))]

def RelC (n₀ Bs Bn len : Nat) (J : List Nat → World → Prop) (W : World) (i : Value) (wr : World) : Prop :=
  ∃ k j : Nat, j = 3000 * k ∧ (k = 0 ∨ 3000 * (k - 1) < len) ∧ i = .int .i64 (j : Int) ∧ J (List.range k) wr ∧ Kp n₀ Bs Bn W wr
set_option maxHeartbeats 2000000 in
theorem chunk1_in (n : Nat) (hn : 1 ≤ n) (l Bs Bn n₀ b off len cap : Nat) (hlen : len ≤ 1000000) (hcap : len ≤ cap) (hcm : cap ≤ 9223372036854775807) (J Jx : List Nat → World → Prop)
    (hJ : ∀ s W W', J s W → W.grownBy W' none → J s W')
    (hY : ∀ pre x W, J pre W → pre.length < (len + 2999) / 3000 → YieldAt Fence.wide (n - 1) Tryd.prog l (part b off len x) W fun e W' =>
      (e = .returned (.bool true) ∧ J (pre ++ [x]) W' ∧ Kp n₀ Bs Bn W W') ∨ (e = .returned (.bool false) ∧ Jx (pre ++ [x]) W'))
    (W : World) (hBs : W.cell? ⟨Bs, 0, none⟩ = some (.slice (some ⟨b, off, none⟩) len cap)) (hBn : W.cell? ⟨Bn, 0, none⟩ = some (.int .i64 3000)) (h0 : J [] W) :
    CallsIn Fence.wide n Tryd.prog 53 #[.func (.yield l) #[] #[], .pointer (some ⟨Bs, 0, none⟩), .pointer (some ⟨Bn, 0, none⟩)] W fun e W' => (∃ v, e = .returned v) ∧
      ((∃ ys, ys = List.range ((len + 2999) / 3000) ∧ J ys W') ∨ (∃ pre, True ∧ Jx pre W')) := by
  refine callsIn_of_wp Tryd.func53 rfl trivial ?_ rfl
  simp only [Tryd.ntmps53]
  simp only [List.size_toArray, List.length_cons, List.length_nil, Nat.reduceAdd, Nat.reduceSub, Array.replicate_succ, Array.replicate_zero, List.push_toArray, List.append_toArray, List.nil_append, List.cons_append]
  gi_wp2
  gi_loopw [4] (fun i wr => RelC n₀ Bs Bn len J W i wr) (fun i _ => len - (intOf i).toNat)
  case atStart => exact ⟨0, 0, rfl, .inl rfl, rfl, h0, Kp.refl _ _ _ _⟩
  case round =>
    obtain ⟨k, j, hjk, hk, rfl, hJs, hK⟩ := hrel
    have c1 := hK.2.1.trans hBs
    have c2 := hK.2.2.trans hBn
    by_cases hlt : j < len
    · have hY2 := hY (List.range k) k
      simp only [List.length_range, part, ← hjk] at hY2
      have hk2 : k < (len + 2999) / 3000 := by omega
      have hltI : (j : Int) < (len : Int) := by omega
      have HJK := Lib.hid hjk
      clear hjk hk hBs hBn hlt
      obtain ⟨m, hm⟩ : ∃ m : Nat, min 3000 (len - j) = m := ⟨_, rfl⟩
      have hmI : min (3000 : Int) ((len - j : Nat) : Int) = (m : Int) := by rw [← hm]; omega
      have hm1 : j + m ≤ len := by omega
      have hm2 : (m : Int) + j ≤ len := by omega
      have hm3 : 0 < m := by omega
      rw [hm] at hY2
      have HM := Lib.hid hm
      clear hm
      gi_wp2
      gi_quiet (fail)
      obtain ⟨fn, tmps, assign, body, hy, hR⟩ := hY2 (wr.drewN nq) (hJ _ _ _ hJs (grown_drewN wr nq none)) hk2
      have e1 := (show (wr.drewN nq).cell? ⟨Bs, 0, none⟩ = wr.cell? ⟨Bs, 0, none⟩ from rfl).trans c1
      have e2 := (show (wr.drewN nq).cell? ⟨Bn, 0, none⟩ = wr.cell? ⟨Bn, 0, none⟩ from rfl).trans c2
      gi_wp2
      refine hR.mono ?_
      rintro e W3 (⟨rfl, hJ3, hk3⟩ | ⟨rfl, hJx3⟩)
      · have f2 := hk3.2.2.trans e2
        clear c1 c2 e1 e2 hJs hJ
        gi_wp2
        go_roundw
        case rel => exact ⟨k + 1, j + 3000, by rw [HJK.out]; omega, .inr (by have := HJK.out; simp; omega), by go_num, by rw [List.range_succ]; exact hJ3, hK.trans (Kp.trans (Kp.drewN _ _ _ _ _) hk3)⟩
        case measure => simp [intOf]; omega
      · gi_wp2
        refine bodyPost_ret (results_none rfl _ _ _) rfl ?_
        exact ⟨⟨_, rfl⟩, .inr ⟨_, trivial, hJx3⟩⟩
    · have hltI : ¬ (j : Int) < (len : Int) := by omega
      have he : k = (len + 2999) / 3000 := by omega
      have HE := Lib.hid he
      clear he hjk hk hlt
      gi_wp2
      go_end0
      refine ⟨⟨_, rfl⟩, .inl ?_⟩
      rw [← HE.out]
      exact hJs

theorem chunk_stops (n : Nat) (hn : 1 ≤ n) (Bs Bn n₀ b off len cap : Nat) (hlen : len ≤ 1000000) (hcap : len ≤ cap) (hcm : cap ≤ 9223372036854775807) (w : World) (hs : Bs < w.heap.size) (hn' : Bn < w.heap.size)
    (hBs : w.cell? ⟨Bs, 0, none⟩ = some (.slice (some ⟨b, off, none⟩) len cap)) (hBn : w.cell? ⟨Bn, 0, none⟩ = some (.int .i64 3000)) :
    SeqStopsK Fence.wide n Tryd.prog 53 #[.pointer (some ⟨Bs, 0, none⟩), .pointer (some ⟨Bn, 0, none⟩)] (part b off len) (Kp n₀ Bs Bn) (fun ys => ys = List.range ((len + 2999) / 3000)) (fun _ => True) ((len + 2999) / 3000) w :=
  fun l J Jx W hW hJ hJx hY h0 => chunk1_in n hn l Bs Bn n₀ b off len cap hlen hcap hcm J Jx (fun s A B hs' hg => hJ s A B none hs' hg (fun r e => by cases e)) hY W ((hW.cell (p := ⟨Bs, 0, none⟩) hs).trans hBs) ((hW.cell (p := ⟨Bn, 0, none⟩) hn').trans hBn) h0

theorem kp_b {n₀ Bs Bn : Nat} {w : World} (h0 : n₀ ≤ w.heap.size) (h1 : Bs < w.heap.size) (h2 : Bn < w.heap.size) (W : World) (l : Nat) (o o' : Obj) (hl : w.heap.size ≤ l) (h : W.heap[l]? = some o) (i1 : o.isCells = false) (i2 : o.isWalk = false) : Kp n₀ Bs Bn W (W.putObj l o') :=
  ⟨belowK_b h0 W l o o' hl h i1 i2, World.cell?_of_block (World.putObj_heap_other (by show Bs ≠ l; omega)), World.cell?_of_block (World.putObj_heap_other (by show Bn ≠ l; omega))⟩

def InS (w : World) (l : List UInt8) (pre : List Nat) (W : World) : Prop :=
  (W.cell? ⟨w.heap.size, 0, none⟩ = some (.int .u32 ((got l pre).1 : Int)) ∧ W.frozen? ⟨w.heap.size, 0, none⟩ = false ∧ W.cell? ⟨w.heap.size + 1, 0, none⟩ = some (.int .u32 ((got l pre).2 : Int)) ∧ W.frozen? ⟨w.heap.size + 1, 0, none⟩ = false) ∧ Below w.heap.size w W

theorem sets {w W wr : World} {a b a' b' : Value} (rx : wr.cell? ⟨w.heap.size, 0, none⟩ = some a) (rfx : wr.frozen? ⟨w.heap.size, 0, none⟩ = false) (ry : wr.cell? ⟨w.heap.size + 1, 0, none⟩ = some b) (rfy : wr.frozen? ⟨w.heap.size + 1, 0, none⟩ = false)
    (rK : KeepsOthers W wr) (rP : Kp w.heap.size (w.heap.size + 1 + 1) (w.heap.size + 1 + 1 + 1) W wr) (rB : Below w.heap.size w wr) {W' : World} (hW : (wr.setCell ⟨w.heap.size, 0, none⟩ a').setCell ⟨w.heap.size + 1, 0, none⟩ b' = W') :
    W'.cell? ⟨w.heap.size, 0, none⟩ = some a' ∧ W'.frozen? ⟨w.heap.size, 0, none⟩ = false ∧ W'.cell? ⟨w.heap.size + 1, 0, none⟩ = some b' ∧ W'.frozen? ⟨w.heap.size + 1, 0, none⟩ = false ∧
    KeepsOthers W W' ∧ Kp w.heap.size (w.heap.size + 1 + 1) (w.heap.size + 1 + 1 + 1) W W' ∧ Below w.heap.size w W' := by
  subst hW
  have c1 : (wr.setCell ⟨w.heap.size, 0, none⟩ a').cell? ⟨w.heap.size + 1, 0, none⟩ = some b := by rw [World.cell?_setCell_far _ _ _ _ (by simp)]; exact ry
  refine ⟨?_, ?_, World.cell?_setCell_same' _ _ _ (by rw [c1]; rfl), ?_, ?_, ⟨?_, ?_, ?_⟩, ?_⟩
  · rw [World.cell?_setCell_far _ _ _ _ (by simp)]; exact World.cell?_setCell_same' _ _ _ (by rw [rx]; rfl)
  · rw [World.frozen?_setCell, World.frozen?_setCell]; exact rfx
  · rw [World.frozen?_setCell, World.frozen?_setCell]; exact rfy
  · exact (rK.trans (KeepsOthers.setCell _ _ _)).trans (KeepsOthers.setCell _ _ _)
  · exact (rP.1.setCell (p := ⟨w.heap.size, 0, none⟩) (Nat.le_refl _) _).setCell (p := ⟨w.heap.size + 1, 0, none⟩) (Nat.le_succ _) _
  · rw [World.cell?_setCell_far _ _ _ _ (by simp), World.cell?_setCell_far _ _ _ _ (by show w.heap.size ≠ w.heap.size + 1 + 1; omega)]; exact rP.2.1
  · rw [World.cell?_setCell_far _ _ _ _ (by simp), World.cell?_setCell_far _ _ _ _ (by show w.heap.size ≠ w.heap.size + 1 + 1 + 1; omega)]; exact rP.2.2
  · exact (rB.setCell (p := ⟨w.heap.size, 0, none⟩) (Nat.le_refl _) _).setCell (p := ⟨w.heap.size + 1, 0, none⟩) (Nat.le_succ _) _
theorem ret_u32 {a b : Int} (h : a = b) : Ending.returned (.int .u32 a) = .returned (.int .u32 b) := by rw [h]
theorem wraps_u32 (n : Int) (h₀ : 0 ≤ n) (h₁ : n < 2 ^ 32) : IntKind.u32.wrap n = n := by
  simp [IntKind.wrap, IntKind.bits, IntKind.signed]
  omega
theorem u32_or16 (x y : Int) (hx₀ : 0 ≤ x) (hx : x % 65536 = 0) (hx₁ : x < 4294967296) (h₀ : 0 ≤ y) (h₁ : y < 65536) : bits .or .u32 x y = x + y :=
  bits_join .u32 32 (by decide) wraps_u32 16 x y hx₀ (by simpa using hx) (by simpa using hx₁) h₀ (by simpa using h₁) (by simp; omega)
def RelI (w W : World) (X Y : Nat) (q : List UInt8) (i : Value) (wr : World) : Prop :=
  ∃ k : Nat, k ≤ q.length ∧ i = .int .i64 k ∧ wr.cell? ⟨w.heap.size, 0, none⟩ = some (.int .u32 ((raw (X, Y) (q.take k)).1 : Int)) ∧ wr.frozen? ⟨w.heap.size, 0, none⟩ = false ∧
    wr.cell? ⟨w.heap.size + 1, 0, none⟩ = some (.int .u32 ((raw (X, Y) (q.take k)).2 : Int)) ∧ wr.frozen? ⟨w.heap.size + 1, 0, none⟩ = false ∧ KeepsOthers W wr ∧ Kp w.heap.size (w.heap.size + 1 + 1) (w.heap.size + 1 + 1 + 1) W wr ∧ Below w.heap.size w wr
theorem tmodN (A : Nat) : (A : Int).tmod 65521 = ((A % 65521 : Nat) : Int) := by rw [Int.tmod_eq_emod_of_nonneg (by omega)]; omega
theorem got_post {w W W' : World} {l q : List UInt8} {pre : List Nat} {x X Y A B : Nat} {a : Act} (hG : got l (pre ++ [x]) = ad (X, Y) q) (hS : ad (X, Y) q = ((A, B).1 % 65521, (A, B).2 % 65521))
    (s1 : W'.cell? ⟨w.heap.size, 0, none⟩ = some (.int .u32 ((A : Int).tmod 65521))) (s2 : W'.frozen? ⟨w.heap.size, 0, none⟩ = false) (s3 : W'.cell? ⟨w.heap.size + 1, 0, none⟩ = some (.int .u32 ((B : Int).tmod 65521))) (s4 : W'.frozen? ⟨w.heap.size + 1, 0, none⟩ = false)
    (s5 : KeepsOthers W W') (s6 : Kp w.heap.size (w.heap.size + 1 + 1) (w.heap.size + 1 + 1 + 1) W W') (s7 : Below w.heap.size w W') : ownPostK (Kp w.heap.size (w.heap.size + 1 + 1) (w.heap.size + 1 + 1 + 1)) (InS w l) (fun _ _ _ => False) (pre ++ [x]) W Exit.normal a W'.drew := by
  have e : got l (pre ++ [x]) = (A % 65521, B % 65521) := hG.trans hS
  refine ⟨s5.trans (KeepsOthers.drew _), ⟨s6.1.drew, s6.2.1, s6.2.2⟩, ⟨?_, s2, ?_, s4⟩, s7.drew⟩
  · rw [e]; exact s1.trans (by rw [tmodN])
  · rw [e]; exact s3.trans (by rw [tmodN])
set_option maxHeartbeats 4000000 in
theorem sum_any (a : Option Addr) (l : List UInt8) (cap : Nat) (w : World) (hpos : 0 < l.length) (hlen : l.length ≤ 1000000) (hib : IsB w w.heap.size a l) (hlc : l.length ≤ cap) (hcm : cap ≤ maxLen) :
    Calls Tryd.prog 34 #[.slice a l.length cap] w fun e w' => e = .returned (.int .u32 (sumN l : Int)) ∧ Below w.heap.size w w' := by
  obtain ⟨b, off, rfl, hb, hc⟩ := hib hpos
  unfold maxLen at hcm
  refine (callsIn_wide (n := 3)).1 ?_
  refine callsIn_of_wp_marks Tryd.func34 rfl trivial ?_ rfl
  simp only [Tryd.ntmps34]
  simp only [List.size_toArray, List.length_cons, List.length_nil, Nat.reduceAdd, Nat.reduceSub, Array.replicate_succ, Array.replicate_zero, List.push_toArray, List.append_toArray, List.nil_append, List.cons_append]
  gi_wp2_with fail
  refine ⟨trivial, ?_⟩
  refine (chunk_in Fence.wide _ trivial rfl _ _ _ _).mono ?_
  rintro e w' ⟨rfl, hw'⟩
  have bX := (((Boxed.new w 81 (.int .u32 1)).alloc (.cells #[.int .u32 0] 81)).alloc (.cells #[.slice (some ⟨b, off, none⟩) l.length cap] 26)).alloc (.cells #[.int .i64 3000] 3)
  have bY := ((Boxed.new (w.alloc (.cells #[.int .u32 1] 81)) 81 (.int .u32 0)).alloc (.cells #[.slice (some ⟨b, off, none⟩) l.length cap] 26)).alloc (.cells #[.int .i64 3000] 3)
  have bS := (Boxed.new ((w.alloc (.cells #[.int .u32 1] 81)).alloc (.cells #[.int .u32 0] 81)) 26 (.slice (some ⟨b, off, none⟩) l.length cap)).alloc (.cells #[.int .i64 3000] 3)
  have bN := Boxed.new (((w.alloc (.cells #[.int .u32 1] 81)).alloc (.cells #[.int .u32 0] 81)).alloc (.cells #[.slice (some ⟨b, off, none⟩) l.length cap] 26)) 3 (.int .i64 3000)
  have hB0 : Below w.heap.size w w' := by rw [hw']; exact ((((Below.refl _ w).alloc (Nat.le_refl _) _).alloc (by simp) _).alloc (by simp; omega) _).alloc (by simp; omega) _
  have hsz : w'.heap.size = w.heap.size + 4 := by rw [hw']; simp
  rw [← hw'] at bX bY bS bN
  simp only [World.size_alloc] at bX bY bS bN ⊢
  clear hw'
  gi_wp2_with fail
  refine wpIn_rangeFunc_ownF rfl (by decide) (gf := 53) (lb := #[.pointer (some ⟨w.heap.size + 1 + 1, 0, none⟩), .pointer (some ⟨w.heap.size + 1 + 1 + 1, 0, none⟩)]) rfl trivial (enters_of Tryd.func53 (by kernel_rfl) rfl)
    (chunk_stops _ (by decide) (w.heap.size + 1 + 1) (w.heap.size + 1 + 1 + 1) w.heap.size b off l.length cap hlen hlc hcm w' (by omega) (by omega) bS.cell bN.cell) (fun h k => Kp.trans h k) (kp_b (by omega) (by omega) (by omega)) (Below.refl _ _) (fun _ => rfl)
    (InS w l) (fun _ _ _ => False)
    (OwnFrom.and (Own.from (fun s A B row hs hg hr => ⟨cell_kept hs.1 hg hr, (frozen_kept hs.1 hg hr).trans hs.2.1, cell_kept hs.2.2.1 hg hr, (frozen_kept hs.2.2.1 hg hr).trans hs.2.2.2⟩) _) (ownFrom_below (Nat.le_refl _) (by omega)))
    (fun _ _ _ _ _ hs _ _ => hs)
    ⟨⟨bX.cell, bX.frozen, bY.cell, bY.frozen⟩, hB0⟩
    (fun x => { tmps := #[.slice (some ⟨b, off, none⟩) l.length cap, undef, .int .u32 0, .pointer (some ⟨w.heap.size, 0, none⟩), .pointer (some ⟨w.heap.size + 1, 0, none⟩), .slice (some ⟨b, off + 3000 * x, none⟩) (min 3000 (l.length - 3000 * x)) (min 3000 (l.length - 3000 * x)), undef, undef,
      .slice (some ⟨b, off, none⟩) l.length cap, .func (.func 53) #[] #[.pointer (some ⟨w.heap.size + 1 + 1, 0, none⟩), .pointer (some ⟨w.heap.size + 1 + 1 + 1, 0, none⟩)],
      .slice (some ⟨b, off + 3000 * x, none⟩) (min 3000 (l.length - 3000 * x)) (min 3000 (l.length - 3000 * x)), undef, undef, undef, undef, undef, undef, undef, undef, undef, undef, undef, undef, undef, undef, undef, undef, undef, undef, undef, undef, undef, undef], defers := [] }) ?assign ?body ?done ?stop
  case assign =>
    intro lo x W K hK
    simp only [part]
    gi_wp2
    exact hK
  case body =>
    rintro lo pre x W ⟨⟨hx, fx, hy, fy⟩, hB⟩ _
    have hpl := pt_length l x
    have hcell : ∀ i (h : i < (pt l x).length), W.cell? ⟨b, off + 3000 * x + i, none⟩ = some (.int .u8 ((pt l x)[i].toNat : Int)) := fun i h => by
      have hi : 3000 * x + i < l.length := by rw [hpl] at h; omega
      rw [hB.cell (p := ⟨b, _, none⟩) hb, pt_get l x i h, Nat.add_assoc]
      exact hc _ hi
    obtain ⟨g1, g2⟩ := got_lt l pre
    have HG := got_snoc l pre x
    show Code.wpIn _ _ _ _ (ownPostK _ (InS w l) _ _ _) _ _
    have hq3 : (pt l x).length ≤ 3000 := by rw [hpl]; omega
    rw [← hpl]
    generalize got l pre = P at *
    obtain ⟨X, Y⟩ := P
    generalize pt l x = q at *
    generalize off + 3000 * x = oj at *
    dsimp only at hx hy g1 g2
    have HG := Lib.hid HG
    have HC := Lib.hid hcell
    clear hpl hcell hc bX bY bS bN hB0
    gi_wp2
    gi_loopw [7, 13] (fun c i wr => RelI w W X Y q i wr) (fun _ i _ => q.length - (intOf i).toNat)
    case atStart => exact ⟨0, Nat.zero_le _, rfl, hx, fx, hy, fy, KeepsOthers.refl _, Kp.refl _ _ _ _, hB⟩
    case round =>
      obtain ⟨k, hk, rfl, rx, rfx, ry, rfy, rK, rP, rB⟩ := hrel
      clear hx fx hy fy
      by_cases hlt : k < q.length
      · have hI : (k : Int) < (q.length : Int) := by omega
        obtain ⟨u1, u2⟩ := raw_le (q.take k) (X, Y) 65520 65520 3000 (by show X ≤ _; omega) (by show Y ≤ _; omega) (by rw [List.length_take]; omega)
        have HS : Hid (raw (X, Y) (q.take (k + 1)) = rawStep (raw (X, Y) (q.take k)) q[k]) := Lib.hid (by rw [List.take_add_one, List.getElem?_eq_getElem hlt]; exact raw_snoc _ _ _)
        have hck := (rP.1.cell (p := ⟨b, oj + k, none⟩) hb).trans (HC.out k hlt)
        have hcb := q[k].toNat_lt
        generalize raw (X, Y) (q.take k) = R at *
        obtain ⟨A, B⟩ := R
        dsimp only at rx ry u1 u2
        have hA : A ≤ 830520 := by omega
        have hBY : B ≤ 2491625520 := by omega
        obtain ⟨cn, hcn⟩ : ∃ c, c = q[k] := ⟨_, rfl⟩
        rw [← hcn] at HS hck hcb
        clear hcn u1 u2 hlt
        gi_wp2
        go_roundw
        case rel =>
          obtain ⟨s1, s2, s3, s4, s5, s6, s7⟩ := sets (a' := .int .u32 ((A : Int) + (cn.toNat : Int))) (b' := .int .u32 ((B : Int) + ((A : Int) + (cn.toNat : Int)))) rx rfx ry rfy rK rP rB rfl
          have h1 : (raw (X, Y) (q.take (k + 1))).1 = A + cn.toNat := congrArg Prod.fst HS.out
          have h2 : (raw (X, Y) (q.take (k + 1))).2 = B + (A + cn.toNat) := congrArg Prod.snd HS.out
          refine ⟨k + 1, by omega, by go_num, ?_, s2, ?_, s4, s5, s6, s7⟩
          · rw [h1, s1]; simp
          · rw [h2, s3]; simp
        case measure => simp [intOf]; omega
      · obtain rfl : k = q.length := by omega
        rw [List.take_length] at rx ry
        obtain ⟨u1, u2⟩ := raw_le q (X, Y) 65520 65520 3000 (by show X ≤ _; omega) (by show Y ≤ _; omega) hq3
        have HS := Lib.hid (raw_mod q (X, Y) (X, Y) (by simp only [Prod.mk.injEq]; omega))
        generalize raw (X, Y) q = R at *
        obtain ⟨A, B⟩ := R
        dsimp only at rx ry u1 u2
        have hA : A ≤ 830520 := by omega
        have hBY : B ≤ 2491625520 := by omega
        have hmx : Tryd.prog.follows .mixedOrders = true := by kernel_rfl
        gi_wp2
        gi_region_with_o (fail)
        all_goals gi_wp2
        all_goals (
          generalize hW' : World.setCell _ _ _ = W'
          obtain ⟨s1, s2, s3, s4, s5, s6, s7⟩ := sets rx rfx ry rfy rK rP rB hW'
          exact got_post HG.out HS.out s1 s2 s3 s4 s5 s6 s7)
  case done =>
    rintro D ys W hD rfl ⟨⟨hx, fx, hy, fy⟩, hB⟩ hK
    rw [got_all l _ (by omega)] at hx hy
    obtain ⟨g1, g2⟩ := ad_lt l (1, 0) (by decide) (by decide)
    have HS := Lib.hid (show sumN l = (ad (1, 0) l).2 * 65536 + (ad (1, 0) l).1 from rfl)
    generalize ad (1, 0) l = P at *
    obtain ⟨X, Y⟩ := P
    dsimp only at hx hy g1 g2
    gi_wp2
    refine ⟨by simp, .inl ⟨_, _, rfl, run_takeDeferred hK, ?_⟩⟩
    refine ⟨_, results_tmp rfl _ _ _, ?_, hB.trans (belowK_b (w := w) (Nat.le_refl _) W D _ _ (by omega) hK rfl rfl)⟩
    rw [HS.out]
    exact ret_u32 (by rw [u32_or16 _ _ (by omega) (by omega) (by omega) (by omega) (by omega)]; simp)
  case stop =>
    rintro D c pre W _ _ h _
    exact h.elim

set_option maxHeartbeats 1000000 in
theorem rsum_any (a : Option Addr) (l : List UInt8) (cap : Nat) (w : World) (hlen : l.length ≤ 1000000) (hib : IsB w w.heap.size a l) (hlc : l.length ≤ cap) (hcm : cap ≤ maxLen) :
    Calls Tryd.prog 39 #[.slice a l.length cap] w fun e w' => e = .returned (.int .u32 (sumN l : Int)) ∧ Below w.heap.size w w' := by
  unfold maxLen at hcm
  go_enter Tryd.func39, Tryd.ntmps39
  go_wp2
  go_loop [3, 4, 5] (fun x y i => ∃ k : Nat, k ≤ l.length ∧ i = .int .i64 k ∧ x = .int .u32 ((ad (1, 0) (l.take k)).1 : Int) ∧ y = .int .u32 ((ad (1, 0) (l.take k)).2 : Int)) (fun _ _ i => l.length - (intOf i).toNat)
  case atStart => exact ⟨0, Nat.zero_le _, rfl, rfl, rfl⟩
  case round =>
    obtain ⟨k, hk, rfl, rfl, rfl⟩ := hrel
    by_cases hlt : k < l.length
    · have hI : (k : Int) < (l.length : Int) := by omega
      obtain ⟨b, off, rfl, hb, hc⟩ := hib (by omega)
      obtain ⟨u1, u2⟩ := ad_lt (l.take k) (1, 0) (by decide) (by decide)
      have HS : Hid (ad (1, 0) (l.take (k + 1)) = adStep (ad (1, 0) (l.take k)) l[k]) := Lib.hid (by rw [List.take_add_one, List.getElem?_eq_getElem hlt]; exact ad_snoc _ _ _)
      have hck := hc k hlt
      have hcb := l[k].toNat_lt
      obtain ⟨cn, hcn⟩ : ∃ c, c = l[k] := ⟨_, rfl⟩
      rw [← hcn] at HS hck hcb
      generalize ad (1, 0) (l.take k) = R at *
      obtain ⟨A, B⟩ := R
      dsimp only at u1 u2
      have hm0 : 0 ≤ ((A : Int) + cn.toNat).tmod 65521 := by rw [Int.tmod_eq_emod_of_nonneg (by omega)]; omega
      have hm1 : ((A : Int) + cn.toNat).tmod 65521 < 65521 := by rw [Int.tmod_eq_emod_of_nonneg (by omega)]; omega
      clear hcn hlt hc
      go_wp2
      go_round
      case rel =>
        have h1 : (ad (1, 0) (l.take (k + 1))).1 = (A + cn.toNat) % 65521 := congrArg Prod.fst HS.out
        have h2 : (ad (1, 0) (l.take (k + 1))).2 = (B + (A + cn.toNat) % 65521) % 65521 := congrArg Prod.snd HS.out
        refine ⟨k + 1, by omega, by go_num, ?_, ?_⟩
        · rw [h1]
          simp
        · rw [h2]
          simp
      case measure => simp [intOf]; omega
    · obtain rfl : k = l.length := by omega
      obtain ⟨u1, u2⟩ := ad_lt l (1, 0) (by decide) (by decide)
      rw [List.take_length]
      have HS := Lib.hid (show sumN l = (ad (1, 0) l).2 * 65536 + (ad (1, 0) l).1 from rfl)
      generalize ad (1, 0) l = R at *
      obtain ⟨A, B⟩ := R
      dsimp only at u1 u2
      clear hib
      go_wp2
      go_ret
      rw [HS.out]
      refine ⟨ret_u32 (by simp), Below.refl _ _⟩
end Go.Proofs.YtbkkomknajgpdaaDoor.SumMem
