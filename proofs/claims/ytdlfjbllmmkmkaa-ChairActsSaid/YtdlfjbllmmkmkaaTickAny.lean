/- What chair.tick makes of any deals. -/
import Derived.Test.YtdlfjbllmmkmkaaBegun
import Derived.Test.YtdlfjbllmmkmkaaDealVote
import Derived.Test.YtdlfjbllmmkmkaaDealExtend
import Derived.Test.YtdlfjbllmmkmkaaRangeSet
namespace Go.Proofs.Ytdlfjbllmmkmkaa.Chair
open Go.RowKit Go.Maps Flat ChairSpec Go.Proofs.YtdlfjbllmmkmkaaW.PrintLast
set_option linter.unusedSimpArgs false
set_option linter.unusedVariables false
set_option maxRecDepth 100000
/-- A deal as a value; deals as a map reads. -/
def dv (d : De) : Value := .agg (dc d).toArray
def mv (f : Int → Option De) : Int → Option Value := fun k => (f k).map dv
/-- Deals on the way: those still to come are as they were. -/
def mixed (f : Int → Option De) (now : Int) (left : Int → Bool) : Int → Option De := fun k => if left k then f k else (f k).map (tickD now)
def hitsBy (f : Int → Option De) (now : Int) (left : Int → Bool) : Nat := (List.range 1000).countP fun (i : Nat) => !left (i : Int) && match f (i : Int) with | some d => hitD now d | none => false
theorem mixed_start {f : Int → Option De} {now : Int} {left : Int → Bool} (h : ∀ k, left k = (f k).isSome) : mixed f now left = f := by
  funext k
  unfold mixed
  rw [h k]
  cases f k <;> rfl
theorem mixed_end {f : Int → Option De} {now : Int} {left : Int → Bool} (h : ∀ k, left k = false) : mixed f now left = fun k => (f k).map (tickD now) := by
  funext k
  unfold mixed
  rw [h k]
  rfl
theorem hits_start {f : Int → Option De} {now : Int} {left : Int → Bool} (h : ∀ k, left k = (f k).isSome) : hitsBy f now left = 0 := by
  unfold hitsBy
  rw [List.countP_eq_zero]
  intro i _
  rw [h i]
  cases f (i : Int) <;> simp
theorem hits_end {f : Int → Option De} {now : Int} {left : Int → Bool} (h : ∀ k, left k = false) : (hitsBy f now left : Int) = hits f now := by
  unfold hitsBy hits
  congr 2
  funext i
  rw [h i]
  rfl
/-- The key x has come. -/
def gone (left : Int → Bool) (x : Int) : Int → Bool := fun k => left k && !decide (k = x)
theorem mixed_stay {f : Int → Option De} {now x : Int} {left : Int → Bool} {d : De} (hx : f x = some d) (hh : hitD now d = false) : mixed f now (gone left x) = mixed f now left := by
  have ht : tickD now d = d := by
    unfold tickD
    rw [if_neg]
    rintro ⟨h1, h2⟩
    simp [hitD, h1, h2] at hh
  funext k
  unfold mixed gone
  by_cases hk : k = x
  · subst hk
    rw [hx]
    cases left k <;> simp [ht]
  · simp [hk]
theorem mixed_hit {f : Int → Option De} {now x : Int} {left : Int → Bool} {d : De} (hx : f x = some d) : mixed f now (gone left x) = setD (mixed f now left) x (tickD now d) := by
  funext k
  unfold mixed gone setD
  by_cases hk : k = x
  · subst hk
    simp [hx]
  · simp [hk]
theorem mv_set (f : Int → Option De) (x : Int) (d : De) : mv (setD f x d) = MapV.set (mv f) x (dv d) := by
  funext k
  unfold mv setD MapV.set
  by_cases hk : k = x <;> simp [hk]
theorem countP_one (l : List Nat) (hl : l.Nodup) (p q : Nat → Bool) (x : Nat) (hx : x ∈ l) (hpx : p x = false) (h : ∀ i, i ≠ x → q i = p i) : l.countP q = l.countP p + (if q x then 1 else 0) := by
  induction l with
  | nil => cases hx
  | cons a l ih =>
    obtain ⟨h1, h2⟩ := List.nodup_cons.1 hl
    rw [List.countP_cons, List.countP_cons]
    by_cases ha : a = x
    · subst ha
      have e : l.countP q = l.countP p := List.countP_congr fun i hi => by rw [h i (fun e => h1 (e ▸ hi))]
      rw [e, hpx]
      simp
    · have hx' : x ∈ l := by
        rcases List.mem_cons.1 hx with e | e
        · exact absurd e.symm ha
        · exact e
      rw [ih h2 hx', h a ha]
      omega
theorem hits_step {f : Int → Option De} {now : Int} {x : Nat} {left : Int → Bool} {d : De} (hx : f (x : Int) = some d) (hlt : x < 1000) (hl : left (x : Int) = true) : hitsBy f now (gone left x) = hitsBy f now left + (if hitD now d then 1 else 0) := by
  unfold hitsBy
  have := countP_one (List.range 1000) List.nodup_range (fun (i : Nat) => !left (i : Int) && match f (i : Int) with | some d => hitD now d | none => false) (fun (i : Nat) => !gone left x (i : Int) && match f (i : Int) with | some d => hitD now d | none => false) x (List.mem_range.2 hlt) (by simp [hl]) (fun i hi => by
    have : ¬ ((i : Int) = (x : Int)) := by omega
    simp [gone, this])
  rw [this]
  congr 1
  simp [gone, hx]
/-- A store into a map, in a region that draws its order. -/
theorem mapset_ {P : Program} {ops : Array Oper} {Q : Exit → Act → World → Prop} {oi : Oper} {N : Option Tmp} {a : Act} {w w' : World} {K : Act → World → Prop} (hw : Region.wanted oi (yielded ops a.tmps) = true) (hN : oi.dst = N)
    (m x v : Operand) (t : TypeId) (ho : oi.op = .mapUpdate t m x v) (mm key val : Value) (hm : a.eval m = mm) (hx : a.eval x = key) (hv : a.eval v = val)
    (hrun : (Instr.mapUpdate t mm key val).run P w = .ok () w') (h : K (a.put N undef) w') : if Region.wanted oi (yielded ops a.tmps) = true then Oper.wp P oi a w K Q else K (a.put N undef) w := by
  rw [if_pos hw]
  subst hN
  unfold Oper.wp execOp
  simp only [ho, hm, hx, hv, hrun, Sem.run_bind, Sem.run_pure, Result.andThen_ok]
  exact h
/-- A deal stored in a block of its own. -/
theorem new_de {v w5 : World} {B : Array Value} {ty : TypeId} (d : De) (hB : B.size = 29) (e : (v.alloc (.cells B ty)).setCells v.heap.size 0 (dc d).toArray.toList = w5) : Below v.heap.size v w5 ∧ v.heap.size < w5.heap.size ∧ DeAt w5 v.heap.size d ∧ w5.there v.heap.size 0 29 := by
  have ht : (v.alloc (.cells B ty)).there v.heap.size 0 29 := fun j hj => by
    refine ⟨?_, World.frozen?_alloc_at _ _ _ _ rfl⟩
    rw [Nat.zero_add, World.cell?_alloc_new, Array.getElem?_eq_getElem (by omega)]; rfl
  have hb := below_cells _ _ _ ((Below.refl v.heap.size v).alloc (Nat.le_refl _) (.cells B ty)) (Nat.le_refl _) e
  have hd := de_stored' ht d e
  exact ⟨hb, hd.lt, hd, there_cells ht e⟩
theorem there_de (v : World) (B : Array Value) (t : TypeId) (hB : B.size = 29) : (v.alloc (.cells B t)).there v.heap.size 0 29 := fun j hj => by
  refine ⟨?_, World.frozen?_alloc_at _ _ _ _ rfl⟩
  rw [Nat.zero_add, World.cell?_alloc_new, Array.getElem?_eq_getElem (by omega)]; rfl
theorem grown_below0 {v w : World} (h : Below v.heap.size v w) (row : Option Nat) : v.grownBy w row := ⟨h.os, h.tape, h.output, h.size, fun i hi _ => h.block i hi⟩
theorem grown_cell (w : World) (p : Addr) (v : Value) : w.grownBy (w.setCell p v) (some p.block) :=
  ⟨rfl, rfl, rfl, by simp, fun k _ hne => Below.heap_setCell _ _ _ _ (fun h => hne (by rw [h]))⟩
theorem hitsBy_le (f : Int → Option De) (now : Int) (left : Int → Bool) : hitsBy f now left ≤ 1000 := by
  unfold hitsBy
  exact Nat.le_trans List.countP_le_length (by simp)
/-- What the step of a loop over deals hands out. -/
theorem came {D : DataW Value} {f : Int → Option De} {now : Int} {left : Int → Bool} {c : Nat} {x : Int} {v : Value} {y : DataW Value × List MemPlace} (hD : MapV.Reads .i64 D (mv (mixed f now left)) c) (hv : MapV.RV v = some y) (hat : ∀ zd, D.atKey (.int .i64 x) zd = y.1) (hl : left x = true) :
    ∃ d, f x = some d ∧ v = .agg (dc d).toArray := by
  have hy : y.1 = .held v := by
    simp only [MapV.RV, Option.some.injEq] at hv
    rw [← hv]
  have h1 := fun z => ((hD.2 x).2 z).symm.trans ((hat _).trans hy)
  cases hf : f x with
  | none =>
    have e : mv (mixed f now left) x = none := by simp [mv, mixed, hl, hf]
    have a := h1 (.bool true)
    have b := h1 (.bool false)
    rw [e] at a b
    simp only [Option.getD_none, DataW.held.injEq] at a b
    rw [← a] at b
    cases b
  | some d =>
    have e : mv (mixed f now left) x = some (dv d) := by simp [mv, mixed, hl, hf]
    have a := h1 (.bool true)
    rw [e] at a
    simp only [Option.getD_some, DataW.held.injEq] at a
    exact ⟨d, rfl, a.symm⟩
set_option maxHeartbeats 8000000 in
theorem tick_any (g bm c : Nat) (f : Int → Option De) (now : Int) (w : World) (hg : w.cell? ⟨g, 0, none⟩ = some (.map (some bm))) (ho : MapV.Own Try.prog .i64 3 w bm (mv f) c) (hcm : c < maxLen) (hkeys : ∀ k d, f k = some d → 0 ≤ k ∧ k < 1000) :
    Calls Try.prog 32 #[.pointer (some ⟨g, 0, none⟩), .int .i64 now] w fun r w' => r = .returned (.int .i64 (hits f now)) ∧ MapV.Own Try.prog .i64 3 w' bm (mv fun k => (f k).map (tickD now)) c ∧ w.grownBy w' (some bm) := by
  obtain ⟨D, hown, hD⟩ := ho
  have hgl := Flat.cell_lt hg
  have hbl := hown.lt
  have hgb : bm ≠ g := (MapV.own_of hown hD).ne_cells hg
  have HD := Lib.hid hD
  have HK := Lib.hid hkeys
  have HOV := Lib.hid (fun t W => over_te t now W)
  clear hD hkeys
  go_enter Try.func32, Try.ntmps32
  go_wp2_with (first
    | (at_range; refine wpList_range_own _ rfl _ 52 rfl 3 44 (int_keyed Try.underlying3) Try.underlying52 MapV.RV bm c D (by rfl) hown ?_; intro w0 hrg0 hg0 hs0)
    | go_in)
  go_frame
  go_loopw [5] (fun n wr => ∃ (leftL : Lit → Bool) (cnt : Nat) (D' : DataW Value) (left : Int → Bool), wr.ranges Try.prog 3 MapV.RV bm w.heap.size c D' leftL cnt ∧ MapV.Reads .i64 D' (mv (mixed f now left)) c ∧ (∀ k, leftL (.int .i64 k) = left k) ∧ n = .int .i64 (hitsBy f now left : Nat) ∧ w.grownBy wr (some bm)) (fun _ wr => wr.rangeLeft bm w.heap.size)
  case atStart =>
    have hl : ∀ k, Maps.has D (.int .i64 k) = (f k).isSome := fun k => by rw [(HD.out.2 k).1]; simp [mv]
    exact ⟨_, _, D, fun k => (f k).isSome, hrg0, by rw [mixed_start (fun _ => rfl)]; exact HD.out, hl, by rw [hits_start (fun _ => rfl)]; rfl, hg0.but _⟩
  case round =>
    obtain ⟨leftL, cnt, D', left, hrg, hD', hll, rfl, hgw⟩ := hrel
    have HD' := Lib.hid hD'
    have HLL := Lib.hid hll
    have HGW := Lib.hid hgw
    clear hD' hll hgw
    go_wp2_with (first
      | (at_next; refine wpList_next_ranges _ rfl _ rfl 3 (int_keyed Try.underlying3) MapV.RV id id (fun key _ _ => ⟨key, rfl⟩) (fun v _ _ => ⟨v, rfl⟩) bm w.heap.size c _ _ _ rfl hrg ?_ ?_)
      | go_in)
    · intro _ hl0
      have hend : ∀ k, left k = false := fun k => by rw [← HLL.out k]; exact hl0 _
      have HE := Lib.hid hend
      have HR := Lib.hid hrg
      clear hend hl0 hrg
      go_wp2_with fail
      go_ret
      refine ⟨by rw [← hits_end HE.out]; rfl, ?_, HGW.out⟩
      rw [← mixed_end HE.out]
      exact MapV.own_of HR.out.owns HD'.out
    · intro x c1 kl ya yb w1 cnt1 hkey hlk hv hat hrg1 hlt hg1 hs1 hen
      obtain ⟨xi, rfl, rfl, hwf⟩ := Maps.keyOf_int_inv Try.underlying3 hkey
      have hlx : left xi = true := by rw [← HLL.out xi]; exact hlk
      obtain ⟨d, hfx, hcv⟩ := came HD'.out hv hat hlx
      subst hcv
      obtain ⟨hx0, hx1⟩ := HK.out xi d hfx
      obtain ⟨xn, rfl⟩ : ∃ xn : Nat, xi = (xn : Int) := ⟨xi.toNat, by omega⟩
      have HKEY := Lib.hid hkey
      have HFX := Lib.hid hfx
      have HLX := Lib.hid hlx
      have HRG0 := Lib.hid hrg
      have HRG1 := Lib.hid hrg1
      have HG1 := Lib.hid (HGW.out.andThen hg1 (fun j hj => by cases hj; exact Or.inl (Nat.le_refl _)))
      have hsz := HGW.out.size
      have hq1 := (HG1.out.cell_far ⟨g, 0, none⟩ hgl (fun e => hgb (Option.some.inj e).symm)).trans hg
      have hr1 := hrg1.lt
      have hw1 : w.heap.size ≤ w1.heap.size := HG1.out.size
      have HHAS : Hid (Maps.has D' (.int .i64 (xn : Int)) = true) := Lib.hid (by rw [(HD'.out.2 _).1]; simp [mv, mixed, hlx, hfx])
      have HLL2 : Hid (∀ k : Int, (leftL (.int .i64 k) && !(Lit.int .i64 k).sameKey (.int .i64 (xn : Int))) = gone left xn k) := Lib.hid (fun k => by
        rw [HLL.out k]; unfold gone Lit.sameKey; simp)
      have HSTEP := Lib.hid (hits_step (now := now) hfx (by omega) hlx)
      have hm0 := hitsBy_le f now left
      have hm1 := hitsBy_le f now (gone left xn)
      generalize hitsBy f now left = m at *
      have hmI : (m : Int) ≤ 1000 := by omega
      have hmJ : (0 : Int) ≤ (m : Int) := by omega
      clear hkey hv hat hrg hrg1 hg1 hlk hlx hfx hm0 hs1
      have hbm1 : bm < w1.heap.size := Nat.lt_of_lt_of_le hbl hw1
      by_cases ho : d.out = 0
      · go_wp2_with (refine wpList_store_mid rfl 44 _ _ rfl (w1.heap.size) 0 (dc d).toArray (by rfl) (by rfl) (there_de w1 _ _ rfl) infoDe (all_oneCell_toArray (dc_one _)) ?_; generalize hw5 : World.setCells _ _ _ _ = w5 at *; obtain ⟨hb5, hz5, hD5, ht5⟩ := new_de d rfl hw5; have HB5 := Lib.hid hb5; have HD5 := Lib.hid hD5; have HT5 := Lib.hid ht5; have p28 := hD5.out; have p24 := hD5.te 0 (.int .i64 d.te.dl) rfl; have p25 := hD5.te 1 (.int .i64 d.te.span) rfl; have p26 := hD5.te 2 (.int .i64 d.te.used) rfl; have p27 := hD5.te 3 (.int .i64 d.te.cap) rfl; clear hw5 hb5 hD5 ht5)
        refine (HOV.out d.te _).mono ?_
        rintro e6 w6 ⟨rfl, hb6⟩
        have hb16 : Below w1.heap.size w1 w6 := HB5.out.trans (hb6.mono (Nat.le_of_lt hz5))
        have hq6 := (hb16.cell (p := ⟨g, 0, none⟩) (by show g < _; omega)).trans hq1
        have HRG6 := Lib.hid (HRG1.out.kept (grown_below0 hb16 none) (by simp) (by simp))
        have HD6 := Lib.hid (HD5.out.below hb6)
        have HT6 := Lib.hid (there_below HT5.out hb6)
        have HG6 := Lib.hid (HG1.out.andThen (grown_below0 hb16 none) (fun j hj => by cases hj))
        have hz6 : w1.heap.size < w6.heap.size := Nat.lt_of_lt_of_le hz5 hb6.size
        clear hb16 hb6 HB5 HT5 HD5 p24 p25 p26 p27 p28 hq1 HG1
        cases hov : overTe d.te now
        · have hh : hitD now d = false := by rw [hitD, hov, Bool.and_false]
          have HE : Hid (mixed f now (gone left xn) = mixed f now left) := Lib.hid (mixed_stay HFX.out hh)
          have HM : Hid (hitsBy f now (gone left xn) = m) := Lib.hid (by rw [HSTEP.out, hh]; simp)
          clear hh hov
          go_wp2_with fail
          go_roundw
          case rel => exact ⟨_, cnt1, D', gone left xn, HRG6.out, by rw [HE.out]; exact HD'.out, HLL2.out, by rw [HM.out], HG6.out⟩
          case measure => rw [HRG6.out.left_eq, HRG0.out.left_eq]; exact hlt
        · have hh : hitD now d = true := by rw [hitD, hov, ho]; rfl
          have ht : tickD now d = { d with out := 2 } := by rw [tickD, if_pos ⟨ho, hov⟩]
          have HE : Hid (mixed f now (gone left xn) = setD (mixed f now left) xn { d with out := 2 }) := Lib.hid (by rw [mixed_hit HFX.out, ht])
          have HM : Hid (hitsBy f now (gone left xn) = m + 1) := Lib.hid (by rw [HSTEP.out, hh]; simp)
          have p28 := HD6.out.out
          have f28 := (HT6.out 28 (by decide)).2
          rw [Nat.zero_add] at f28
          clear hh hov ht
          go_wp2_with fail
          have hd7 := de_out (o := 2) HD6.out
          have hb7 : w6.grownBy (w6.setCell ⟨w1.heap.size, 28, none⟩ (.int .i64 2)) (some w1.heap.size) := grown_cell w6 ⟨w1.heap.size, 28, none⟩ _
          have hq7 : (w6.setCell ⟨w1.heap.size, 28, none⟩ (.int .i64 2)).cell? ⟨g, 0, none⟩ = some (.map (some bm)) := (World.cell?_setCell_other _ _ _ _ (by intro e; have e2 : w1.heap.size = g := congrArg Addr.block e; omega)).trans hq6
          have hrg7 := HRG6.out.kept hb7 (fun e => by have := Option.some.inj e; omega) (fun e => by have := Option.some.inj e; omega)
          have hg7 := HG6.out.andThen hb7 (fun j hj => by cases hj; exact Or.inl hw1)
          have hz7 : w6.heap.size = (w6.setCell ⟨w1.heap.size, 28, none⟩ (.int .i64 2)).heap.size := by simp
          generalize hw7 : w6.setCell ⟨w1.heap.size, 28, none⟩ (.int .i64 2) = w7 at *
          have HRG7 := Lib.hid hrg7
          have HG7 := Lib.hid hg7
          have hd7' : w7.rangeAt w1.heap.size 0 (dc ⟨d.ta, d.te, 2⟩) := hd7
          clear hw7 hb7 hrg7 hg7 hd7 hq6 p28 f28 HRG6 HG6 HD6 HT6
          refine start_ (n := 7) (S := fun w' => Below w7.heap.size w7 w' ∧ w'.cell? ⟨g, 0, none⟩ = some (.map (some bm)) ∧ w'.rangeAt w1.heap.size 0 (dc ⟨d.ta, d.te, 2⟩)) (ds := [6]) #[false, false, false, false, false, false, false] (by kernel_rfl) rfl rfl ⟨(still_drew w7).1, hq7, hd7'⟩ (fun hHeld => ?_)
          refine pure_ (i := 0) (N := some 28) (v := ?_) (a' := ?_) #[true, false, false, false, false, false, false] rfl rfl (by kernel_rfl) (fun _ _ _ h => h) (Or.inl ⟨by rfl, ?_⟩) ?_ ?_
          rotate_left
          · intro w'
            go_simp
            with_reducible rfl
          rotate_left
          · simp only [Act.put, List.setIfInBounds_toArray, List.set_cons_zero, List.set_cons_succ, i64_w, i32_w]
            rfl
          refine pure_ (i := 1) (N := some 29) (v := ?_) (a' := ?_) #[true, true, false, false, false, false, false] rfl rfl (by kernel_rfl) (fun _ _ _ h => h) (Or.inl ⟨by rfl, ?_⟩) ?_ ?_
          rotate_left
          · intro w'
            go_simp
            with_reducible rfl
          rotate_left
          · simp only [Act.put, List.setIfInBounds_toArray, List.set_cons_zero, List.set_cons_succ, i64_w, i32_w]
            rfl
          refine pure_ (i := 2) (N := some 30) (v := ?_) (a' := ?_) #[true, true, true, false, false, false, false] rfl rfl (by kernel_rfl) (fun _ _ _ h => h) (Or.inl ⟨by rfl, ?_⟩) ?_ ?_
          rotate_left
          · intro w'
            go_simp
            with_reducible rfl
          rotate_left
          · simp only [Act.put, List.setIfInBounds_toArray, List.set_cons_zero, List.set_cons_succ, i64_w, i32_w]
            rfl
          refine pure_ (i := 4) (N := some 32) (v := ?_) (a' := ?_) #[true, true, true, false, true, false, false] rfl rfl (by kernel_rfl) (fun _ _ _ h => h) (Or.inl ⟨by rfl, ?_⟩) ?_ ?_
          rotate_left
          · intro w'
            go_simp
            with_reducible rfl
          rotate_left
          · simp only [Act.put, List.setIfInBounds_toArray, List.set_cons_zero, List.set_cons_succ, i64_w, i32_w]
            rfl
          refine take_ (i := 3) (N := some 31) (v := ?_) (a' := ?_) #[true, true, true, true, true, false, false] rfl rfl (by kernel_rfl) (fun _ _ _ h => h) (Or.inl ⟨by rfl, ?_⟩) hHeld ?_ ?_
          rotate_left
          · rintro w' ⟨s0, s1, s2⟩
            go_simp
            with_reducible rfl
          rotate_left
          · simp only [Act.put, List.setIfInBounds_toArray, List.set_cons_zero, List.set_cons_succ, i64_w, i32_w]
            rfl
          refine take_ (i := 5) (N := some 33) (v := ?_) (a' := ?_) #[true, true, true, true, true, true, false] rfl rfl (by kernel_rfl) (fun _ _ _ h => h) (Or.inl ⟨by rfl, ?_⟩) hHeld ?_ ?_
          rotate_left
          · rintro w' ⟨s0, s1, s2⟩
            refine Eq.trans (range_run (x := .tmp 7) (b := w1.heap.size) (o := 0) (cs := dc ⟨d.ta, d.te, 2⟩) rfl rfl s2 Try.underlying44 rfl infoDe) ?_
            with_reducible rfl
          rotate_left
          · simp only [Act.put, List.setIfInBounds_toArray, List.set_cons_zero, List.set_cons_succ, i64_w, i32_w]
            rfl
          refine last_ (i := 6) (N := none) #[true, true, true, true, true, true, true] rfl rfl (by kernel_rfl) (by decide) (fun K hK => ?_)
          have hrgW := HRG7.out.kept (grown_below0 hHeld.1 none) (by simp) (by simp)
          obtain ⟨w8, hrun8, hrg8, hmt8⟩ := MapV.ranges_set (t := 52) (e := 44) hrgW (int_keyed Try.underlying3) Try.underlying52 hcm HKEY.out (val := .agg (dc ⟨d.ta, d.te, 2⟩).toArray) (y := (.held (.agg (dc ⟨d.ta, d.te, 2⟩).toArray), [])) rfl HHAS.out
          refine mapset_ (by rfl) rfl (.tmp 31) (.tmp 32) (.tmp 33) 52 rfl _ _ _ (by rfl) (by rfl) (by rfl) hrun8 ?_
          have HG8 := Lib.hid ((HG7.out.andThen (grown_below0 hHeld.1 none) (fun j hj => by cases hj)).andThen hmt8.grown (fun j hj => by cases hj; exact Or.inr rfl))
          have HRG8 := Lib.hid hrg8
          clear hrgW hrun8 hrg8 hmt8
          refine hK.out _ _ ?_
          clear hK K
          refine done_ (by kernel_rfl) ?_

          go_wp2_with fail
          have hReads : MapV.Reads .i64 (D'.put (.int .i64 (xn : Int)) (.held (.agg (dc ⟨d.ta, d.te, 2⟩).toArray))) (mv (mixed f now (gone left xn))) c := by
            have k := MapV.reads_set (HRG0.out.owns.tidy (int_keyed Try.underlying3)) HD'.out (xn : Int) (dv ⟨d.ta, d.te, 2⟩) trivial
            rw [show (mv (mixed f now left) (xn : Int)).isSome = true by simp [mv, mixed, HLX.out, HFX.out], if_pos rfl] at k
            rw [HE.out, mv_set]
            exact k
          go_roundw
          case rel => exact ⟨_, cnt1, _, gone left xn, HRG8.out, hReads, HLL2.out, by rw [HM.out]; rfl, HG8.out⟩
          case measure => rw [HRG8.out.left_eq, HRG0.out.left_eq]; exact hlt
      · have hob : (d.out == 0) = false := beq_eq_false_iff_ne.2 ho
        have hh : hitD now d = false := by rw [hitD, decide_eq_false ho, Bool.false_and]
        have HE : Hid (mixed f now (gone left xn) = mixed f now left) := Lib.hid (mixed_stay HFX.out hh)
        have HM : Hid (hitsBy f now (gone left xn) = m) := Lib.hid (by rw [HSTEP.out, hh]; simp)
        clear hh
        go_wp2_with (refine wpList_store_mid rfl 44 _ _ rfl (w1.heap.size) 0 (dc d).toArray (by rfl) (by rfl) (there_de w1 _ _ rfl) infoDe (all_oneCell_toArray (dc_one _)) ?_; generalize hw5 : World.setCells _ _ _ _ = w5 at *; obtain ⟨hb5, hz5, hD5, ht5⟩ := new_de d rfl hw5; have HB5 := Lib.hid hb5; have HD5 := Lib.hid hD5; have HT5 := Lib.hid ht5; have p28 := hD5.out; have p24 := hD5.te 0 (.int .i64 d.te.dl) rfl; have p25 := hD5.te 1 (.int .i64 d.te.span) rfl; have p26 := hD5.te 2 (.int .i64 d.te.used) rfl; have p27 := hD5.te 3 (.int .i64 d.te.cap) rfl; clear hw5 hb5 hD5 ht5)
        go_roundw
        case rel => exact ⟨_, cnt1, D', gone left xn, HRG1.out.kept (grown_below0 HB5.out none) (by simp) (by simp), by rw [HE.out]; exact HD'.out, HLL2.out, by rw [HM.out], HG1.out.andThen (grown_below0 HB5.out none) (fun j hj => by cases hj)⟩
        case measure => rw [(HRG1.out.kept (grown_below0 HB5.out none) (by simp) (by simp)).left_eq, HRG0.out.left_eq]; exact hlt
end Go.Proofs.Ytdlfjbllmmkmkaa.Chair
