/- In whatever order votes are shipped the cargo is the same, if nobody votes two things: for every ballots and every place the statement's call returns true. -/
import Derived.Test.YtajnaiofagppeaaDoorAgentAlive
import Derived.Test.YtajnaiofagppeaaDoorAnyLaw
import Derived.Test.YtajnaiofagppeaaDoorRowsBal
import Derived.Test.YtajnaiofagppeaaDoorZero
namespace Go.Proofs.YtajnaiofagppeaaDoor.LAgentAny
open Go Go.RowKit CodeSpec AgentSpec NoteSpec LeaseSpec HandSpec Flat Ballot Collect Pack Held Ship Speak AgentSmall RowsBal Go.Proofs.YtajnaiofagppeaaDoorW.PrintLast
set_option linter.unusedSimpArgs false
set_option linter.unusedVariables false
set_option maxRecDepth 100000
theorem zero3 (w : World) : (zeroValue 3).run Tryd.prog w = .ok (.int .i64 0) w := by kernel_rfl
theorem six_heap {w w' : World} {g : Nat} {x : S} (h : Six w g x) (e : w'.heap[g]? = w.heap[g]?) : Six w' g x := by
  obtain ⟨⟨a0, a1, a2, a3, a4, a5⟩, f, hz⟩ := h
  have c : ∀ o, w'.cell? ⟨g, o, none⟩ = w.cell? ⟨g, o, none⟩ := fun o => World.cell?_of_block (a := ⟨g, o, none⟩) e
  refine ⟨⟨(c 0).trans a0, (c 1).trans a1, (c 2).trans a2, (c 3).trans a3, (c 4).trans a4, (c 5).trans a5⟩, fun o => (World.frozen?_of_block (a := ⟨g, o, none⟩) e).trans (f o), Flat.cell_lt ((c 0).trans a0)⟩
theorem zero_six {w : World} {B g : Nat} (h : Zero w B g [.int .u8 0, .int .i64 0, .int .i64 0, .int .u8 0, .string ⟨#[]⟩, .bool false]) : Six w g ⟨0, 0, 0, 0, ⟨#[]⟩, false⟩ :=
  ⟨⟨h.2.2.1 0, h.2.2.1 1, h.2.2.1 2, h.2.2.1 3, h.2.2.1 4, h.2.2.1 5⟩, h.2.2.2, h.2.1⟩
theorem zero_heap {w w' : World} {B g : Nat} {cs : List Value} (h : Zero w B g cs) (e : w'.heap[g]? = w.heap[g]?) (hs : w'.heap.size = w.heap.size) : Zero w' B g cs :=
  ⟨h.1, by rw [hs]; exact h.2.1, fun i => (World.cell?_of_block (a := ⟨g, i, none⟩) e).trans (h.2.2.1 i), fun o => (World.frozen?_of_block (a := ⟨g, o, none⟩) e).trans (h.2.2.2 o)⟩
/-- What the map tells of the ballots seen. -/
def V (l : List Ba) (k : Nat) (f : Int → Option Value) (c : Nat) : Prop :=
  (∀ i (h : i < l.length), i < k → f l[i].tx = some (.int .i64 l[i].vote)) ∧ (∃ ks : List Int, ks.length = c ∧ ∀ t, f t ≠ none → t ∈ ks) ∧ c ≤ 50 ∧ ∀ t u, f t = some u → ∃ v, u = .int .i64 v
theorem v_zero (l : List Ba) : V l 0 MapV.none_ 0 := ⟨fun i _ h => absurd h (Nat.not_lt_zero _), ⟨[], rfl, fun t h => absurd rfl h⟩, by decide, fun t u h => by cases h⟩
theorem v_set {l : List Ba} {k : Nat} {f : Int → Option Value} {c : Nat} (h : V l k f c) (hk : k < l.length) (hc : c ≤ 49) (hs : ∀ u, f l[k].tx = some u → u = .int .i64 l[k].vote) :
    V l (k + 1) (MapV.set f l[k].tx (.int .i64 l[k].vote)) (if (f l[k].tx).isSome then c else c + 1) := by
  obtain ⟨h1, ⟨ks, h2, h3⟩, h4, h5⟩ := h
  refine ⟨fun i hi hik => ?_, ?_, ?_, fun t u hu => ?_⟩
  · by_cases he : l[i].tx = l[k].tx
    · rw [he, MapV.set_same]
      by_cases hik2 : i < k
      · have q := h1 i hi hik2
        rw [he] at q
        rw [hs _ q]
      · have e : i = k := by omega
        subst e
        rfl
    · rw [MapV.set_other _ _ he]
      by_cases hik2 : i < k
      · exact h1 i hi hik2
      · have e : i = k := by omega
        subst e
        exact absurd rfl he
  · cases hf : f l[k].tx with
    | none =>
      refine ⟨l[k].tx :: ks, by simp [h2], fun t ht => ?_⟩
      by_cases he : t = l[k].tx
      · rw [he]; simp
      · rw [MapV.set_other _ _ he] at ht
        exact List.mem_cons_of_mem _ (h3 t ht)
    | some u =>
      refine ⟨ks, by simp [h2], fun t ht => ?_⟩
      by_cases he : t = l[k].tx
      · rw [he]; exact h3 _ (by rw [hf]; simp)
      · rw [MapV.set_other _ _ he] at ht
        exact h3 t ht
  · split <;> omega
  · by_cases he : t = l[k].tx
    · rw [he, MapV.set_same] at hu
      exact ⟨_, (Option.some.inj hu).symm⟩
    · rw [MapV.set_other _ _ he] at hu
      exact h5 t u hu
theorem v_calm {l : List Ba} {f : Int → Option Value} {c : Nat} (h : V l l.length f c) : Ship.Calm l := by
  obtain ⟨h1, ⟨ks, h2, h3⟩, h4, h5⟩ := h
  refine ⟨fun a ha b hb he => ?_, ks, by omega, fun b hb => ?_⟩
  · obtain ⟨i, hi, rfl⟩ := List.getElem_of_mem ha
    obtain ⟨j, hj, rfl⟩ := List.getElem_of_mem hb
    have q1 := h1 i hi hi
    have q2 := h1 j hj hj
    rw [he, q2] at q1
    simpa using (Value.int.inj (Option.some.inj q1)).2.symm
  · obtain ⟨j, hj, rfl⟩ := List.getElem_of_mem hb
    exact h3 _ (by rw [h1 j hj hj]; simp)
def xA : S := ⟨1, 1, 1, 0, ⟨#[]⟩, false⟩
theorem xA_right : rightS xA = true := by simp [xA, rightS, none_, LeaseSpec.rightB, LeaseSpec.epochB, ByteArray.toList_eq, ByteArray.size]
theorem ships_size (l : List Ba) : (shipsS xA l).c.size ≤ maxLen := by
  have e : shipsS xA l = mkS xA (shipsL [] l) := ships_mk (x := xA) xA_right rfl l [] rfl
  rw [e, mkS_size]
  have := right_len (ships_right l [] rfl)
  unfold maxLen
  omega
def Rel2 (w : World) (g1 g2 : Nat) (l : List Ba) (at_ : Nat) (i : Value) (wr : World) : Prop :=
  ∃ k, k ≤ l.length ∧ i = .int .i64 (k : Int) ∧ Six wr g1 (shipsS xA (l.take k)) ∧ Six wr g2 (shipsS xA (turned l at_ k)) ∧ Below w.heap.size w wr
def Rel1 (w : World) (bm : Nat) (l : List Ba) (i : Value) (wr : World) : Prop :=
  ∃ k f c, k ≤ l.length ∧ i = .int .i64 (k : Int) ∧ MapV.Own Tryd.prog .i64 3 wr bm f c ∧ V l k f c ∧ Below w.heap.size w wr
set_option maxHeartbeats 8000000 in
theorem walk (a0 : Option Addr) (len0 cap0 : Nat) (r0 : List (List Value)) (a1 : Int) (w : World) (w0 : IsRows [.int .i64, .int .i64] w a0 len0 cap0 r0) (w1 : (Lit.int .u8 a1).wf = true) :
    Calls Tryd.prog 6 #[.slice a0 len0 cap0, .int .u8 a1] w fun e w' => e = .returned (.bool true) ∧ Below w.heap.size w w' := by
  obtain ⟨l, hll, hbal, hwf⟩ := rows_bal w0
  have hmax : len0 ≤ maxLen := Nat.le_trans w0.2.1 w0.2.2.1
  unfold maxLen at hmax
  subst hll
  clear w0
  have hat : ∃ n : Nat, a1 = (n : Int) ∧ n < 256 := by
    have hr := w1
    simp [Lit.wf] at hr
    have e1 : IntKind.u8.min = 0 := rfl
    have e2 : IntKind.u8.max = 255 := rfl
    exact ⟨a1.toNat, by omega, by omega⟩
  obtain ⟨at_, rfl, hat⟩ := hat
  clear w1
  by_cases hlen : 600 < l.length
  · have hlenI : (600 : Int) < (l.length : Int) := by omega
    go_enter Tryd.func6, Tryd.ntmps6
    go_wp2_with fail
    refine (AgentAlive.alive_any _).mono ?_
    rintro r v1 ⟨rfl, hb1⟩
    go_wp2_with fail
    go_ret
    exact ⟨rfl, hb1⟩
  have hlenI : ¬ (600 : Int) < (l.length : Int) := by omega
  obtain ⟨a, cap, hsl, hlc, hcm, hcc⟩ := hbal
  obtain ⟨rfl, rfl⟩ : a0 = a ∧ cap0 = cap := by simpa using hsl
  have HCC := Lib.hid hcc
  have HWF := Lib.hid hwf
  clear hsl hcc hwf
  go_enter Tryd.func6, Tryd.ntmps6
  go_wp2_with fail
  refine (AgentAlive.alive_any _).mono ?_
  rintro r v1 ⟨rfl, hb1⟩
  have hmm := @run_makeMap Tryd.prog
  go_wp2_with fail
  clear hmm
  generalize hv2 : World.alloc v1 _ = v2
  have hO2 : MapV.Own Tryd.prog .i64 3 v2 v1.heap.size MapV.none_ 0 := by rw [← hv2]; exact MapV.own_made v1
  have hb2 : Below v1.heap.size v1 v2 := by rw [← hv2]; exact (Below.refl _ _).alloc (Nat.le_refl _) _
  have hB2 := hb1.trans (hb2.mono hb1.size)
  have hwm : w.heap.size ≤ v1.heap.size := hb1.size
  generalize v1.heap.size = bm at *
  clear hv2 hb1 hb2
  go_loopw [22] (fun i wr => Rel1 w bm l i wr) (fun i _ => l.length - (intOf i).toNat)
  case atStart => exact ⟨0, _, _, Nat.zero_le _, rfl, hO2, v_zero l, hB2⟩
  case round =>
    obtain ⟨wo, h_wo⟩ : ∃ v : World, v = wr := ⟨_, rfl⟩; subst h_wo
    clear hO2 hB2
    obtain ⟨k, f, c, hk, rfl, hO, hV, hB⟩ := hrel
    by_cases hkl : k < l.length
    · have hkI : (k : Int) < (l.length : Int) := by omega
      have hk0 : (0 : Int) ≤ (k : Int) := by omega
      obtain ⟨b, off, rfl, hbl, hd⟩ := HCC.out (by omega)
      have q0 := (hB.cell (p := ⟨b, off + k * 2, none⟩) hbl).trans (hd k hkl).1
      have q1 := (hB.cell (p := ⟨b, off + k * 2 + 1, none⟩) hbl).trans (hd k hkl).2
      have hkey := Maps.keyOf_int_mk Tryd.underlying3 (HWF.out _ (List.getElem_mem hkl))
      have HVS := Lib.hid (v_set hV hkl)
      have hlook := fun (W : World) (h : MapV.Own Tryd.prog .i64 3 W bm f c) => h.look_ok (t := 63) (et := 3) (Maps.int_keyed Tryd.underlying3) Tryd.underlying63 zero3 hkey
      have hlenm := fun (W : World) (h : MapV.Own Tryd.prog .i64 3 W bm f c) => h.len (kt := 3) (et := 3) (t := 63) Tryd.underlying63
      have hst := fun (W : World) (h : MapV.Own Tryd.prog .i64 3 W bm f c) (hc : c < maxLen) => h.store (t := 63) (et := 3) (Maps.int_keyed Tryd.underlying3) Tryd.underlying63 hc hkey (.int .i64 l[k].vote)
      have hcs : c ≤ 50 := hV.2.2.1
      have hval := hV.2.2.2
      generalize hx : l[k] = x at *
      have HLOOK := Lib.hid hlook
      have HLEN := Lib.hid hlenm
      have HST := Lib.hid hst
      have HB := Lib.hid hB
      have HO := Lib.hid hO
      clear hlook hlenm hst hkey hd hV
      go_upto_region 9 with fail
      generalize hv4 : World.alloc wo _ = v4
      obtain ⟨hb4, hz4, hc4⟩ := alloc_facts hv4
      have p0 := hc4 0
      have p1 := hc4 1
      have hB4 := HB.out.trans (hb4.mono HB.out.size)
      have hO4 := HO.out.below hb4 HO.out.lt
      have hL4 := HLOOK.out _ hO4
      have hN4 := HLEN.out _ hO4
      have hbm := hO4.lt
      have HO4 := Lib.hid hO4
      have HB4 := Lib.hid hB4
      clear hv4 hc4 hb4 q0 q1 HLOOK HLEN HO HB hO4 hB4 hO hB
      obtain ⟨xt, xv⟩ := x
      dsimp only at p0 p1 hL4 HVS HST
      by_cases h50 : 49 < c
      · have h50I : (49 : Int) < (c : Int) := by omega
        cases hf : f xt with
        | none =>
          rw [hf] at hL4
          dsimp only [Option.getD, Option.isSome] at hL4
          go_wp2_with fail
          go_ret
          exact ⟨rfl, HB4.out⟩
        | some u =>
          obtain ⟨v, rfl⟩ := hval _ _ hf
          rw [hf] at hL4
          dsimp only [Option.getD, Option.isSome] at hL4
          go_wp2_with fail
          all_goals (go_ret; exact ⟨rfl, HB4.out⟩)
      · have h50I : ¬ (49 : Int) < (c : Int) := by omega
        cases hf : f xt with
        | none =>
          rw [hf] at hL4
          dsimp only [Option.getD, Option.isSome] at hL4
          obtain ⟨w8, hrun, hO8, htu⟩ := HST.out _ HO4.out (by unfold maxLen; omega)
          have HV8 := Lib.hid (HVS.out (by omega) (fun u hu => by rw [hf] at hu; cases hu))
          have HB8 := Lib.hid (HB4.out.trans (MapV.turned_below htu hwm (by have := HB4.out.size; omega)))
          clear htu
          go_wp2_with fail
          go_roundw
          case rel => exact ⟨k + 1, _, _, by omega, by go_num, hO8, HV8.out, HB8.out⟩
          case measure => simp [intOf]; omega
        | some u =>
          obtain ⟨v, rfl⟩ := hval _ _ hf
          rw [hf] at hL4
          dsimp only [Option.getD, Option.isSome] at hL4
          by_cases hv : v = xv
          · subst hv
            have hvb : (v != v) = false := by simp
            obtain ⟨w8, hrun, hO8, htu⟩ := HST.out _ HO4.out (by unfold maxLen; omega)
            have HV8 := Lib.hid (HVS.out (by omega) (fun u hu => by rw [hf] at hu; exact (Option.some.inj hu).symm))
            have HB8 := Lib.hid (HB4.out.trans (MapV.turned_below htu hwm (by have := HB4.out.size; omega)))
            clear htu
            go_wp2_with fail
            go_roundw
            case rel => exact ⟨k + 1, _, _, by omega, by go_num, hO8, HV8.out, HB8.out⟩
            case measure => simp [intOf]; omega
          · have hvb : (v != xv) = true := bne_iff_ne.2 hv
            go_wp2_with fail
            go_ret
            exact ⟨rfl, HB4.out⟩
    · have hkI : ¬ (k : Int) < (l.length : Int) := by omega
      have hkl2 : k = l.length := by omega
      subst hkl2
      have HC := Lib.hid (v_calm hV)
      clear hV hO
      go_upto_region 15 with fail
      generalize hW : World.alloc wo _ = W
      have S0 := six_new (x := ⟨1, 1, 1, 0, ⟨#[]⟩, false⟩) hW
      obtain ⟨hbW, _, _⟩ := alloc_facts hW
      have hBW := hB.trans (hbW.mono hB.size)
      clear hW hbW
      generalize wo.heap.size = g0 at *
      obtain ⟨⟨a0, a1, a2, a3, a4, a5⟩, _, z0⟩ := S0
      dsimp only at a0 a1 a2 a3 a4 a5
      refine start_ (n := 6) (S := fun w' => Below W.heap.size W w' ∧ ∀ b o, b < W.heap.size → w'.cell? ⟨b, o, none⟩ = W.cell? ⟨b, o, none⟩) (ds := [5]) #[false, false, false, false, false, false] (by kernel_rfl) rfl rfl ⟨(still_drew W).1, (still_drew W).2⟩ (fun hHeld => ?_)
      generalize W.drew = wD at hHeld ⊢
      refine take_ (i := 0) (N := some 53) (v := ?_) (a' := ?_) #[true, false, false, false, false, false] rfl rfl (by kernel_rfl) (fun _ _ _ h => h) (Or.inl ⟨by rfl, ?_⟩) hHeld ?_ ?_
      rotate_left
      · rintro w' ⟨s0, s1⟩
        go_simp
        with_reducible rfl
      rotate_left
      · simp only [Act.put, List.setIfInBounds_toArray, List.set_cons_zero, List.set_cons_succ, i64_w, i32_w]
        rfl
      refine take_ (i := 1) (N := some 54) (v := ?_) (a' := ?_) #[true, true, false, false, false, false] rfl rfl (by kernel_rfl) (fun _ _ _ h => h) (Or.inl ⟨by rfl, ?_⟩) hHeld ?_ ?_
      rotate_left
      · rintro w' ⟨s0, s1⟩
        go_simp
        with_reducible rfl
      rotate_left
      · simp only [Act.put, List.setIfInBounds_toArray, List.set_cons_zero, List.set_cons_succ, i64_w, i32_w]
        rfl
      refine join_ (σ := Nat × Nat) 2 #[true, true, true, true, false, false] (fun q => [(11, .pointer (some ⟨q.1, 0, none⟩)), (12, .pointer (some ⟨q.2, 0, none⟩))]) (fun q w' => (Below W.heap.size W w' ∧ ∀ b o, b < W.heap.size → w'.cell? ⟨b, o, none⟩ = W.cell? ⟨b, o, none⟩) ∧ Zero w' W.heap.size q.1 [.int .u8 0, .int .i64 0, .int .i64 0, .int .u8 0, .string ⟨#[]⟩, .bool false] ∧ Zero w' W.heap.size q.2 [.int .u8 0, .int .i64 0, .int .i64 0, .int .u8 0, .string ⟨#[]⟩, .bool false] ∧ q.1 ≠ q.2) ?_ ?_
      rotate_left
      · intro hCont
        refine two_ (i := 2) (j := 3) (Ni := some 11) (Nj := some 12) #[true, true, true, false, false, false] #[true, true, false, true, false, false] rfl rfl rfl rfl (by kernel_rfl) (by decide) (by decide) (fun K hK => ?_) (fun K hK => ?_)
        · skip
          refine value_ (w1 := ?_) (v := ?_) (by rfl) rfl ?_ ?_
          rotate_left 2
          · (go_simp; constructor; rfl; rfl)
          try (have hne := Nat.ne_of_gt hZ3.2.1)
          generalize hga : World.alloc _ _ = wA
          have hbA := (alloc_facts hga).1
          have hZ2 := zero_alloc (B := W.heap.size) hga hHeld.1.size
          try (have hZ3 := zero_stay hbA hZ3)
          clear hga
          refine hK.out _ _ ⟨(still_keep hHeld hbA).1, (still_keep hHeld hbA).2⟩ (fun hHeld => ?_)
          clear hK K
          refine norm_ (a' := ?_) ?_ ?_
          rotate_left
          · show Act.put _ (some 11) _ = _
            simp only [Act.put, List.setIfInBounds_toArray, List.set_cons_zero, List.set_cons_succ, i64_w, i32_w]
            rfl
          refine one_ (i := 3) (N := some 12) #[true, true, true, true, false, false] rfl rfl (by kernel_rfl) (by decide) (fun K hK => ?_)
          refine value_ (w1 := ?_) (v := ?_) (by rfl) rfl ?_ ?_
          rotate_left 2
          · (go_simp; constructor; rfl; rfl)
          try (have hne := Nat.ne_of_lt hZ2.2.1)
          generalize hga : World.alloc _ _ = wA
          have hbA := (alloc_facts hga).1
          have hZ3 := zero_alloc (B := W.heap.size) hga hHeld.1.size
          try (have hZ2 := zero_stay hbA hZ2)
          clear hga
          refine hK.out _ _ ⟨(still_keep hHeld hbA).1, (still_keep hHeld hbA).2⟩ (fun hHeld => ?_)
          clear hK K
          refine norm_ (a' := ?_) ?_ ?_
          rotate_left
          · show Act.put _ (some 12) _ = _
            simp only [Act.put, List.setIfInBounds_toArray, List.set_cons_zero, List.set_cons_succ, i64_w, i32_w]
            rfl
          exact norm_ (by simp only [putAll, Act.put, List.setIfInBounds_toArray, List.set_cons_zero, List.set_cons_succ]) (hCont ((World.heap _).size, (World.heap _).size) _ ⟨hHeld, hZ2, hZ3, hne⟩)
        · skip
          refine value_ (w1 := ?_) (v := ?_) (by rfl) rfl ?_ ?_
          rotate_left 2
          · (go_simp; constructor; rfl; rfl)
          try (have hne := Nat.ne_of_lt hZ2.2.1)
          generalize hga : World.alloc _ _ = wA
          have hbA := (alloc_facts hga).1
          have hZ3 := zero_alloc (B := W.heap.size) hga hHeld.1.size
          try (have hZ2 := zero_stay hbA hZ2)
          clear hga
          refine hK.out _ _ ⟨(still_keep hHeld hbA).1, (still_keep hHeld hbA).2⟩ (fun hHeld => ?_)
          clear hK K
          refine norm_ (a' := ?_) ?_ ?_
          rotate_left
          · show Act.put _ (some 12) _ = _
            simp only [Act.put, List.setIfInBounds_toArray, List.set_cons_zero, List.set_cons_succ, i64_w, i32_w]
            rfl
          refine one_ (i := 2) (N := some 11) #[true, true, true, true, false, false] rfl rfl (by kernel_rfl) (by decide) (fun K hK => ?_)
          refine value_ (w1 := ?_) (v := ?_) (by rfl) rfl ?_ ?_
          rotate_left 2
          · (go_simp; constructor; rfl; rfl)
          try (have hne := Nat.ne_of_gt hZ3.2.1)
          generalize hga : World.alloc _ _ = wA
          have hbA := (alloc_facts hga).1
          have hZ2 := zero_alloc (B := W.heap.size) hga hHeld.1.size
          try (have hZ3 := zero_stay hbA hZ3)
          clear hga
          refine hK.out _ _ ⟨(still_keep hHeld hbA).1, (still_keep hHeld hbA).2⟩ (fun hHeld => ?_)
          clear hK K
          refine norm_ (a' := ?_) ?_ ?_
          rotate_left
          · show Act.put _ (some 11) _ = _
            simp only [Act.put, List.setIfInBounds_toArray, List.set_cons_zero, List.set_cons_succ, i64_w, i32_w]
            rfl
          exact norm_ (by simp only [putAll, Act.put, List.setIfInBounds_toArray, List.set_cons_zero, List.set_cons_succ]) (hCont ((World.heap _).size, (World.heap _).size) _ ⟨hHeld, hZ2, hZ3, hne⟩)
      rintro ⟨g1, g2⟩ w5 ⟨hHeld, hZ2, hZ3, hne⟩
      dsimp only at hne
      refine norm_ (a' := ?_) ?_ ?_
      rotate_left
      · simp only [putAll, Act.put, List.setIfInBounds_toArray, List.set_cons_zero, List.set_cons_succ]
        rfl
      refine one_ (i := 4) (N := none) #[true, true, true, true, true, false] rfl rfl (by kernel_rfl) (by decide) (fun K hK => ?_)
      obtain ⟨⟨c0, c1, c2, c3, c4, c5⟩, cf, _⟩ := zero_six hZ2
      dsimp only at c0 c1 c2 c3 c4 c5
      refine skip_ (w1 := ?_) (by rfl) rfl ?_ ?_
      rotate_left
      · (go_simp; rfl)
      clear c0 c1 c2 c3 c4 c5 cf
      generalize hga : World.setCell _ _ _ = wA
      obtain ⟨hS1, hb1, hs1, hh1⟩ := six_set (y := ⟨1, 1, 1, 0, ⟨#[]⟩, false⟩) (zero_six hZ2) hga
      have hbA := hb1.mono hZ2.1
      have hZ3 := zero_heap hZ3 (hh1 _ (Ne.symm hne)) hs1
      have hg1 := hZ2.1
      clear hga hb1 hs1 hh1
      refine hK.out _ _ ⟨hHeld.1.trans hbA, fun b o hlt => (hHeld.1.trans hbA).cell (p := ⟨b, o, none⟩) hlt⟩ (fun hHeld => ?_)
      clear hK K
      refine last_ (i := 5) (N := none) #[true, true, true, true, true, true] rfl rfl (by kernel_rfl) (by decide) (fun K hK => ?_)
      obtain ⟨⟨c0, c1, c2, c3, c4, c5⟩, cf, _⟩ := zero_six hZ3
      dsimp only at c0 c1 c2 c3 c4 c5
      refine skip_ (w1 := ?_) (by rfl) rfl ?_ ?_
      rotate_left
      · (go_simp; rfl)
      refine hK.out _ _ ?_
      clear hK K
      refine done_ (by kernel_rfl) ?_

      clear c0 c1 c2 c3 c4 c5 cf hZ2
      generalize hWB : World.setCell _ _ _ = WB
      obtain ⟨hS2, hb2, hs2, hh2⟩ := six_set (y := ⟨1, 1, 1, 0, ⟨#[]⟩, false⟩) (zero_six hZ3) hWB
      have hS1 := six_heap hS1 (hh2 _ hne)
      have hwg1 : w.heap.size ≤ g1 := Nat.le_trans hBW.size hg1
      have hwg2 : w.heap.size ≤ g2 := Nat.le_trans hBW.size hZ3.1
      have hBB := (hBW.trans (hHeld.1.mono hBW.size)).trans (hb2.mono hwg2)
      dsimp only at hS1 hS2 hwg1 hwg2
      clear hWB hb2 hs2 hh2 hZ3 hHeld hbA hg1 hBW hB a0 a1 a2 a3 a4 a5 z0
      have HCA := Lib.hid HC.out
      go_wp2_with fail
      go_loopw [57] (fun i wr => Rel2 w g1 g2 l at_ i wr) (fun i _ => l.length - (intOf i).toNat)
      case atStart => exact ⟨0, Nat.zero_le _, rfl, hS1, hS2, hBB⟩
      case round =>
        obtain ⟨wo, h_wo⟩ : ∃ v : World, v = wr := ⟨_, rfl⟩; subst h_wo
        clear hS1 hS2 hBB
        obtain ⟨k, hk, rfl, hS1, hS2, hB⟩ := hrel
        by_cases hkl : k < l.length
        · have hkI : (k : Int) < (l.length : Int) := by omega
          have hk0 : (0 : Int) ≤ (k : Int) := by omega
          have hm : (k + at_) % l.length < l.length := Nat.mod_lt _ (by omega)
          have hA2 : shipsS xA (l.take (k + 1)) = (shipA (shipsS xA (l.take k)) l[k]).1 := by rw [List.take_succ_eq_append_getElem hkl, shipsS_last]
          have hB2 : shipsS xA (turned l at_ (k + 1)) = (shipA (shipsS xA (turned l at_ k)) l[(k + at_) % l.length]).1 := by rw [turned_succ l at_ k (by omega), shipsS_last]
          have hAz := ships_size (l.take k)
          have hBz := ships_size (turned l at_ k)
          generalize shipsS xA (l.take k) = A at *
          generalize shipsS xA (turned l at_ k) = C at *
          obtain ⟨b, off, rfl, hbl, hd⟩ := HCC.out (by omega)
          have q0 := (hB.cell (p := ⟨b, off + k * 2, none⟩) hbl).trans (hd k hkl).1
          have q1 := (hB.cell (p := ⟨b, off + k * 2 + 1, none⟩) hbl).trans (hd k hkl).2
          have r0 := (hd _ hm).1
          have r1 := (hd _ hm).2
          generalize l[k] = x at *
          generalize l[(k + at_) % l.length] = y at *
          have HA := Lib.hid (fun W => ship_any A x hAz W)
          have HD := Lib.hid (fun W => ship_any C y hBz W)
          generalize shipA A x = T at *
          generalize shipA C y = U at *
          have HA2 := Lib.hid hA2
          have HB2 := Lib.hid hB2
          clear hA2 hB2 hd hAz hBz
          obtain ⟨xt, xv⟩ := x
          obtain ⟨yt, yv⟩ := y
          obtain ⟨⟨tm, te, ts, tt, tc, tk⟩, ter⟩ := T
          obtain ⟨⟨um, ue, us, ut, uc, uk⟩, uer⟩ := U
          obtain ⟨am, ae, as_, at3, ac, ak⟩ := A
          obtain ⟨cm, ce, cs, ct, cc, ck⟩ := C
          dsimp only at *
          have HS1 := Lib.hid hS1
          have HS2 := Lib.hid hS2
          have hz1 := hS1.2.2
          have hz2 := hS2.2.2
          have hbr := Nat.lt_of_lt_of_le hbl hB.size
          obtain ⟨⟨a0, a1, a2, a3, a4, a5⟩, _, _⟩ := hS1
          dsimp only at a0 a1 a2 a3 a4 a5
          go_upto_region 19 with fail
          refine start_ (n := 10) (S := fun w' => Below wo.heap.size wo w' ∧ ∀ b o, b < wo.heap.size → w'.cell? ⟨b, o, none⟩ = wo.cell? ⟨b, o, none⟩) (ds := [9]) #[false, false, false, false, false, false, false, false, false, false] (by kernel_rfl) rfl rfl ⟨(still_drew wo).1, (still_drew wo).2⟩ (fun hHeld => ?_)
          refine pure_ (i := 1) (N := some 62) (v := ?_) (a' := ?_) #[false, true, false, false, false, false, false, false, false, false] rfl rfl (by kernel_rfl) (fun _ _ _ h => h) (Or.inl ⟨by rfl, ?_⟩) ?_ ?_
          rotate_left
          · intro w'
            go_simp
            with_reducible rfl
          rotate_left
          · simp only [Act.put, List.setIfInBounds_toArray, List.set_cons_zero, List.set_cons_succ, i64_w, i32_w]
            rfl
          refine pure_ (i := 2) (N := some 63) (v := ?_) (a' := ?_) #[false, true, true, false, false, false, false, false, false, false] rfl rfl (by kernel_rfl) (fun _ _ _ h => h) (Or.inl ⟨by rfl, ?_⟩) ?_ ?_
          rotate_left
          · intro w'
            go_simp
            with_reducible rfl
          rotate_left
          · simp only [Act.put, List.setIfInBounds_toArray, List.set_cons_zero, List.set_cons_succ, i64_w, i32_w]
            rfl
          refine pure_ (i := 3) (N := some 64) (v := ?_) (a' := ?_) #[false, true, true, true, false, false, false, false, false, false] rfl rfl (by kernel_rfl) (fun _ _ _ h => h) (Or.inl ⟨by rfl, ?_⟩) ?_ ?_
          rotate_left
          · intro w'
            go_simp
            with_reducible rfl
          rotate_left
          · simp only [Act.put, List.setIfInBounds_toArray, List.set_cons_zero, List.set_cons_succ, i64_w, i32_w]
            rfl
          refine take_ (i := 0) (N := some 61) (v := ?_) (a' := ?_) #[true, true, true, true, false, false, false, false, false, false] rfl rfl (by kernel_rfl) (fun _ _ _ h => h) (Or.inl ⟨by rfl, ?_⟩) hHeld ?_ ?_
          rotate_left
          · rintro w' ⟨s0, s1⟩
            go_simp
            with_reducible rfl
          rotate_left
          · simp only [Act.put, List.setIfInBounds_toArray, List.set_cons_zero, List.set_cons_succ, i64_w, i32_w]
            rfl
          refine take_ (i := 4) (N := some 65) (v := ?_) (a' := ?_) #[true, true, true, true, true, false, false, false, false, false] rfl rfl (by kernel_rfl) (fun _ _ _ h => h) (Or.inl ⟨by rfl, ?_⟩) hHeld ?_ ?_
          rotate_left
          · rintro w' ⟨s0, s1⟩
            go_simp
            with_reducible rfl
          rotate_left
          · simp only [Act.put, List.setIfInBounds_toArray, List.set_cons_zero, List.set_cons_succ, i64_w, i32_w]
            rfl
          refine one_ (i := 5) (N := some 66) #[true, true, true, true, true, true, false, false, false, false] rfl rfl (by kernel_rfl) (by decide) (fun K hK => ?_)
          refine goes_ Tryd.func16 (by kernel_rfl) rfl #[.agg #[.int .u8 am, .int .i64 ae, .int .i64 as_, .int .u8 at3, .string ac, .bool ak], .agg #[.int .i64 xt, .int .i64 xv]] (by rfl) rfl rfl (by simp only [List.map_toArray, List.map_cons, List.map_nil]; rfl) ?_
          refine (HA.out _).mono ?_
          rintro r w4 ⟨rfl, hb⟩
          refine ⟨_, rfl, ?_⟩
          refine hK.out _ _ ⟨(still_keep hHeld hb).1, (still_keep hHeld hb).2⟩ (fun hHeld => ?_)
          clear hK K
          refine norm_ (a' := ?_) ?_ ?_
          rotate_left
          · show Act.put _ (some 66) _ = _
            simp only [Act.put, List.setIfInBounds_toArray, List.set_cons_zero, List.set_cons_succ, i64_w, i32_w]
            rfl
          refine pure_ (i := 6) (N := some 60) (v := ?_) (a' := ?_) #[true, true, true, true, true, true, true, false, false, false] rfl rfl (by kernel_rfl) (fun _ _ _ h => h) (Or.inl ⟨by rfl, ?_⟩) ?_ ?_
          rotate_left
          · intro w'
            go_simp
            with_reducible rfl
          rotate_left
          · simp only [Act.put, List.setIfInBounds_toArray, List.set_cons_zero, List.set_cons_succ, i64_w, i32_w]
            rfl
          refine pure_ (i := 7) (N := some 67) (v := ?_) (a' := ?_) #[true, true, true, true, true, true, true, true, false, false] rfl rfl (by kernel_rfl) (fun _ _ _ h => h) (Or.inl ⟨by rfl, ?_⟩) ?_ ?_
          rotate_left
          · intro w'
            go_simp
            with_reducible rfl
          rotate_left
          · simp only [Act.put, List.setIfInBounds_toArray, List.set_cons_zero, List.set_cons_succ, i64_w, i32_w]
            rfl
          refine pure_ (i := 8) (N := some 68) (v := ?_) (a' := ?_) #[true, true, true, true, true, true, true, true, true, false] rfl rfl (by kernel_rfl) (fun _ _ _ h => h) (Or.inl ⟨by rfl, ?_⟩) ?_ ?_
          rotate_left
          · intro w'
            go_simp
            with_reducible rfl
          rotate_left
          · simp only [Act.put, List.setIfInBounds_toArray, List.set_cons_zero, List.set_cons_succ, i64_w, i32_w]
            rfl
          refine last_ (i := 9) (N := none) #[true, true, true, true, true, true, true, true, true, true] rfl rfl (by kernel_rfl) (by decide) (fun K hK => ?_)
          obtain ⟨⟨c0, c1, c2, c3, c4, c5⟩, cf, _⟩ := HS1.out.under hHeld.1 hz1
          dsimp only at c0 c1 c2 c3 c4 c5
          refine skip_ (w1 := ?_) (by rfl) rfl ?_ ?_
          rotate_left
          · (go_simp; rfl)
          refine hK.out _ _ ?_
          clear hK K
          refine done_ (by kernel_rfl) ?_

          clear c0 c1 c2 c3 c4 c5 cf a0 a1 a2 a3 a4 a5 q0 q1
          generalize hW2 : World.setCell _ _ _ = W2
          obtain ⟨hS3, hb3, hs3, hh3⟩ := six_set (y := ⟨tm, te, ts, tt, tc, tk⟩) (HS1.out.under hHeld.1 hz1) hW2
          have hS4 := six_heap (HS2.out.under hHeld.1 hz2) (hh3 _ (Ne.symm hne))
          have hB3 := (hB.trans (hHeld.1.mono hB.size)).trans (hb3.mono hwg1)
          have r0 := (hB3.cell (p := ⟨b, off + ((k + at_) % l.length) * 2, none⟩) hbl).trans r0
          have r1 := (hB3.cell (p := ⟨b, off + ((k + at_) % l.length) * 2 + 1, none⟩) hbl).trans r1
          have hbr := Nat.lt_of_lt_of_le hbl hB3.size
          clear hW2 hb3 hs3 hh3 hHeld hB HS1 HS2 hz1 hz2 HA
          have HS3 := Lib.hid hS3
          have HS4 := Lib.hid hS4
          have hz3 := hS3.2.2
          have hz4 := hS4.2.2
          obtain ⟨⟨a0, a1, a2, a3, a4, a5⟩, _, _⟩ := hS4
          dsimp only at a0 a1 a2 a3 a4 a5
          have e1 : IntKind.i64.wrap (at_ : Int) = (at_ : Int) := by rw [IntKind.wrap_i64]; omega
          have e2 : IntKind.i64.wrap ((k : Int) + (at_ : Int)) = (k : Int) + (at_ : Int) := by rw [IntKind.wrap_i64]; omega
          have e3 : ((k : Int) + (at_ : Int)).tmod (l.length : Int) = (((k + at_) % l.length : Nat) : Int) := by rw [← Int.natCast_add]; rfl
          have e4 : IntKind.i64.wrap (((k + at_) % l.length : Nat) : Int) = (((k + at_) % l.length : Nat) : Int) := by rw [IntKind.wrap_i64]; omega
          have e5 : ¬ l = [] := fun e => by rw [e] at hkl; exact absurd hkl (Nat.not_lt_zero _)
          have e6 : (0 : Int) ≤ (((k + at_) % l.length : Nat) : Int) := by omega
          have e7 : (((k + at_) % l.length : Nat) : Int) < (l.length : Int) := by omega
          generalize (k + at_) % l.length = m at *
          go_upto_region 20 with fail
          refine start_ (n := 16) (S := fun w' => Below W2.heap.size W2 w' ∧ ∀ b o, b < W2.heap.size → w'.cell? ⟨b, o, none⟩ = W2.cell? ⟨b, o, none⟩) (ds := [15]) #[false, false, false, false, false, false, false, false, false, false, false, false, false, false, false, false] (by kernel_rfl) rfl rfl ⟨(still_drew W2).1, (still_drew W2).2⟩ (fun hHeld => ?_)
          refine pure_ (i := 1) (N := some 71) (v := ?_) (a' := ?_) #[false, true, false, false, false, false, false, false, false, false, false, false, false, false, false, false] rfl rfl (by kernel_rfl) (fun _ _ _ h => h) (Or.inl ⟨by rfl, ?_⟩) ?_ ?_
          rotate_left
          · intro w'
            go_simp
            with_reducible rfl
          rotate_left
          · simp only [Act.put, List.setIfInBounds_toArray, List.set_cons_zero, List.set_cons_succ, i64_w, i32_w]
            rfl
          refine pure_ (i := 2) (N := some 72) (v := ?_) (a' := ?_) #[false, true, true, false, false, false, false, false, false, false, false, false, false, false, false, false] rfl rfl (by kernel_rfl) (fun _ _ _ h => h) (Or.inl ⟨by rfl, ?_⟩) ?_ ?_
          rotate_left
          · intro w'
            go_simp
            with_reducible rfl
          rotate_left
          · simp only [Act.put, List.setIfInBounds_toArray, List.set_cons_zero, List.set_cons_succ, i64_w, i32_w]
            rfl
          refine pure_ (i := 3) (N := some 73) (v := ?_) (a' := ?_) #[false, true, true, true, false, false, false, false, false, false, false, false, false, false, false, false] rfl rfl (by kernel_rfl) (fun _ _ _ h => h) (Or.inl ⟨by rfl, ?_⟩) ?_ ?_
          rotate_left
          · intro w'
            go_simp
            with_reducible rfl
          rotate_left
          · simp only [Act.put, List.setIfInBounds_toArray, List.set_cons_zero, List.set_cons_succ, i64_w, i32_w]
            rfl
          refine pure_ (i := 4) (N := some 74) (v := ?_) (a' := ?_) #[false, true, true, true, true, false, false, false, false, false, false, false, false, false, false, false] rfl rfl (by kernel_rfl) (fun _ _ _ h => h) (Or.inl ⟨by rfl, ?_⟩) ?_ ?_
          rotate_left
          · intro w'
            go_simp
            with_reducible rfl
          rotate_left
          · simp only [Act.put, List.setIfInBounds_toArray, List.set_cons_zero, List.set_cons_succ, i64_w, i32_w]
            rfl
          refine pure_ (i := 5) (N := some 75) (v := ?_) (a' := ?_) #[false, true, true, true, true, true, false, false, false, false, false, false, false, false, false, false] rfl rfl (by kernel_rfl) (fun _ _ _ h => h) (Or.inl ⟨by rfl, ?_⟩) ?_ ?_
          rotate_left
          · intro w'
            go_simp
            with_reducible rfl
          rotate_left
          · simp only [Act.put, List.setIfInBounds_toArray, List.set_cons_zero, List.set_cons_succ, i64_w, i32_w]
            rfl
          refine pure_ (i := 6) (N := some 76) (v := ?_) (a' := ?_) #[false, true, true, true, true, true, true, false, false, false, false, false, false, false, false, false] rfl rfl (by kernel_rfl) (fun _ _ _ h => h) (Or.inl ⟨by rfl, ?_⟩) ?_ ?_
          rotate_left
          · intro w'
            go_simp
            with_reducible rfl
          rotate_left
          · simp only [Act.put, List.setIfInBounds_toArray, List.set_cons_zero, List.set_cons_succ, i64_w, i32_w]
            rfl
          refine pure_ (i := 7) (N := some 77) (v := ?_) (a' := ?_) #[false, true, true, true, true, true, true, true, false, false, false, false, false, false, false, false] rfl rfl (by kernel_rfl) (fun _ _ _ h => h) (Or.inl ⟨by rfl, ?_⟩) ?_ ?_
          rotate_left
          · intro w'
            go_simp
            with_reducible rfl
          rotate_left
          · simp only [Act.put, List.setIfInBounds_toArray, List.set_cons_zero, List.set_cons_succ, i64_w, i32_w]
            rfl
          refine pure_ (i := 8) (N := some 78) (v := ?_) (a' := ?_) #[false, true, true, true, true, true, true, true, true, false, false, false, false, false, false, false] rfl rfl (by kernel_rfl) (fun _ _ _ h => h) (Or.inl ⟨by rfl, ?_⟩) ?_ ?_
          rotate_left
          · intro w'
            go_simp
            with_reducible rfl
          rotate_left
          · simp only [Act.put, List.setIfInBounds_toArray, List.set_cons_zero, List.set_cons_succ, i64_w, i32_w]
            rfl
          refine pure_ (i := 9) (N := some 79) (v := ?_) (a' := ?_) #[false, true, true, true, true, true, true, true, true, true, false, false, false, false, false, false] rfl rfl (by kernel_rfl) (fun _ _ _ h => h) (Or.inl ⟨by rfl, ?_⟩) ?_ ?_
          rotate_left
          · intro w'
            go_simp
            with_reducible rfl
          rotate_left
          · simp only [Act.put, List.setIfInBounds_toArray, List.set_cons_zero, List.set_cons_succ, i64_w, i32_w]
            rfl
          refine take_ (i := 0) (N := some 70) (v := ?_) (a' := ?_) #[true, true, true, true, true, true, true, true, true, true, false, false, false, false, false, false] rfl rfl (by kernel_rfl) (fun _ _ _ h => h) (Or.inl ⟨by rfl, ?_⟩) hHeld ?_ ?_
          rotate_left
          · rintro w' ⟨s0, s1⟩
            go_simp
            with_reducible rfl
          rotate_left
          · simp only [Act.put, List.setIfInBounds_toArray, List.set_cons_zero, List.set_cons_succ, i64_w, i32_w]
            rfl
          refine take_ (i := 10) (N := some 80) (v := ?_) (a' := ?_) #[true, true, true, true, true, true, true, true, true, true, true, false, false, false, false, false] rfl rfl (by kernel_rfl) (fun _ _ _ h => h) (Or.inl ⟨by rfl, ?_⟩) hHeld ?_ ?_
          rotate_left
          · rintro w' ⟨s0, s1⟩
            go_simp
            with_reducible rfl
          rotate_left
          · simp only [Act.put, List.setIfInBounds_toArray, List.set_cons_zero, List.set_cons_succ, i64_w, i32_w]
            rfl
          refine one_ (i := 11) (N := some 81) #[true, true, true, true, true, true, true, true, true, true, true, true, false, false, false, false] rfl rfl (by kernel_rfl) (by decide) (fun K hK => ?_)
          refine goes_ Tryd.func16 (by kernel_rfl) rfl #[.agg #[.int .u8 cm, .int .i64 ce, .int .i64 cs, .int .u8 ct, .string cc, .bool ck], .agg #[.int .i64 yt, .int .i64 yv]] (by rfl) rfl rfl (by simp only [List.map_toArray, List.map_cons, List.map_nil]; rfl) ?_
          refine (HD.out _).mono ?_
          rintro r w4 ⟨rfl, hb⟩
          refine ⟨_, rfl, ?_⟩
          refine hK.out _ _ ⟨(still_keep hHeld hb).1, (still_keep hHeld hb).2⟩ (fun hHeld => ?_)
          clear hK K
          refine norm_ (a' := ?_) ?_ ?_
          rotate_left
          · show Act.put _ (some 81) _ = _
            simp only [Act.put, List.setIfInBounds_toArray, List.set_cons_zero, List.set_cons_succ, i64_w, i32_w]
            rfl
          refine pure_ (i := 12) (N := some 69) (v := ?_) (a' := ?_) #[true, true, true, true, true, true, true, true, true, true, true, true, true, false, false, false] rfl rfl (by kernel_rfl) (fun _ _ _ h => h) (Or.inl ⟨by rfl, ?_⟩) ?_ ?_
          rotate_left
          · intro w'
            go_simp
            with_reducible rfl
          rotate_left
          · simp only [Act.put, List.setIfInBounds_toArray, List.set_cons_zero, List.set_cons_succ, i64_w, i32_w]
            rfl
          refine pure_ (i := 13) (N := some 82) (v := ?_) (a' := ?_) #[true, true, true, true, true, true, true, true, true, true, true, true, true, true, false, false] rfl rfl (by kernel_rfl) (fun _ _ _ h => h) (Or.inl ⟨by rfl, ?_⟩) ?_ ?_
          rotate_left
          · intro w'
            go_simp
            with_reducible rfl
          rotate_left
          · simp only [Act.put, List.setIfInBounds_toArray, List.set_cons_zero, List.set_cons_succ, i64_w, i32_w]
            rfl
          refine pure_ (i := 14) (N := some 83) (v := ?_) (a' := ?_) #[true, true, true, true, true, true, true, true, true, true, true, true, true, true, true, false] rfl rfl (by kernel_rfl) (fun _ _ _ h => h) (Or.inl ⟨by rfl, ?_⟩) ?_ ?_
          rotate_left
          · intro w'
            go_simp
            with_reducible rfl
          rotate_left
          · simp only [Act.put, List.setIfInBounds_toArray, List.set_cons_zero, List.set_cons_succ, i64_w, i32_w]
            rfl
          refine last_ (i := 15) (N := none) #[true, true, true, true, true, true, true, true, true, true, true, true, true, true, true, true] rfl rfl (by kernel_rfl) (by decide) (fun K hK => ?_)
          obtain ⟨⟨c0, c1, c2, c3, c4, c5⟩, cf, _⟩ := HS4.out.under hHeld.1 hz4
          dsimp only at c0 c1 c2 c3 c4 c5
          refine skip_ (w1 := ?_) (by rfl) rfl ?_ ?_
          rotate_left
          · (go_simp; rfl)
          refine hK.out _ _ ?_
          clear hK K
          refine done_ (by kernel_rfl) ?_

          clear c0 c1 c2 c3 c4 c5 cf a0 a1 a2 a3 a4 a5 r0 r1
          generalize hW5 : World.setCell _ _ _ = W5
          obtain ⟨hS5, hb5, hs5, hh5⟩ := six_set (y := ⟨um, ue, us, ut, uc, uk⟩) (HS4.out.under hHeld.1 hz4) hW5
          have hS6 := six_heap (HS3.out.under hHeld.1 hz3) (hh5 _ hne)
          have hB5 := (hB3.trans (hHeld.1.mono hB3.size)).trans (hb5.mono hwg2)
          clear hW5 hb5 hs5 hh5 hHeld hB3 HS3 HS4 hz3 hz4 HD
          go_wp2_with fail
          go_roundw
          case rel => exact ⟨k + 1, by omega, by go_num, by rw [HA2.out]; exact hS6, by rw [HB2.out]; exact hS5, hB5⟩
          case measure => simp [intOf]; omega
        · have hkI : ¬ (k : Int) < (l.length : Int) := by omega
          have hkl2 : k = l.length := by omega
          subst hkl2
          have hAB : shipsS xA (turned l at_ l.length) = shipsS xA l := (any_order (x := xA) xA_right rfl HC.out at_).symm
          rw [hAB] at hS2
          rw [List.take_length] at hS1
          generalize shipsS xA l = A at *
          obtain ⟨am, ae, as_, at3, ac, ak⟩ := A
          obtain ⟨⟨a0, a1, a2, a3, a4, a5⟩, _, _⟩ := hS1
          obtain ⟨⟨c0, c1, c2, c3, c4, c5⟩, _, _⟩ := hS2
          dsimp only at a0 a1 a2 a3 a4 a5 c0 c1 c2 c3 c4 c5
          go_wp2_with fail
          go_ret
          exact ⟨by first | rfl | (simp [*]; done), hB⟩
end Go.Proofs.YtajnaiofagppeaaDoor.LAgentAny
