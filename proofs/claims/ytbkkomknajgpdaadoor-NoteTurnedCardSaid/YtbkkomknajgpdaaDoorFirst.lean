/- The first frame of bytes: package sum's, and the reference's. -/
import Derived.Test.YtbkkomknajgpdaaDoorFrame
import Derived.Lib.SliceRun
import Derived.Stop.BytesEq
import Derived.Laws.Cover3
namespace Go.Proofs.YtbkkomknajgpdaaDoor.SumMem
open Go.RowKit CodeSpec SumSpec Flat CodeMem
set_option linter.unusedSimpArgs false
set_option linter.unusedVariables false
set_option maxRecDepth 100000

def CloneUse (l : List UInt8) (w : World) (e : Ending) (w' : World) : Prop :=
  ∃ a c, e = .returned (.slice a l.length c) ∧ l.length ≤ c ∧ c ≤ maxLen ∧ IsB w' w'.heap.size a l ∧ Below w.heap.size w w'
set_option maxHeartbeats 1000000 in
theorem clone_any (b off : Nat) (l : List UInt8) (cap : Nat) (w : World) (hb : b < w.heap.size) (hlen : l.length ≤ 1000000) (hc : ∀ i (h : i < l.length), w.cell? ⟨b, off + i, none⟩ = some (.int .u8 (l[i].toNat : Int))) (hlc : l.length ≤ cap) (hcm : cap ≤ maxLen) :
    Calls Tryd.prog 40 #[.slice (some ⟨b, off, none⟩) l.length cap] w (CloneUse l w) := by
  obtain ⟨i0, hi, hz0, hz1, hz2⟩ := info_parts info5
  have hnews : ∀ (o : Obj), ∀ j u, (bcells l)[j]? = some u → (w.alloc o).cell? ((⟨b, off, none⟩ : Addr).add j) = some u := fun o => part_new (fun i h => (((Below.refl w.heap.size w).alloc (Nat.le_refl _) o).cell (p := ⟨b, off + i, none⟩) hb).trans (hc i h))
  clear hc
  have knil := Go.Lib.run_eql_slice_nil (P := Tryd.prog) w 26 5 (some ⟨b, off, none⟩) l.length cap 0 0 Tryd.underlying26
  simp only [Option.isNone_some] at knil
  go_enter Tryd.func40, Tryd.ntmps40
  go_wp2_with (first | (at_builtin; refine wpList_append_own_at _ rfl _ _ 26 rfl w.heap.size 5 i0 (.int .u8 0) 1 1 Tryd.underlying26 hi hz0 hz1 hz2 rfl (by decide) _ 0 _ rfl (World.ownsRow_lit w _ 0 (Nat.le_refl _) (Nat.zero_le _) rfl) ⟨b, off, none⟩ l.length cap (bcells l) rfl (by rw [bcells_length, Nat.mul_one]) (hnews _) (bcells_one _) (by unfold maxLen; omega) (by omega) (by simp) ?_; intro v' w1 hown' hgrow hnil hloc'))
  go_ret
  have ho : OwnB w1 w.heap.size v' l := by
    rw [OwnB]
    have e := hown'
    rw [Nat.zero_add] at e
    exact e
  have hB1 : Below w.heap.size w w1 := ((Below.refl _ w).alloc (Nat.le_refl _) _).grown hgrow (by simp) (fun k e => by cases e; exact Nat.le_refl _)
  obtain ⟨a1, c1, rfl, x1, x2, x3⟩ := own_isB ho
  exact ⟨a1, c1, rfl, x1, x2, x3, hB1⟩

/-- The first frame: what is in it, how long it is, and an error. -/
def firstS (l : List UInt8) : List UInt8 × Int × Int :=
  match l with
  | 1 :: x :: y :: r =>
    if 4000 < x.toNat * 256 + y.toNat then ([], 0, 4) else if r.length < x.toNat * 256 + y.toNat + 4 then ([], 0, 4)
    else if (r.drop (x.toNat * 256 + y.toNat)).take 4 = be 4 (sumN (1 :: x :: y :: r.take (x.toNat * 256 + y.toNat))) then (r.take (x.toNat * 256 + y.toNat), ((x.toNat * 256 + y.toNat + 7 : Nat) : Int), 0) else ([], 0, 5)
  | [] => ([], 0, 7)
  | _ => ([], 0, 4)
def FirstUse (T : List UInt8 × Int × Int) (w : World) (e : Ending) (w' : World) : Prop :=
  ∃ a cap, e = .returned (.tuple #[.slice a T.1.length cap, .int .i64 T.2.1, .int .i64 T.2.2]) ∧ T.1.length ≤ cap ∧ cap ≤ maxLen ∧ IsB w' w'.heap.size a T.1 ∧ Below w.heap.size w w'
theorem first_none {c k : Int} {w : World} : FirstUse ([], k, c) w (.returned (.tuple #[.slice none 0 0, .int .i64 k, .int .i64 c])) w :=
  ⟨none, 0, rfl, Nat.le_refl _, by unfold maxLen; decide, fun h => absurd h (by simp), Below.refl _ _⟩

theorem first_none' {c k : Int} {w : World} (n : Nat) : FirstUse ([], k, c) w (.returned (.tuple #[.slice none 0 0, .int .i64 k, .int .i64 c])) (w.drewN n) :=
  ⟨none, 0, rfl, Nat.le_refl _, by unfold maxLen; decide, fun h => absurd h (by simp), ⟨rfl, rfl, rfl, Nat.le_refl _, fun _ _ => rfl⟩⟩
theorem eq4 (w : World) (q0 q1 q2 q3 : UInt8) (s : Nat) (h : s < 4294967296) : (Op.equalIn 10000 85 (.agg #[.int .u8 (q0.toNat : Int), .int .u8 (q1.toNat : Int), .int .u8 (q2.toNat : Int), .int .u8 (q3.toNat : Int)])
    (.agg #[.int .u8 ((s : Int) / 16777216), .int .u8 ((s : Int) / 65536 % 256), .int .u8 ((s : Int) / 256 % 256), .int .u8 ((s : Int) % 256)])).run Tryd.prog w = .ok ([q0, q1, q2, q3] == be 4 s) w := by
  obtain ⟨i0, hi, hz0, hz1, hz2⟩ := info_parts info5
  have h1 := run_equalIn_bytes (P := Tryd.prog) w 9998 85 5 4 Tryd.underlying85 Tryd.underlying5 (fun w => by simp [sizeOf, typeInfo, hi, hz1]) [q0, q1, q2, q3] (be 4 s) rfl (length_be _ _)
  rw [show Value.agg #[.int .u8 ((s : Int) / 16777216), .int .u8 ((s : Int) / 65536 % 256), .int .u8 ((s : Int) / 256 % 256), .int .u8 ((s : Int) % 256)] = Value.agg (bcells (be 4 s)).toArray by rw [be4_cells s h]]
  exact h1
theorem four {w w1 : World} {b o n : Nat} {r : List UInt8} (hc : ∀ i (h : i < r.length), w.cell? ⟨b, o + i, none⟩ = some (.int .u8 (r[i].toNat : Int))) (hn : n + 4 ≤ r.length) (hb : b < w.heap.size) (hB : Below w.heap.size w w1) :
    ∃ q0 q1 q2 q3 : UInt8, (r.drop n).take 4 = [q0, q1, q2, q3] ∧ w1.cell? ⟨b, o + n, none⟩ = some (.int .u8 (q0.toNat : Int)) ∧ w1.cell? ⟨b, o + n + 1, none⟩ = some (.int .u8 (q1.toNat : Int)) ∧
      w1.cell? ⟨b, o + n + 2, none⟩ = some (.int .u8 (q2.toNat : Int)) ∧ w1.cell? ⟨b, o + n + 3, none⟩ = some (.int .u8 (q3.toNat : Int)) := by
  refine ⟨r[n], r[n + 1], r[n + 2], r[n + 3], ?_, (hB.cell (p := ⟨b, _, none⟩) hb).trans (hc n (by omega)), (hB.cell (p := ⟨b, _, none⟩) hb).trans (hc (n + 1) (by omega)), (hB.cell (p := ⟨b, _, none⟩) hb).trans (hc (n + 2) (by omega)), (hB.cell (p := ⟨b, _, none⟩) hb).trans (hc (n + 3) (by omega))⟩
  apply List.ext_getElem
  · simp; omega
  · intro i h1 h2
    match i, h2 with
    | 0, _ => simp
    | 1, _ => simp
    | 2, _ => simp
    | 3, _ => simp
set_option maxHeartbeats 2000000 in
theorem first_any (a : Option Addr) (l : List UInt8) (cap : Nat) (w : World) (hlen : l.length ≤ 1000000) (hib : IsB w w.heap.size a l) (hlc : l.length ≤ cap) (hcm : cap ≤ maxLen) :
    Calls Tryd.prog 23 #[.slice a l.length cap] w (FirstUse (firstS l) w) := by
  have hcm' := hcm
  unfold maxLen at hcm'
  match l, hlen, hib, hlc with
  | [], _, _, _ =>
    show Calls _ _ _ _ (FirstUse ([], 0, 7) w)
    go_enter Tryd.func23, Tryd.ntmps23
    go_wp2
    go_ret3
    exact first_none
  | c0 :: r0, hlen, hib, hlc =>
    obtain ⟨b, off, rfl, hb, hc⟩ := hib (by simp)
    have d0 := hc 0 (by simp)
    simp only [List.getElem_cons_zero, Nat.add_zero] at d0
    by_cases h0 : c0 = 1
    · subst h0
      match r0, hlen, hlc, hc, d0 with
      | [], hlen, hlc, hc, d0 =>
        show Calls _ _ _ _ (FirstUse ([], 0, 4) w)
        clear hc
        go_enter Tryd.func23, Tryd.ntmps23
        go_wp2
        go_ret3
        exact first_none
      | [x], hlen, hlc, hc, d0 =>
        show Calls _ _ _ _ (FirstUse ([], 0, 4) w)
        clear hc
        go_enter Tryd.func23, Tryd.ntmps23
        go_wp2
        go_ret3
        exact first_none
      | x :: y :: r, hlen, hlc, hc, d0 =>
        have d1 := hc 1 (by simp)
        have d2 := hc 2 (by simp)
        simp only [List.getElem_cons_succ, List.getElem_cons_zero] at d1 d2
        have hx := x.toNat_lt
        have hy := y.toNat_lt
        have e3 : (1 :: x :: y :: r).length = r.length + 3 := rfl
        have hcr : ∀ i (h : i < r.length), w.cell? ⟨b, off + 3 + i, none⟩ = some (.int .u8 (r[i].toNat : Int)) := fun i h => by
          have := hc (i + 3) (by rw [e3]; omega)
          simp only [List.getElem_cons_succ] at this
          rw [← this]
          congr 2
          omega
        have hcE : ∀ n, n ≤ r.length → IsB w w.heap.size (some ⟨b, off, none⟩) (1 :: x :: y :: r.take n) := fun n hn _ => ⟨b, off, rfl, hb, fun i hi => by
          match i, hi with
          | 0, _ => exact d0
          | 1, _ => exact d1
          | 2, _ => exact d2
          | i + 3, hi =>
            have hi2 : i < (r.take n).length := by simpa using hi
            rw [List.length_take] at hi2
            have := hcr i (by omega)
            rw [show off + (i + 3) = off + 3 + i by omega, this]
            simp⟩
        obtain ⟨n, hn⟩ : ∃ n : Nat, n = x.toNat * 256 + y.toNat := ⟨_, rfl⟩
        obtain ⟨E, hE⟩ : ∃ E : Nat, E = 3 + n := ⟨_, rfl⟩
        have hEI : (3 : Int) + (x.toNat : Int) * 256 + (y.toNat : Int) = (E : Int) := by omega
        have hxb : (x.toNat : Int) < 256 := by omega
        have hyb : (y.toNat : Int) < 256 := by omega
        unfold firstS
        simp only
        rw [← hn]
        rw [e3] at hlc hlen ⊢
        obtain ⟨L, hL⟩ : ∃ L : Nat, L = r.length + 3 := ⟨_, rfl⟩
        rw [← hL] at hlc hlen ⊢
        have hL3 : ¬ (L : Int) < 3 := by omega
        have hL0 : ((L : Int) == 0) = false := by simp; omega
        have hL1 : (1 : Int) < (L : Int) := by omega
        have hL2 : (2 : Int) < (L : Int) := by omega
        have hL00 : (0 : Int) < (L : Int) := by omega
        clear hc e3
        by_cases hA : 4000 < n
        · rw [if_pos hA]
          have hAI : (4003 : Int) < (E : Int) := by omega
          clear hcr hcE hn hE hL hA
          go_enter Tryd.func23, Tryd.ntmps23
          go_wp2
          go_quiet (fail)
          go_wp2
          go_ret3
          exact first_none' nq
        · rw [if_neg hA]
          have hAI : ¬ (4003 : Int) < (E : Int) := by omega
          by_cases hB : r.length < n + 4
          · rw [if_pos hB]
            have hBI : (L : Int) < (E : Int) + 4 := by omega
            clear hcr hcE hn hE hL hA hB
            go_enter Tryd.func23, Tryd.ntmps23
            go_wp2
            go_quiet (fail)
            go_wp2
            go_ret3
            exact first_none' nq
          · rw [if_neg hB]
            have hBI : ¬ (L : Int) < (E : Int) + 4 := by omega
            have hl : (1 :: x :: y :: r.take n).length = E := by simp; omega
            have HS := fun w' h => sum_any (some ⟨b, off, none⟩) (1 :: x :: y :: r.take n) cap w' (by simp) (by rw [hl]; omega) h (by rw [hl]; omega) hcm
            rw [hl] at HS
            have hsl := sumN_lt (1 :: x :: y :: r.take n)
            have hIB := hcE n (by omega)
            generalize sumN (1 :: x :: y :: r.take n) = s at *
            have HN := Lib.hid (And.intro hn (And.intro hE hL))
            obtain ⟨T, hT⟩ : ∃ T : List UInt8 × Int × Int, T = if (r.drop n).take 4 = be 4 s then (r.take n, ((n + 7 : Nat) : Int), 0) else ([], 0, 5) := ⟨_, rfl⟩
            rw [← hT]
            have HT := Lib.hid hT
            clear hT
            have hEL : (E : Int) ≤ (L : Int) := by omega
            have hEL2 : E ≤ L := by omega
            have hEc : E ≤ cap := by omega
            have hEL4 : 4 ≤ L - E := by omega
            clear hn hE hL hA hcE
            go_enter Tryd.func23, Tryd.ntmps23
            go_wp2_with fail
            go_quiet (fail)
            go_wp2_with fail
            refine (HS (w.drewN nq) hIB).mono ?_
            rintro e w1 ⟨rfl, hb1⟩
            have hb1' : Below w.heap.size w w1 := (show Below w.heap.size w (w.drewN nq) from ⟨rfl, rfl, rfl, Nat.le_refl _, fun _ _ => rfl⟩).trans hb1
            clear hb1 HS hIB
            obtain ⟨q0, q1, q2, q3, hq, k0, k1, k2, k3⟩ := four hcr (n := n) (by omega) hb hb1'
            rw [show off + 3 + n = off + E by have := HN.out.2.1; omega] at k0 k1 k2 k3
            clear d0 d1 d2
            have kar := run_arrayAt (P := Tryd.prog) (w := w1) 85 5 4 (some ⟨b, off + E, none⟩) (L - E) (cap - E) Tryd.underlying85 hEL4
            have keq := eq4 w1 q0 q1 q2 q3 s hsl
            cases hd : ([q0, q1, q2, q3] == be 4 s) with
            | true =>
              rw [hd] at keq
              have hTe : Hid (T = (r.take n, (E : Int) + 4, 0)) := Lib.hid (by rw [HT.out, hq, if_pos (by simpa using hd)]; simp; have := HN.out.2.1; omega)
              clear hd hq
              have hcC : ∀ i (h : i < (r.take n).length), w1.cell? ⟨b, off + 3 + i, none⟩ = some (.int .u8 ((r.take n)[i].toNat : Int)) := fun i h => by
                have hi : i < r.length := by rw [List.length_take] at h; omega
                rw [List.getElem_take]
                exact (hb1'.cell (p := ⟨b, _, none⟩) hb).trans (hcr i hi)
              have hlr : (r.take n).length = E - 3 := by rw [List.length_take]; have := HN.out; omega
              have hE3 : 3 ≤ E := by have := HN.out; omega
              have HC : Calls Tryd.prog 40 #[.slice (some ⟨b, if E = 3 then off else off + 3, none⟩) (E - 3) (E - 3)] w1 (fun e w2 => ∃ a2 c2, e = .returned (.slice a2 (E - 3) c2) ∧ E - 3 ≤ c2 ∧ c2 ≤ maxLen ∧ IsB w2 w2.heap.size a2 (r.take n) ∧ Below w.heap.size w w2) := by
                have hbl := Nat.lt_of_lt_of_le hb hb1'.size
                by_cases h3 : E = 3
                · rw [if_pos h3]
                  have hr0 : r.take n = [] := List.eq_nil_of_length_eq_zero (by omega)
                  rw [hr0, h3]
                  refine (clone_any b off [] 0 w1 hbl (by decide) (fun i h => absurd h (by simp)) (Nat.le_refl _) (Nat.zero_le _)).mono ?_
                  rintro e w2 ⟨a2, c2, h1, h2, h4, h5, h6⟩
                  exact ⟨a2, c2, h1, h2, h4, h5, hb1'.trans (h6.mono hb1'.size)⟩
                · rw [if_neg h3]
                  have h7 := clone_any b (off + 3) (r.take n) (E - 3) w1 hbl (by rw [hlr]; omega) hcC (by rw [hlr]; exact Nat.le_refl _) (by unfold maxLen; omega)
                  rw [hlr] at h7
                  refine h7.mono ?_
                  rintro e w2 ⟨a2, c2, h1, h2, h4, h5, h6⟩
                  rw [hlr] at h1 h2
                  exact ⟨a2, c2, h1, h2, h4, h5, hb1'.trans (h6.mono hb1'.size)⟩
              clear hcC hcr hEI
              by_cases h3 : E = 3
              · rw [if_pos h3, h3] at HC
                subst h3
                go_wp2_with fail
                refine HC.mono ?_
                rintro e w2 ⟨a2, c2, rfl, z1, z2, z3, hB2⟩
                clear HC kar keq k0 k1 k2 k3
                go_wp2_with fail
                go_ret3
                rw [hTe.out]
                exact ⟨a2, c2, by rw [hlr]; rfl, by rw [hlr]; exact z1, z2, z3, hB2⟩
              · rw [if_neg h3] at HC
                go_wp2_with fail
                refine HC.mono ?_
                rintro e w2 ⟨a2, c2, rfl, z1, z2, z3, hB2⟩
                clear HC kar keq k0 k1 k2 k3
                go_wp2_with fail
                go_ret3
                rw [hTe.out]
                exact ⟨a2, c2, by rw [hlr]; rfl, by rw [hlr]; exact z1, z2, z3, hB2⟩
            | false =>
              rw [hd] at keq
              have hTe : Hid (T = ([], 0, 5)) := Lib.hid (by rw [HT.out, hq, if_neg (by simpa using hd)])
              clear hd hq hcr
              go_wp2_with fail
              go_ret3
              rw [hTe.out]
              exact ⟨none, 0, rfl, Nat.le_refl _, by unfold maxLen; decide, fun h => absurd h (by simp), hb1'⟩
    · have h0I : ((c0.toNat : Int) == 1) = false := toNat_ne (n := 1) (by decide) h0
      have hF : firstS (c0 :: r0) = ([], 0, 4) := by
        unfold firstS
        split
        · rename_i h; exact absurd (List.cons.inj h).1 h0
        · rename_i h; cases h
        · rfl
      have h0J : ((c0.toNat : Int) != 1) = true := by rw [bne, h0I]; rfl
      rw [hF]
      clear hc
      go_enter Tryd.func23, Tryd.ntmps23
      go_wp2
      go_ret3
      exact first_none
theorem frame_iff {x y : UInt8} {r : List UInt8} {n : Nat} (h : n + 4 ≤ r.length) (hn : n = x.toNat * 256 + y.toNat) :
    (frame (r.take n) = 1 :: x :: y :: r.take (n + 4)) ↔ (r.drop n).take 4 = be 4 (sumN (1 :: x :: y :: r.take n)) := by
  have hx := x.toNat_lt
  have hy := y.toNat_lt
  have hb : body (r.take n) = 1 :: x :: y :: r.take n := by
    rw [body, List.length_take, Nat.min_eq_left (by omega)]
    have h1 : UInt8.ofNat (n / 256 ^ 1) = x := UInt8.toNat_inj.mp (by rw [UInt8.toNat_ofNat']; omega)
    have h2 : UInt8.ofNat (n / 256 ^ 0) = y := UInt8.toNat_inj.mp (by rw [UInt8.toNat_ofNat']; omega)
    simp only [be, h1, h2]
    rfl
  rw [frame, hb, List.take_add]
  simp only [List.cons_append, List.cons.injEq, true_and]
  rw [List.append_cancel_left_eq]
  exact eq_comm
set_option maxHeartbeats 2000000 in
theorem rfirst_any (a : Option Addr) (l : List UInt8) (cap : Nat) (w : World) (hlen : l.length ≤ 1000000) (hib : IsB w w.heap.size a l) (hlc : l.length ≤ cap) (hcm : cap ≤ maxLen) :
    Calls Tryd.prog 26 #[.slice a l.length cap] w (FirstUse (firstS l) w) := by
  have hcm' := hcm
  unfold maxLen at hcm'
  match l, hlen, hib, hlc with
  | [], _, _, _ =>
    show Calls _ _ _ _ (FirstUse ([], 0, 7) w)
    go_enter Tryd.func26, Tryd.ntmps26
    go_wp2
    go_ret3
    exact first_none
  | c0 :: r0, hlen, hib, hlc =>
    obtain ⟨b, off, rfl, hb, hc⟩ := hib (by simp)
    have d0 := hc 0 (by simp)
    simp only [List.getElem_cons_zero, Nat.add_zero] at d0
    by_cases h0 : c0 = 1
    · subst h0
      match r0, hlen, hlc, hc, d0 with
      | [], hlen, hlc, hc, d0 =>
        show Calls _ _ _ _ (FirstUse ([], 0, 4) w)
        clear hc
        go_enter Tryd.func26, Tryd.ntmps26
        go_wp2
        go_ret3
        exact first_none
      | [x], hlen, hlc, hc, d0 =>
        show Calls _ _ _ _ (FirstUse ([], 0, 4) w)
        clear hc
        go_enter Tryd.func26, Tryd.ntmps26
        go_wp2
        go_ret3
        exact first_none
      | x :: y :: r, hlen, hlc, hc, d0 =>
        have d1 := hc 1 (by simp)
        have d2 := hc 2 (by simp)
        simp only [List.getElem_cons_succ, List.getElem_cons_zero] at d1 d2
        have hx := x.toNat_lt
        have hy := y.toNat_lt
        have e3 : (1 :: x :: y :: r).length = r.length + 3 := rfl
        have hcr : ∀ i (h : i < r.length), w.cell? ⟨b, off + 3 + i, none⟩ = some (.int .u8 (r[i].toNat : Int)) := fun i h => by
          have := hc (i + 3) (by rw [e3]; omega)
          simp only [List.getElem_cons_succ] at this
          rw [← this]
          congr 2
          omega
        have hcE : ∀ n, n ≤ r.length → IsB w w.heap.size (some ⟨b, off, none⟩) (1 :: x :: y :: r.take n) := fun n hn _ => ⟨b, off, rfl, hb, fun i hi => by
          match i, hi with
          | 0, _ => exact d0
          | 1, _ => exact d1
          | 2, _ => exact d2
          | i + 3, hi =>
            have hi2 : i < (r.take n).length := by simpa using hi
            rw [List.length_take] at hi2
            have := hcr i (by omega)
            rw [show off + (i + 3) = off + 3 + i by omega, this]
            simp⟩
        obtain ⟨n, hn⟩ : ∃ n : Nat, n = x.toNat * 256 + y.toNat := ⟨_, rfl⟩
        have hEI : (x.toNat : Int) * 256 + (y.toNat : Int) = (n : Int) := by omega
        have hxb : (x.toNat : Int) < 256 := by omega
        have hyb : (y.toNat : Int) < 256 := by omega
        unfold firstS
        simp only
        rw [← hn]
        rw [e3] at hlc hlen ⊢
        obtain ⟨L, hL⟩ : ∃ L : Nat, L = r.length + 3 := ⟨_, rfl⟩
        rw [← hL] at hlc hlen ⊢
        have hL3 : ¬ (L : Int) < 3 := by omega
        have hL0 : ((L : Int) == 0) = false := by simp; omega
        have hL1 : (1 : Int) < (L : Int) := by omega
        have hL2 : (2 : Int) < (L : Int) := by omega
        have hL00 : (0 : Int) < (L : Int) := by omega
        clear hc e3
        by_cases hA : 4000 < n
        · rw [if_pos hA]
          have hAI : (4000 : Int) < (n : Int) := by omega
          clear hcr hcE hn hL hA
          go_enter Tryd.func26, Tryd.ntmps26
          go_wp2
          go_quiet (fail)
          go_wp2
          go_ret3
          exact first_none' nq
        · rw [if_neg hA]
          have hAI : ¬ (4000 : Int) < (n : Int) := by omega
          by_cases hB : r.length < n + 4
          · rw [if_pos hB]
            have hBI : (L : Int) < (n : Int) + 7 := by omega
            clear hcr hcE hn hL hA hB
            go_enter Tryd.func26, Tryd.ntmps26
            go_wp2
            go_quiet (fail)
            go_wp2
            go_ret3
            exact first_none' nq
          · rw [if_neg hB]
            have hBI : ¬ (L : Int) < (n : Int) + 7 := by omega
            have hlr : (r.take n).length = n := by rw [List.length_take]; omega
            have hcC : ∀ i (h : i < (r.take n).length), w.cell? ⟨b, off + 3 + i, none⟩ = some (.int .u8 ((r.take n)[i].toNat : Int)) := fun i h => by
              have hi : i < r.length := by rw [List.length_take] at h; omega
              rw [List.getElem_take]
              exact hcr i hi
            have HS := fun q => rframe_any b (off + 3) (r.take n) (cap - 3) (w.drewN q) hb hcC (by rw [hlr]; omega) (by unfold maxLen; omega)
            rw [hlr, frameR, if_neg (by rw [hlr]; exact hA)] at HS
            have hIB := hcE (n + 4) (by omega)
            have hfe : Hid ((frame (r.take n) = 1 :: x :: y :: r.take (n + 4)) ↔ (r.drop n).take 4 = be 4 (sumN (1 :: x :: y :: r.take n))) := Lib.hid (frame_iff (by omega) hn)
            generalize sumN (1 :: x :: y :: r.take n) = s at *
            have HN := Lib.hid (And.intro hn hL)
            obtain ⟨T, hT⟩ : ∃ T : List UInt8 × Int × Int, T = if (r.drop n).take 4 = be 4 s then (r.take n, ((n + 7 : Nat) : Int), 0) else ([], 0, 5) := ⟨_, rfl⟩
            rw [← hT]
            have HT := Lib.hid hT
            have hl7 : (1 :: x :: y :: r.take (n + 4)).length = n + 7 := by simp; omega
            clear hT hn hL hA hcE hcr hcC
            have hc7 : n + 7 ≤ cap := by have := HN.out; omega
            have hc3 : ¬ cap = 3 := by omega
            have hc30 : ¬ cap - 3 = 0 := by omega
            have hn3 : (n : Int) + 3 ≤ cap := by omega
            go_enter Tryd.func26, Tryd.ntmps26
            go_wp2_with fail
            go_quiet (fail)
            go_wp2_with fail
            refine (HS nq).mono ?_
            rintro e w1 ⟨a2, c2, rfl, z1, z2, z3, hb1⟩
            have hB1 : Below w.heap.size w w1 := (show Below w.heap.size w (w.drewN nq) from ⟨rfl, rfl, rfl, Nat.le_refl _, fun _ _ => rfl⟩).trans hb1
            dsimp only at z1 z3
            have kc1 : ∀ q, (convert 26 9 (.slice a2 (frame (r.take n)).length c2)).run Tryd.prog (w1.drewN q) = .ok (.string ⟨(frame (r.take n)).toArray⟩) (w1.drewN q) := fun q => conv_bytes (w := w1.drewN q) c2 z3 9 Tryd.underlying9
            have hIB1 : IsB w1 w1.heap.size (some ⟨b, off, none⟩) (1 :: x :: y :: r.take (n + 4)) := isB_up hIB hB1
            have kc2 : ∀ q, (convert 26 9 (.slice (some ⟨b, off, none⟩) (n + 7) cap)).run Tryd.prog (w1.drewN q) = .ok (.string ⟨(1 :: x :: y :: r.take (n + 4)).toArray⟩) (w1.drewN q) := fun q => by
              rw [← hl7]
              exact conv_bytes (w := w1.drewN q) cap (show IsB (w1.drewN q) w1.heap.size _ _ from hIB1) 9 Tryd.underlying9
            have hT2 : Hid (T = if frame (r.take n) = 1 :: x :: y :: r.take (n + 4) then (r.take n, ((n + 7 : Nat) : Int), 0) else ([], 0, 5)) := Lib.hid (by rw [HT.out]; simp only [hfe.out])
            have hz : IsB w1 w.heap.size (some ⟨b, off + 3, none⟩) (r.take n) := fun _ => ⟨b, off + 3, rfl, hb, fun i hi => by
              have hi2 : i < r.length := by rw [List.length_take] at hi; omega
              have h0 := isB_up hIB hB1
              obtain ⟨b', o', e1, _, e2⟩ := h0 (by simp)
              cases e1
              have := e2 (i + 3) (by simp; rw [hlr] at hi; omega)
              rw [show off + 3 + i = off + (i + 3) by omega, this]
              simp⟩
            generalize frame (r.take n) = F at *
            generalize hG : 1 :: x :: y :: r.take (n + 4) = G at *
            clear HS hIB hIB1 hG HT hfe z3 d0 d1 d2 hl7 z1
            have hBq : ∀ q, Below w.heap.size w (w1.drewN q) := fun q => hB1.trans ⟨rfl, rfl, rfl, Nat.le_refl _, fun _ _ => rfl⟩
            by_cases hd : F = G
            · have hTe : Hid (T = (r.take n, ((n + 7 : Nat) : Int), 0)) := Lib.hid (by rw [hT2.out, if_pos hd])
              subst hd
              clear hT2
              go_wp2_with fail
              go_quiet (fail)
              go_wp2_with fail
              go_ret3
              rw [hTe.out]
              refine ⟨some ⟨b, off + 3, none⟩, cap - 3, ?_, by rw [hlr]; omega, by unfold maxLen; omega, (show IsB w1 w1.heap.size _ _ from hz.mono hB1.size), hBq nq⟩
              simp [hlr]
            · have hTe : Hid (T = ([], 0, 5)) := Lib.hid (by rw [hT2.out, if_neg hd])
              have hdb : (F == G) = false := by simpa using hd
              clear hT2 hd
              go_wp2_with fail
              go_quiet (fail)
              go_wp2_with fail
              go_ret3
              rw [hTe.out]
              exact ⟨none, 0, rfl, Nat.le_refl _, by unfold maxLen; decide, fun h => absurd h (by simp), hBq nq⟩
    · have h0I : ((c0.toNat : Int) == 1) = false := toNat_ne (n := 1) (by decide) h0
      have hF : firstS (c0 :: r0) = ([], 0, 4) := by
        unfold firstS
        split
        · rename_i h; exact absurd (List.cons.inj h).1 h0
        · rename_i h; cases h
        · rfl
      have h0J : ((c0.toNat : Int) != 1) = true := by rw [bne, h0I]; rfl
      rw [hF]
      clear hc
      go_enter Tryd.func26, Tryd.ntmps26
      go_wp2
      go_ret3
      exact first_none
end Go.Proofs.YtbkkomknajgpdaaDoor.SumMem
