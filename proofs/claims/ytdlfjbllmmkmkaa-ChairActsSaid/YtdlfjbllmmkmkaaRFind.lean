/- The document's deals in memory; what Find answers. -/
import Derived.Test.YtdlfjbllmmkmkaaRTallyPut
import Derived.Test.YtdlfjbllmmkmkaaRTallyOut
import Derived.Test.YtdlfjbllmmkmkaaRTallyNew
import Derived.Test.YtdlfjbllmmkmkaaRMembers
import Derived.Test.YtdlfjbllmmkmkaaRTermsNew
import Derived.Test.YtdlfjbllmmkmkaaDeal
namespace Go.Proofs.Ytdlfjbllmmkmkaa.Chair
open Go.RowKit Flat ChairSpec Go.Proofs.YtdlfjbllmmkmkaaW.PrintLast
set_option linter.unusedSimpArgs false
set_option linter.unusedVariables false
set_option maxRecDepth 100000
/-- A deal of the document's: its transaction ahead of it. -/
def rdc (tx : Int) (d : De) : List Value := [.int .i64 tx] ++ dc d
theorem rdc_len (tx : Int) (d : De) : (rdc tx d).length = 30 := rfl
theorem rdc_one (tx : Int) (d : De) : ∀ v ∈ rdc tx d, v.oneCell' = true := by
  intro v hv
  simp only [rdc, List.mem_append, List.mem_singleton] at hv
  rcases hv with rfl | h
  · rfl
  · exact dc_one d v h
theorem infoRDe : (Try.prog.info? 75).map (·.size) = some 30 := by kernel_rfl
def RDeAt (w : World) (b : Nat) (tx : Int) (d : De) : Prop := w.rangeAt b 0 (rdc tx d)
theorem RDeAt.parts {w : World} {b : Nat} {tx : Int} {d : De} (h : RDeAt w b tx d) : w.cell? ⟨b, 0, none⟩ = some (.int .i64 tx) ∧ w.rangeAt b 1 (tc d.ta) ∧ w.rangeAt b 25 (tec d.te) ∧ w.cell? ⟨b, 29, none⟩ = some (.int .i64 d.out) := by
  obtain ⟨h1, h2⟩ := range_split h
  obtain ⟨h3, h4⟩ := range_split h2
  obtain ⟨h5, h6⟩ := range_split h4
  exact ⟨h1 0 _ rfl, h3, h5, h6 0 _ rfl⟩
theorem rde_join {w : World} {b : Nat} {tx : Int} {d : De} (h1 : w.cell? ⟨b, 0, none⟩ = some (.int .i64 tx)) (h2 : w.rangeAt b 1 (tc d.ta)) (h3 : w.rangeAt b 25 (tec d.te)) (h4 : w.cell? ⟨b, 29, none⟩ = some (.int .i64 d.out)) : RDeAt w b tx d := by
  refine range_join (fun j v hv => ?_) (range_join h2 (range_join h3 (fun j v hv => ?_)))
  · have hj : j = 0 := by have := (List.getElem?_eq_some_iff.1 hv).1; simp at this; exact this
    subst hj
    have e : v = .int .i64 tx := by simpa using hv.symm
    rw [e]; exact h1
  · have hj : j = 0 := by have := (List.getElem?_eq_some_iff.1 hv).1; simp at this; exact this
    subst hj
    have e : v = .int .i64 d.out := by simpa using hv.symm
    rw [e]; exact h4
theorem RDeAt.below {w w' : World} {b : Nat} {tx : Int} {d : De} (h : RDeAt w b tx d) (hb : Below w.heap.size w w') : RDeAt w' b tx d := fun j v hv => by
  have hc := h j v hv
  exact (hb.cell (p := ⟨b, 0 + j, none⟩) (Flat.cell_lt hc)).trans hc
/-- Deals in a slice. -/
def IsDeals (w : World) (v : Value) (D : List (Int × De)) : Prop :=
  ∃ a cap, v = .slice a D.length cap ∧ D.length ≤ cap ∧ cap ≤ maxLen ∧ (0 < D.length → ∃ b off, a = some ⟨b, off, none⟩ ∧ b < w.heap.size ∧ ∀ i (h : i < D.length), w.rangeAt b (off + i * 30) (rdc D[i].1 D[i].2))
theorem IsDeals.below {w w' : World} {v : Value} {D : List (Int × De)} (h : IsDeals w v D) (hb : Below w.heap.size w w') : IsDeals w' v D := by
  obtain ⟨a, cap, hv, h1, h2, hc⟩ := h
  refine ⟨a, cap, hv, h1, h2, fun hl => ?_⟩
  obtain ⟨b, off, ha, hb2, hd⟩ := hc hl
  exact ⟨b, off, ha, Nat.lt_of_lt_of_le hb2 hb.size, fun i hi j u hu => (hb.cell (p := ⟨b, _, none⟩) hb2).trans (hd i hi j u hu)⟩
/-- The place of a deal. -/
def placeR (D : List (Int × De)) (tx : Int) : Option Nat := D.findIdx? (fun x => x.1 == tx)
def findR (D : List (Int × De)) (tx : Int) : Int := match placeR D tx with | some i => (i : Int) | none => -1
theorem place_none {D : List (Int × De)} {tx : Int} (h : ∀ j (hj : j < D.length), D[j].1 ≠ tx) : placeR D tx = none := by
  rw [placeR, List.findIdx?_eq_none_iff]
  intro x hx
  obtain ⟨j, hj, rfl⟩ := List.getElem_of_mem hx
  exact beq_eq_false_iff_ne.2 (h j hj)
theorem place_some {D : List (Int × De)} {tx : Int} {k : Nat} (hk : k < D.length) (h1 : D[k].1 = tx) (h : ∀ j (hj : j < D.length), j < k → D[j].1 ≠ tx) : placeR D tx = some k := by
  rw [placeR, List.findIdx?_eq_some_iff_getElem]
  exact ⟨hk, by simp [h1], fun j hj => by simpa using h j (by omega) hj⟩
set_option maxHeartbeats 4000000 in
theorem rfind_any (dv lv : Value) (D : List (Int × De)) (tx : Int) (w : World) (hd : IsDeals w dv D) : Calls Try.prog 15 #[.agg #[dv, lv], .int .i64 tx] w fun e w' => e = .returned (.int .i64 (findR D tx)) ∧ Below w.heap.size w w' := by
  obtain ⟨a, cap, rfl, hlc, hcm, hcc⟩ := hd
  have HCC := Lib.hid hcc
  clear hcc
  go_enter Try.func15, Try.ntmps15
  go_wp2_with fail
  generalize hv1 : World.alloc w _ = v1
  obtain ⟨hb1, hz1, hc1⟩ := alloc_facts hv1
  have p0 := hc1 0
  clear hv1 hc1
  unfold maxLen at hcm
  go_loopw [5] (fun i wr => ∃ k : Nat, k ≤ D.length ∧ i = .int .i64 (k : Int) ∧ (∀ j (hj : j < D.length), j < k → D[j].1 ≠ tx) ∧ wr = v1) (fun i _ => D.length - (intOf i).toNat)
  case atStart => exact ⟨0, Nat.zero_le _, rfl, fun j _ h => absurd h (Nat.not_lt_zero _), rfl⟩
  case round =>
    obtain ⟨k, hk, rfl, hne, rfl⟩ := hrel
    by_cases hkl : k < D.length
    · have hkI : (k : Int) < (D.length : Int) := by omega
      have hk0 : (0 : Int) ≤ (k : Int) := by omega
      obtain ⟨b, off, rfl, hbl, hdd⟩ := HCC.out (by omega)
      have q0 := (hb1.cell (p := ⟨b, off + k * 30 + 0, none⟩) hbl).trans (hdd k hkl 0 _ rfl)
      rw [Nat.add_zero] at q0
      have HNE := Lib.hid hne
      clear hdd hne
      by_cases he : D[k].1 = tx
      · have HF := Lib.hid (show findR D tx = (k : Int) by rw [findR, place_some hkl he HNE.out])
        rw [he] at q0
        have hbe : (tx == tx) = true := beq_self_eq_true _
        clear he
        go_wp2_with fail
        go_ret
        rw [HF.out]
        exact ⟨rfl, hb1⟩
      · have HN2 := Lib.hid (fun j (hj : j < D.length) (hjk : j < k + 1) => show D[j].1 ≠ tx from by
          by_cases e : j = k
          · subst e; exact he
          · exact HNE.out j hj (by omega))
        have hbe : (D[k].1 == tx) = false := beq_eq_false_iff_ne.2 he
        generalize D[k].1 = y at *
        clear he
        go_wp2_with fail
        exact ⟨⟨k + 1, by omega, by go_num, HN2.out, by first | rfl | trivial⟩, by simp [intOf]; omega⟩
    · obtain rfl : k = D.length := by omega
      have hkI : ¬ (D.length : Int) < (D.length : Int) := by omega
      have HF := Lib.hid (show findR D tx = -1 by rw [findR, place_none (fun j hj => hne j hj hj)])
      clear hne
      go_wp2_with fail
      go_ret
      rw [HF.out]
      exact ⟨rfl, hb1⟩
end Go.Proofs.Ytdlfjbllmmkmkaa.Chair
