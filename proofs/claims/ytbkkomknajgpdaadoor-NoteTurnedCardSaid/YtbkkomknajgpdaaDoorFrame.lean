/- Frames: package sum's, and the reference's. -/
import Derived.Test.YtbkkomknajgpdaaDoorSum
namespace Go.Proofs.YtbkkomknajgpdaaDoor.SumMem
open Go.RowKit CodeSpec SumSpec Flat CodeMem
set_option linter.unusedSimpArgs false
set_option linter.unusedVariables false
set_option maxRecDepth 100000

/-- The head of a frame, and what is in it. -/
def body (l : List UInt8) : List UInt8 := 1 :: (be 2 l.length ++ l)
def frame (l : List UInt8) : List UInt8 := body l ++ be 4 (sumN (body l))
def frameR (l : List UInt8) : List UInt8 × Int := if 4000 < l.length then ([], 3) else (frame l, 0)

theorem body_length (l : List UInt8) : (body l).length = l.length + 3 := by simp [body, length_be]; omega
theorem ofNat_int (n : Nat) (m : Int) (h : m = ((n % 256 : Nat) : Int)) : ((UInt8.ofNat n).toNat : Int) = m := by rw [h, UInt8.toNat_ofNat']
theorem body_cells (l : List UInt8) (h : l.length ≤ 4000) : bcells (body l) = [.int .u8 1, .int .u8 ((l.length : Int) / 256), .int .u8 ((l.length : Int) % 256)] ++ bcells l := by
  simp only [body, be, bcells, List.map_cons, List.cons_append, List.nil_append, List.map_append]
  rw [ofNat_int (l.length / 256 ^ 1) ((l.length : Int) / 256) (by omega), ofNat_int (l.length / 256 ^ 0) ((l.length : Int) % 256) (by omega)]
  rfl
theorem be4_cells (s : Nat) (h : s < 4294967296) : bcells (be 4 s) = [.int .u8 ((s : Int) / 16777216), .int .u8 ((s : Int) / 65536 % 256), .int .u8 ((s : Int) / 256 % 256), .int .u8 ((s : Int) % 256)] := by
  simp only [be, bcells, List.map_cons, List.map_nil]
  rw [ofNat_int (s / 256 ^ 3) ((s : Int) / 16777216) (by omega), ofNat_int (s / 256 ^ 2) ((s : Int) / 65536 % 256) (by omega), ofNat_int (s / 256 ^ 1) ((s : Int) / 256 % 256) (by omega), ofNat_int (s / 256 ^ 0) ((s : Int) % 256) (by omega)]
theorem lit_new (w : World) (cs : Array Value) (e : TypeId) : ∀ j u, cs.toList[j]? = some u → (w.alloc (.cells cs e)).cell? ((⟨w.heap.size, 0, none⟩ : Addr).add j) = some u := by
  intro j u h
  have e1 : ((⟨w.heap.size, 0, none⟩ : Addr).add j) = ⟨w.heap.size, j, none⟩ := by unfold Addr.add; split <;> simp_all
  rw [e1, World.cell?_alloc_new]
  simpa using h
theorem part_new {w : World} {b off : Nat} {l : List UInt8} (hc : ∀ i (h : i < l.length), w.cell? ⟨b, off + i, none⟩ = some (.int .u8 (l[i].toNat : Int))) : ∀ j u, (bcells l)[j]? = some u → w.cell? ((⟨b, off, none⟩ : Addr).add j) = some u := by
  intro j u h
  have e1 : ((⟨b, off, none⟩ : Addr).add j) = ⟨b, off + j, none⟩ := by unfold Addr.add; split <;> simp_all
  have hj : j < l.length := by
    by_cases h2 : j < l.length
    · exact h2
    · rw [List.getElem?_eq_none (by rw [bcells_length]; omega)] at h; cases h
  rw [e1, hc j hj]
  rw [← h]
  simp [bcells, hj]

set_option maxHeartbeats 1000000 in
theorem frame_own (b off : Nat) (l : List UInt8) (cap : Nat) (w : World) (hb : b < w.heap.size) (hc : ∀ i (h : i < l.length), w.cell? ⟨b, off + i, none⟩ = some (.int .u8 (l[i].toNat : Int))) (hlc : l.length ≤ cap) (hcm : cap ≤ maxLen) :
    Calls Tryd.prog 18 #[.slice (some ⟨b, off, none⟩) l.length cap] w (EncPost (frameR l) w) := by
  obtain ⟨i0, hi, hz0, hz1, hz2⟩ := info_parts info5
  have hcm' := hcm
  unfold maxLen at hcm'
  by_cases h4 : 4000 < l.length
  · rw [frameR, if_pos h4]
    have hI : (4000 : Int) < (l.length : Int) := by omega
    clear hc
    go_enter Tryd.func18, Tryd.ntmps18
    go_wp2
    go_ret2
    exact ⟨_, rfl, own_nil _ _, Below.refl _ _⟩
  · rw [frameR, if_neg h4]
    have hI : ¬ (4000 : Int) < (l.length : Int) := by omega
    have hnews : ∀ (o : Obj), ∀ j u, (bcells l)[j]? = some u → (w.alloc o).cell? ((⟨b, off, none⟩ : Addr).add j) = some u := fun o => part_new (fun i h => (((Below.refl w.heap.size w).alloc (Nat.le_refl _) o).cell (p := ⟨b, off + i, none⟩) hb).trans (hc i h))
    clear hc
    go_enter Tryd.func18, Tryd.ntmps18
    go_wp2_with (first | (at_builtin; refine wpList_append_own_at _ rfl _ _ 26 rfl w.heap.size 5 i0 (.int .u8 0) 1 1 Tryd.underlying26 hi hz0 hz1 hz2 rfl (by decide) _ 3 _ rfl (World.ownsRow_lit w _ 3 (Nat.le_refl _) (by unfold maxLen; decide) rfl) ⟨b, off, none⟩ l.length cap (bcells l) rfl (by rw [bcells_length, Nat.mul_one]) (hnews _) (bcells_one _) (by unfold maxLen; omega) (by omega) (by simp) ?_; intro v' w1 hown' hgrow hnil hloc'))
    have ho : OwnB w1 w.heap.size v' (body l) := by
      rw [OwnB, body_cells l (by omega), body_length, Nat.add_comm]
      exact hown'
    have hB1 : Below w.heap.size w w1 := ((Below.refl _ w).alloc (Nat.le_refl _) _).grown hgrow (by simp) (fun k e => by cases e; exact Nat.le_refl _)
    clear hown' hgrow hnil hloc' hnews
    obtain ⟨a1, c1, rfl, x1, x2, x3⟩ := own_isB ho
    refine (sum_any a1 (body l) c1 w1 (by rw [body_length]; omega) (by rw [body_length]; omega) x3 x1 x2).mono ?_
    obtain ⟨s, hs⟩ : ∃ s, s = sumN (body l) := ⟨_, rfl⟩
    have hslt := sumN_lt (body l)
    have hfr : frame l = body l ++ be 4 s := by rw [hs, frame]
    rw [← hs] at hslt ⊢
    have hbl := body_length l
    generalize body l = o at *
    have HFR := Lib.hid hfr
    clear hs hfr
    rintro e w2 ⟨rfl, hb2⟩
    have hB2 : Below w.heap.size w w2 := hB1.trans (hb2.mono hB1.size)
    have ho2 : OwnB w2 w.heap.size (.slice a1 o.length c1) o := own_below ho hb2
    clear x1 x2 x3 ho hB1 hb2
    have hlen4 : o.length ≤ 5000 := by omega
    clear hbl
    go_wp2_with (first | (at_builtin; refine wpList_append_own_at _ rfl _ _ 26 rfl w.heap.size 5 i0 (.int .u8 0) 1 1 Tryd.underlying26 hi hz0 hz1 hz2 rfl (by decide) _ o.length _ rfl (World.ownsRow.alloc ho2 _) ⟨w2.heap.size, 0, none⟩ 4 4 _ rfl rfl (lit_new _ _ _) (by simp [Value.oneCell']) (by unfold maxLen; omega) (by omega) (by have := hB2.size; simp; omega) ?_; intro v' w3 hown' hgrow hnil hloc'))
    go_ret2
    have hB3 : Below w.heap.size w w3 := (hB2.alloc hB2.size _).grown hgrow (by have := hB2.size; simp; omega) (fun k e => (ho2.lt k e).1)
    have hoF : OwnB w3 w.heap.size v' (frame l) := by
      rw [HFR.out, OwnB, bcells_append, be4_cells s hslt, List.length_append, length_be]
      exact hown'
    exact ⟨v', rfl, hoF, hB3⟩
theorem frame_any (b off : Nat) (l : List UInt8) (cap : Nat) (w : World) (hb : b < w.heap.size) (hc : ∀ i (h : i < l.length), w.cell? ⟨b, off + i, none⟩ = some (.int .u8 (l[i].toNat : Int))) (hlc : l.length ≤ cap) (hcm : cap ≤ maxLen) :
    Calls Tryd.prog 18 #[.slice (some ⟨b, off, none⟩) l.length cap] w (EncUse (frameR l) w) := (frame_own b off l cap w hb hc hlc hcm).mono fun _ _ h => enc_use h
set_option maxHeartbeats 1000000 in
theorem rframe_any (b off : Nat) (l : List UInt8) (cap : Nat) (w : World) (hb : b < w.heap.size) (hc : ∀ i (h : i < l.length), w.cell? ⟨b, off + i, none⟩ = some (.int .u8 (l[i].toNat : Int))) (hlc : l.length ≤ cap) (hcm : cap ≤ maxLen) :
    Calls Tryd.prog 22 #[.slice (some ⟨b, off, none⟩) l.length cap] w (EncUse (frameR l) w) := by
  obtain ⟨i0, hi, hz0, hz1, hz2⟩ := info_parts info5
  have hcm' := hcm
  unfold maxLen at hcm'
  by_cases h4 : 4000 < l.length
  · rw [frameR, if_pos h4]
    have hI : (4000 : Int) < (l.length : Int) := by omega
    clear hc
    go_enter Tryd.func22, Tryd.ntmps22
    go_wp2
    go_ret2
    exact ⟨none, 0, rfl, Nat.le_refl _, by unfold maxLen; decide, fun h => absurd h (by simp), Below.refl _ _⟩
  · rw [frameR, if_neg h4]
    have hI : ¬ (4000 : Int) < (l.length : Int) := by omega
    have hnews : ∀ (o : Obj), ∀ j u, (bcells l)[j]? = some u → (w.alloc o).cell? ((⟨b, off, none⟩ : Addr).add j) = some u := fun o => part_new (fun i h => (((Below.refl w.heap.size w).alloc (Nat.le_refl _) o).cell (p := ⟨b, off + i, none⟩) hb).trans (hc i h))
    clear hc
    go_enter Tryd.func22, Tryd.ntmps22
    go_wp2_with (first | (at_builtin; refine wpList_append_own_at _ rfl _ _ 26 rfl w.heap.size 5 i0 (.int .u8 0) 1 1 Tryd.underlying26 hi hz0 hz1 hz2 rfl (by decide) _ 3 _ rfl (World.ownsRow_lit w _ 3 (Nat.le_refl _) (by unfold maxLen; decide) rfl) ⟨b, off, none⟩ l.length cap (bcells l) rfl (by rw [bcells_length, Nat.mul_one]) (hnews _) (bcells_one _) (by unfold maxLen; omega) (by omega) (by simp) ?_; intro v' w1 hown' hgrow hnil hloc'))
    have ho : OwnB w1 w.heap.size v' (body l) := by
      rw [OwnB, body_cells l (by omega), body_length, Nat.add_comm]
      exact hown'
    have hB1 : Below w.heap.size w w1 := ((Below.refl _ w).alloc (Nat.le_refl _) _).grown hgrow (by simp) (fun k e => by cases e; exact Nat.le_refl _)
    clear hown' hgrow hnil hloc' hnews
    obtain ⟨a1, c1, rfl, x1, x2, x3⟩ := own_isB ho
    refine (rsum_any a1 (body l) c1 w1 (by rw [body_length]; omega) x3 x1 x2).mono ?_
    obtain ⟨s, hs⟩ : ∃ s, s = sumN (body l) := ⟨_, rfl⟩
    have hslt := sumN_lt (body l)
    have hfr : frame l = body l ++ be 4 s := by rw [hs, frame]
    rw [← hs] at hslt ⊢
    have hbl := body_length l
    generalize body l = o at *
    have HFR := Lib.hid hfr
    clear hs hfr
    rintro e w2 ⟨rfl, hb2⟩
    have hB2 : Below w.heap.size w w2 := hB1.trans (hb2.mono hB1.size)
    have ho2 : OwnB w2 w.heap.size (.slice a1 o.length c1) o := own_below ho hb2
    clear x1 x2 x3 ho hB1 hb2
    have hlen4 : o.length ≤ 5000 := by omega
    clear hbl
    go_wp2_with (first | (at_builtin; refine wpList_append_own_at _ rfl _ _ 26 rfl w.heap.size 5 i0 (.int .u8 0) 1 1 Tryd.underlying26 hi hz0 hz1 hz2 rfl (by decide) _ o.length _ rfl (World.ownsRow.alloc ho2 _) ⟨w2.heap.size, 0, none⟩ 4 4 _ rfl rfl (lit_new _ _ _) (by simp [Value.oneCell']) (by unfold maxLen; omega) (by omega) (by have := hB2.size; simp; omega) ?_; intro v' w3 hown' hgrow hnil hloc'))
    go_ret2
    have hB3 : Below w.heap.size w w3 := (hB2.alloc hB2.size _).grown hgrow (by have := hB2.size; simp; omega) (fun k e => (ho2.lt k e).1)
    have hoF : OwnB w3 w.heap.size v' (frame l) := by
      rw [HFR.out, OwnB, bcells_append, be4_cells s hslt, List.length_append, length_be]
      exact hown'
    obtain ⟨a2, c2, rfl, y1, y2, y3⟩ := own_isB hoF
    exact ⟨a2, c2, rfl, y1, y2, y3, hB3⟩
end Go.Proofs.YtbkkomknajgpdaaDoor.SumMem
