/- Any lease's bytes, and that of any bytes, are the document's, or refused; they belong together: for every lease and all bytes the statement's call returns true. -/
import Derived.Test.YtebdjaagdfbbgaaDoorLeaseCode
import Derived.Test.YtebdjaagdfbbgaaDoorLeaseAlive
namespace Go.Proofs.YtebdjaagdfbbgaaDoor.LLeaseBytes
open Go.RowKit CodeSpec LeaseSpec Flat CodeMem Lease LeaseNum LeaseCode
set_option linter.unusedSimpArgs false
set_option linter.unusedVariables false

set_option maxRecDepth 100000 in
set_option maxHeartbeats 2000000 in
theorem walk (c0 : List Value) (a1 : Option Addr) (len1 cap1 : Nat) (r1 : List (List Value)) (w : World) (w0 : Fits [.int .i64, .int .i64, .int .u8] c0) (w1 : IsRows [.int .u8] w a1 len1 cap1 r1) :
    Calls Tryd.prog 3 #[.agg c0.toArray, .slice a1 len1 cap1] w fun e w' => e = .returned (.bool true) ∧ Below w.heap.size w w' := by
  obtain ⟨e, _, rfl, _, w0⟩ := w0.int
  obtain ⟨s, _, rfl, _, w0⟩ := w0.int
  obtain ⟨t, _, rfl, ht, w0⟩ := w0.int
  obtain rfl := w0.done
  obtain ⟨ht0, _⟩ := bounds_u8 ht
  obtain ⟨l, rfl, hlc, hcm, hib⟩ := rows_bytes w1
  have hcm' := hcm
  unfold maxLen at hcm'
  clear w1 ht
  by_cases h5 : 100 < l.length
  · have hI5 : (100 : Int) < (l.length : Int) := by omega
    go_enter Tryd.func3, Tryd.ntmps3
    go_wp2_with fail
    generalize hW : World.alloc w _ = w1
    obtain ⟨hB1, z1, k1⟩ := alloc_facts hW
    clear hW k1
    refine (LeaseAlive.alive_any _).mono ?_
    rintro r v1 ⟨rfl, hb1⟩
    go_wp2_with fail
    go_ret
    exact ⟨rfl, hB1.trans (hb1.mono hB1.size)⟩
  · have hI5 : ¬ (100 : Int) < (l.length : Int) := by omega
    have HE := fun w => encode_any e s t w ht0
    have HR := fun w => rencode_any e s t w ht0
    have HB := fun o (h : lenc e s t = (o, 0)) => ldec_lenc ht0 h
    have HD := fun w h => decode_any a1 l cap1 w h hlc hcm
    have HF := fun w h => rdecode_any a1 l cap1 w h hlc hcm
    generalize lenc e s t = T at HE HR HB
    generalize ldec l = D at HD HF
    obtain ⟨o, er⟩ := T
    obtain ⟨⟨de, ds, dt⟩, dr⟩ := D
    replace HB := Lib.hid HB
    go_enter Tryd.func3, Tryd.ntmps3
    go_wp2_with fail
    generalize hW : World.alloc w _ = w1
    obtain ⟨hB1, z1, k1⟩ := alloc_facts hW
    have q0 : w1.cell? ⟨w.heap.size, 0, none⟩ = _ := k1 0
    have q1 : w1.cell? ⟨w.heap.size, 1, none⟩ = _ := k1 1
    have q2 : w1.cell? ⟨w.heap.size, 2, none⟩ = _ := k1 2
    have hib1 := isB_up hib hB1
    clear hW k1 hib
    refine (LeaseAlive.alive_any _).mono ?_
    rintro r v1 ⟨rfl, hb1⟩
    have hBv := hB1.trans (hb1.mono hB1.size)
    have zv := Nat.lt_of_lt_of_le z1 hb1.size
    have g0 := (hb1.cell (p := ⟨w.heap.size, 0, none⟩) z1).trans q0
    have g1 := (hb1.cell (p := ⟨w.heap.size, 1, none⟩) z1).trans q1
    have g2 := (hb1.cell (p := ⟨w.heap.size, 2, none⟩) z1).trans q2
    have hibv := isB_up hib1 hb1
    clear hb1 hB1 z1 q0 q1 q2 hib1
    go_wp2_with fail
    refine (HE _).mono ?_
    rintro r v2 ⟨a2, c2, rfl, x1, x2, x3, hb2⟩
    dsimp only at x1 x2 x3
    have hB2 := hBv.trans (hb2.mono hBv.size)
    have z2 := Nat.lt_of_lt_of_le zv hb2.size
    have q0 := (hb2.cell (p := ⟨w.heap.size, 0, none⟩) zv).trans g0
    have q1 := (hb2.cell (p := ⟨w.heap.size, 1, none⟩) zv).trans g1
    have q2 := (hb2.cell (p := ⟨w.heap.size, 2, none⟩) zv).trans g2
    have hib2 := isB_up hibv hb2
    clear hb2 hBv zv g0 g1 g2 hibv HE
    go_wp2_with fail
    refine (HR _).mono ?_
    rintro r v3 ⟨a3, c3, rfl, y1, y2, y3, hb3⟩
    dsimp only at y1 y2 y3
    have hB3 := hB2.trans (hb3.mono hB2.size)
    have z3 := Nat.lt_of_lt_of_le z2 hb3.size
    have g0 := (hb3.cell (p := ⟨w.heap.size, 0, none⟩) z2).trans q0
    have g1 := (hb3.cell (p := ⟨w.heap.size, 1, none⟩) z2).trans q1
    have g2 := (hb3.cell (p := ⟨w.heap.size, 2, none⟩) z2).trans q2
    have hib3 := isB_up hib2 hb3
    have x33 := isB_up x3 hb3
    clear hb3 hB2 z2 q0 q1 q2 hib2 x3 HR
    go_wp2_with fail
    refine (HD _ hib3).mono ?_
    rintro r v4 ⟨rfl, hb4⟩
    have hB4 := hB3.trans (hb4.mono hB3.size)
    have z4 := Nat.lt_of_lt_of_le z3 hb4.size
    have q0 := (hb4.cell (p := ⟨w.heap.size, 0, none⟩) z3).trans g0
    have q1 := (hb4.cell (p := ⟨w.heap.size, 1, none⟩) z3).trans g1
    have q2 := (hb4.cell (p := ⟨w.heap.size, 2, none⟩) z3).trans g2
    have hib4 := isB_up hib3 hb4
    have x34 := isB_up x33 hb4
    have y34 := isB_up y3 hb4
    clear hb4 hB3 z3 g0 g1 g2 hib3 x33 y3 HD
    go_wp2_with fail
    generalize hW : World.alloc v4 _ = v5
    obtain ⟨hb5, z45, k5⟩ := alloc_facts hW
    have d0 : v5.cell? ⟨v4.heap.size, 0, none⟩ = _ := k5 0
    have d1 : v5.cell? ⟨v4.heap.size, 1, none⟩ = _ := k5 1
    have d2 : v5.cell? ⟨v4.heap.size, 2, none⟩ = _ := k5 2
    clear hW k5
    refine (HF _ (isB_up hib4 hb5)).mono ?_
    rintro r v6 ⟨rfl, hb6⟩
    have hb56 : Below v4.heap.size v4 v6 := hb5.trans (hb6.mono hb5.size)
    have z46 := Nat.lt_of_lt_of_le z45 hb6.size
    have e0 := (hb6.cell (p := ⟨v4.heap.size, 0, none⟩) z45).trans d0
    have e1 := (hb6.cell (p := ⟨v4.heap.size, 1, none⟩) z45).trans d1
    have e2 := (hb6.cell (p := ⟨v4.heap.size, 2, none⟩) z45).trans d2
    clear hb5 hb6 d0 d1 d2 HF z45
    have hB6 := hB4.trans (hb56.mono hB4.size)
    have z6 := Nat.lt_of_lt_of_le z4 hb56.size
    have g0 := (hb56.cell (p := ⟨w.heap.size, 0, none⟩) z4).trans q0
    have g1 := (hb56.cell (p := ⟨w.heap.size, 1, none⟩) z4).trans q1
    have g2 := (hb56.cell (p := ⟨w.heap.size, 2, none⟩) z4).trans q2
    have x36 := isB_up x34 hb56
    have y36 := isB_up y34 hb56
    clear hb56 hB4 z4 q0 q1 q2 hib4 x34 y34
    go_wp2_with fail
    generalize hW : World.alloc v6 _ = v7
    obtain ⟨hb7, z67, k7⟩ := alloc_facts hW
    have d0 : v7.cell? ⟨v6.heap.size, 0, none⟩ = _ := k7 0
    have d1 : v7.cell? ⟨v6.heap.size, 1, none⟩ = _ := k7 1
    have d2 : v7.cell? ⟨v6.heap.size, 2, none⟩ = _ := k7 2
    clear hW k7
    have hB7 := hB6.trans (hb7.mono hB6.size)
    have z7 := Nat.lt_of_lt_of_le z6 hb7.size
    have q0 := (hb7.cell (p := ⟨w.heap.size, 0, none⟩) z6).trans g0
    have q1 := (hb7.cell (p := ⟨w.heap.size, 1, none⟩) z6).trans g1
    have q2 := (hb7.cell (p := ⟨w.heap.size, 2, none⟩) z6).trans g2
    have i0 := (hb7.cell (p := ⟨v4.heap.size, 0, none⟩) z46).trans e0
    have i1 := (hb7.cell (p := ⟨v4.heap.size, 1, none⟩) z46).trans e1
    have i2 := (hb7.cell (p := ⟨v4.heap.size, 2, none⟩) z46).trans e2
    have x37 := isB_up x36 hb7
    have y37 := isB_up y36 hb7
    clear hb7 hB6 z6 g0 g1 g2 e0 e1 e2 x36 y36 z46
    have kc1 := conv_bytes c2 x37 9 Tryd.underlying9
    have kc2 := conv_bytes c3 y37 9 Tryd.underlying9
    by_cases hr : er = 0
    · subst hr
      have HK := HB.out o rfl
      have HX := fun w h => decode_any a2 o c2 w h x1 x2
      rw [HK] at HX
      replace HX := Lib.hid HX
      clear HK HB
      go_wp2_with fail
      rw [kc1]
      go_wp2_with fail
      refine (HX.out _ x37).mono ?_
      rintro r v8 ⟨rfl, hb8⟩
      have hB8 := hB7.trans (hb8.mono hB7.size)
      have g0 := (hb8.cell (p := ⟨w.heap.size, 0, none⟩) z7).trans q0
      have g1 := (hb8.cell (p := ⟨w.heap.size, 1, none⟩) z7).trans q1
      have g2 := (hb8.cell (p := ⟨w.heap.size, 2, none⟩) z7).trans q2
      have z8 := Nat.lt_of_lt_of_le z7 hb8.size
      clear kc1 kc2 x37 y37 HX hB7 hb8 q0 q1 q2 i0 i1 i2 d0 d1 d2
      go_wp2_with fail
      generalize hW : World.alloc v8 _ = v9
      obtain ⟨hb9, z89, k9⟩ := alloc_facts hW
      have i0 : v9.cell? ⟨v8.heap.size, 0, none⟩ = _ := k9 0
      have i1 : v9.cell? ⟨v8.heap.size, 1, none⟩ = _ := k9 1
      have i2 : v9.cell? ⟨v8.heap.size, 2, none⟩ = _ := k9 2
      clear hW k9
      have hB9 := hB8.trans (hb9.mono hB8.size)
      have q0 := (hb9.cell (p := ⟨w.heap.size, 0, none⟩) z8).trans g0
      have q1 := (hb9.cell (p := ⟨w.heap.size, 1, none⟩) z8).trans g1
      have q2 := (hb9.cell (p := ⟨w.heap.size, 2, none⟩) z8).trans g2
      clear hb9 g0 g1 g2
      go_wp2_with fail
      go_ret
      exact ⟨rfl, hB9⟩
    · have hr' : (er == 0) = false := by simpa using hr
      clear HB
      go_wp2_with fail
      rw [kc1]
      go_wp2_with fail
      go_ret
      exact ⟨rfl, hB7⟩
end Go.Proofs.YtebdjaagdfbbgaaDoor.LLeaseBytes
