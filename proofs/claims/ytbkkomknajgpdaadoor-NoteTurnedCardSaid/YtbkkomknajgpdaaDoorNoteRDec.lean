/- What the reference's Decode of a note answers. -/
import Derived.Test.YtbkkomknajgpdaaDoorNoteDec
namespace Go.Proofs.YtbkkomknajgpdaaDoor.NoteCode
open Go.RowKit CodeSpec SumSpec NoteSpec Flat CodeMem SumMem NoteNum Note Go.Proofs.YtbkkomknajgpdaaDoorW.PrintLast
set_option linter.unusedSimpArgs false
set_option linter.unusedVariables false
set_option maxRecDepth 100000

set_option maxHeartbeats 2000000 in
theorem rdecode_note (a : Option Addr) (l : List UInt8) (cap : Nat) (w : World) (hlen : l.length ≤ 1000000) (hib : IsB w w.heap.size a l) (hlc : l.length ≤ cap) (hcm : cap ≤ maxLen) :
    Calls Tryd.prog 13 #[.slice a l.length cap] w (NDPost (ndecR l) w) := by
  have HF := fun W (h : Below w.heap.size w W) => rfirst_any a l cap W hlen (isB_up hib h) hlc hcm
  have HFS := fun x k => @first_le l x k
  have HND : ndecR l = ndecT (firstS l) (l.length : Int) := rfl
  generalize firstS l = T at HF HFS HND
  obtain ⟨y, kk, er⟩ := T
  unfold ndecT at HND
  dsimp only at HND
  by_cases he : er = 0
  · subst he
    have hk := HFS _ _ rfl
    by_cases hkl : kk = (l.length : Int)
    · rw [if_neg (by simp [hkl])] at HND
      subst hkl
      have HF2 := Lib.hid HF
      have HNDH := Lib.hid HND
      clear HF HFS hk HND
      go_enter Tryd.func13, Tryd.ntmps13
      go_wp2_with fail
      refine (HF2.out _ (by repeat (first | (with_reducible exact Below.refl _ _) | (with_reducible assumption) | (with_reducible refine bw_alloc ?_) | (with_reducible refine bw_drew ?_) | (with_reducible refine bw_drewN ?_) | (with_reducible refine bw_set ?_ (by first | (simp; done) | (dsimp only; omega))) | (with_reducible refine bw_via (by assumption) ?_)))).mono ?_
      rintro r v1 ⟨a1, c1, rfl, h1, h2, h3, hb1⟩
      dsimp only at h1 h3
      obtain ⟨c_hb1, f_hb1, z_hb1⟩ := bcell hb1; have z0_hb1 := z_hb1 (w.heap.size) (by first | omega | (simp only [World.size_alloc, World.size_setCell, World.size_drew, World.heap_drewN] <;> omega)); clear z_hb1
      have hB1 : Below w.heap.size w v1 := by repeat (first | (with_reducible exact Below.refl _ _) | (with_reducible assumption) | (with_reducible refine bw_alloc ?_) | (with_reducible refine bw_drew ?_) | (with_reducible refine bw_drewN ?_) | (with_reducible refine bw_set ?_ (by first | (simp; done) | (dsimp only; omega))) | (with_reducible refine bw_via (by assumption) ?_))
      go_wp2_with fail
      have HD := rdecode_use nshapeS a1 y c1 v1 (by unfold maxLen; decide) h3 h1 h2
      rw [nshapeS_list] at HD
      refine HD.mono ?_
      clear HD HF2 h1 h2 h3
      generalize hD : dec nshape y = D at HNDH
      obtain ⟨vs, n⟩ := D
      rintro r v2 ⟨vv, rfl, hv, _, hb2⟩
      dsimp only at hv
      have hB2 : Below w.heap.size w v2 := hB1.trans (hb2.mono hB1.size)
      have hb12 := hb1.trans (hb2.mono hb1.size)
      clear c_hb1 f_hb1 z0_hb1 hb1 hb2 hB1
      obtain ⟨c_hb12, f_hb12, z_hb12⟩ := bcell hb12; have z0_hb12 := z_hb12 (w.heap.size) (by first | omega | (simp only [World.size_alloc, World.size_setCell, World.size_drew, World.heap_drewN] <;> omega)); clear z_hb12
      obtain ⟨a2, c2, rfl, _, _, hcells⟩ := hv
      by_cases hn : n = 0
      · subst hn
        obtain ⟨k, m, tx, ep, v, mk, mf, mt, me, mc, rfl, g1, g2, g3, g4, g5, g6, g7, g8, g9, g10⟩ := ndec hD
        obtain ⟨b2, off, rfl, hb2, hcells⟩ := hcells (Nat.zero_lt_succ 9)
        clear hD
        rw [show (nvals k m tx ep v mk mf mt me mc).length = 10 from rfl]
        go_wp2_with fail
        have d : ∀ (i : Nat) (h : i < 10), v2.cell? ⟨b2, off + i * 2, none⟩ = some (.int .u64 ((nvals k m tx ep v mk mf mt me mc)[i].n : Int)) := fun i h => (hcells i h).1
        have d0 : v2.cell? ⟨b2, off, none⟩ = some (.int .u64 (k : Int)) := d 0 (by decide)
        have d1 : v2.cell? ⟨b2, off + 2, none⟩ = some (.int .u64 (m : Int)) := d 1 (by decide)
        have d2 : v2.cell? ⟨b2, off + 4, none⟩ = some (.int .u64 (tx : Int)) := d 2 (by decide)
        have d3 : v2.cell? ⟨b2, off + 6, none⟩ = some (.int .u64 (ep : Int)) := d 3 (by decide)
        have d4 : v2.cell? ⟨b2, off + 8, none⟩ = some (.int .u64 (v : Int)) := d 4 (by decide)
        have d5 : v2.cell? ⟨b2, off + 10, none⟩ = some (.int .u64 (mk : Int)) := d 5 (by decide)
        have d6 : v2.cell? ⟨b2, off + 12, none⟩ = some (.int .u64 (mf : Int)) := d 6 (by decide)
        have d7 : v2.cell? ⟨b2, off + 14, none⟩ = some (.int .u64 (mt : Int)) := d 7 (by decide)
        have d8 : v2.cell? ⟨b2, off + 16, none⟩ = some (.int .u64 (me : Int)) := d 8 (by decide)
        have d9 : v2.cell? ⟨b2, off + 18 + 1, none⟩ = some (.string mc) := (hcells 9 (Nat.lt_succ_self 9)).2
        have HB2 := Lib.hid hb12
        have HBW := Lib.hid hB2
        clear hb12 c_hb12 f_hb12 z0_hb12 hB2 hcells d
        have hw64 : ∀ x : Nat, x < 4294967296 → wrap64 (x : Int) = x := fun x h => by unfold wrap64; omega
        have HW := Lib.hid hw64
        clear hw64
        refine start_ (n := 28) (S := fun w' => w'.cell? ⟨b2, off, none⟩ = some (.int .u64 (k : Int)) ∧ w'.cell? ⟨b2, off + 2, none⟩ = some (.int .u64 (m : Int)) ∧ w'.cell? ⟨b2, off + 4, none⟩ = some (.int .u64 (tx : Int)) ∧ w'.cell? ⟨b2, off + 6, none⟩ = some (.int .u64 (ep : Int)) ∧ w'.cell? ⟨b2, off + 8, none⟩ = some (.int .u64 (v : Int))) (ds := [27]) #[false, false, false, false, false, false, false, false, false, false, false, false, false, false, false, false, false, false, false, false, false, false, false, false, false, false, false, false] (by kernel_rfl) rfl rfl ⟨d0, d1, d2, d3, d4⟩ (fun hHeld => ?_)
        refine pure_ (i := 0) (N := some 33) (v := ?_) (a' := ?_) #[true, false, false, false, false, false, false, false, false, false, false, false, false, false, false, false, false, false, false, false, false, false, false, false, false, false, false, false] rfl rfl (by kernel_rfl) (fun _ _ _ h => h) (Or.inl ⟨by rfl, ?_⟩) ?_ ?_
        rotate_left
        · intro w'
          go_simp
          with_reducible rfl
        rotate_left
        · simp only [Act.put, List.setIfInBounds_toArray, List.set_cons_zero, List.set_cons_succ, i64_w, i32_w]
          rfl
        refine pure_ (i := 1) (N := some 34) (v := ?_) (a' := ?_) #[true, true, false, false, false, false, false, false, false, false, false, false, false, false, false, false, false, false, false, false, false, false, false, false, false, false, false, false] rfl rfl (by kernel_rfl) (fun _ _ _ h => h) (Or.inl ⟨by rfl, ?_⟩) ?_ ?_
        rotate_left
        · intro w'
          go_simp
          with_reducible rfl
        rotate_left
        · simp only [Act.put, List.setIfInBounds_toArray, List.set_cons_zero, List.set_cons_succ, i64_w, i32_w]
          rfl
        refine pure_ (i := 2) (N := some 35) (v := ?_) (a' := ?_) #[true, true, true, false, false, false, false, false, false, false, false, false, false, false, false, false, false, false, false, false, false, false, false, false, false, false, false, false] rfl rfl (by kernel_rfl) (fun _ _ _ h => h) (Or.inl ⟨by rfl, ?_⟩) ?_ ?_
        rotate_left
        · intro w'
          go_simp
          with_reducible rfl
        rotate_left
        · simp only [Act.put, List.setIfInBounds_toArray, List.set_cons_zero, List.set_cons_succ, i64_w, i32_w]
          rfl
        refine pure_ (i := 5) (N := some 38) (v := ?_) (a' := ?_) #[true, true, true, false, false, true, false, false, false, false, false, false, false, false, false, false, false, false, false, false, false, false, false, false, false, false, false, false] rfl rfl (by kernel_rfl) (fun _ _ _ h => h) (Or.inl ⟨by rfl, ?_⟩) ?_ ?_
        rotate_left
        · intro w'
          go_simp
          with_reducible rfl
        rotate_left
        · simp only [Act.put, List.setIfInBounds_toArray, List.set_cons_zero, List.set_cons_succ, i64_w, i32_w]
          rfl
        refine pure_ (i := 6) (N := some 39) (v := ?_) (a' := ?_) #[true, true, true, false, false, true, true, false, false, false, false, false, false, false, false, false, false, false, false, false, false, false, false, false, false, false, false, false] rfl rfl (by kernel_rfl) (fun _ _ _ h => h) (Or.inl ⟨by rfl, ?_⟩) ?_ ?_
        rotate_left
        · intro w'
          go_simp
          with_reducible rfl
        rotate_left
        · simp only [Act.put, List.setIfInBounds_toArray, List.set_cons_zero, List.set_cons_succ, i64_w, i32_w]
          rfl
        refine pure_ (i := 7) (N := some 40) (v := ?_) (a' := ?_) #[true, true, true, false, false, true, true, true, false, false, false, false, false, false, false, false, false, false, false, false, false, false, false, false, false, false, false, false] rfl rfl (by kernel_rfl) (fun _ _ _ h => h) (Or.inl ⟨by rfl, ?_⟩) ?_ ?_
        rotate_left
        · intro w'
          go_simp
          with_reducible rfl
        rotate_left
        · simp only [Act.put, List.setIfInBounds_toArray, List.set_cons_zero, List.set_cons_succ, i64_w, i32_w]
          rfl
        refine pure_ (i := 10) (N := some 43) (v := ?_) (a' := ?_) #[true, true, true, false, false, true, true, true, false, false, true, false, false, false, false, false, false, false, false, false, false, false, false, false, false, false, false, false] rfl rfl (by kernel_rfl) (fun _ _ _ h => h) (Or.inl ⟨by rfl, ?_⟩) ?_ ?_
        rotate_left
        · intro w'
          go_simp
          with_reducible rfl
        rotate_left
        · simp only [Act.put, List.setIfInBounds_toArray, List.set_cons_zero, List.set_cons_succ, i64_w, i32_w]
          rfl
        refine pure_ (i := 11) (N := some 44) (v := ?_) (a' := ?_) #[true, true, true, false, false, true, true, true, false, false, true, true, false, false, false, false, false, false, false, false, false, false, false, false, false, false, false, false] rfl rfl (by kernel_rfl) (fun _ _ _ h => h) (Or.inl ⟨by rfl, ?_⟩) ?_ ?_
        rotate_left
        · intro w'
          go_simp
          with_reducible rfl
        rotate_left
        · simp only [Act.put, List.setIfInBounds_toArray, List.set_cons_zero, List.set_cons_succ, i64_w, i32_w]
          rfl
        refine pure_ (i := 12) (N := some 45) (v := ?_) (a' := ?_) #[true, true, true, false, false, true, true, true, false, false, true, true, true, false, false, false, false, false, false, false, false, false, false, false, false, false, false, false] rfl rfl (by kernel_rfl) (fun _ _ _ h => h) (Or.inl ⟨by rfl, ?_⟩) ?_ ?_
        rotate_left
        · intro w'
          go_simp
          with_reducible rfl
        rotate_left
        · simp only [Act.put, List.setIfInBounds_toArray, List.set_cons_zero, List.set_cons_succ, i64_w, i32_w]
          rfl
        refine pure_ (i := 15) (N := some 48) (v := ?_) (a' := ?_) #[true, true, true, false, false, true, true, true, false, false, true, true, true, false, false, true, false, false, false, false, false, false, false, false, false, false, false, false] rfl rfl (by kernel_rfl) (fun _ _ _ h => h) (Or.inl ⟨by rfl, ?_⟩) ?_ ?_
        rotate_left
        · intro w'
          go_simp
          with_reducible rfl
        rotate_left
        · simp only [Act.put, List.setIfInBounds_toArray, List.set_cons_zero, List.set_cons_succ, i64_w, i32_w]
          rfl
        refine pure_ (i := 16) (N := some 49) (v := ?_) (a' := ?_) #[true, true, true, false, false, true, true, true, false, false, true, true, true, false, false, true, true, false, false, false, false, false, false, false, false, false, false, false] rfl rfl (by kernel_rfl) (fun _ _ _ h => h) (Or.inl ⟨by rfl, ?_⟩) ?_ ?_
        rotate_left
        · intro w'
          go_simp
          with_reducible rfl
        rotate_left
        · simp only [Act.put, List.setIfInBounds_toArray, List.set_cons_zero, List.set_cons_succ, i64_w, i32_w]
          rfl
        refine pure_ (i := 17) (N := some 50) (v := ?_) (a' := ?_) #[true, true, true, false, false, true, true, true, false, false, true, true, true, false, false, true, true, true, false, false, false, false, false, false, false, false, false, false] rfl rfl (by kernel_rfl) (fun _ _ _ h => h) (Or.inl ⟨by rfl, ?_⟩) ?_ ?_
        rotate_left
        · intro w'
          go_simp
          with_reducible rfl
        rotate_left
        · simp only [Act.put, List.setIfInBounds_toArray, List.set_cons_zero, List.set_cons_succ, i64_w, i32_w]
          rfl
        refine pure_ (i := 20) (N := some 53) (v := ?_) (a' := ?_) #[true, true, true, false, false, true, true, true, false, false, true, true, true, false, false, true, true, true, false, false, true, false, false, false, false, false, false, false] rfl rfl (by kernel_rfl) (fun _ _ _ h => h) (Or.inl ⟨by rfl, ?_⟩) ?_ ?_
        rotate_left
        · intro w'
          go_simp
          with_reducible rfl
        rotate_left
        · simp only [Act.put, List.setIfInBounds_toArray, List.set_cons_zero, List.set_cons_succ, i64_w, i32_w]
          rfl
        refine pure_ (i := 21) (N := some 54) (v := ?_) (a' := ?_) #[true, true, true, false, false, true, true, true, false, false, true, true, true, false, false, true, true, true, false, false, true, true, false, false, false, false, false, false] rfl rfl (by kernel_rfl) (fun _ _ _ h => h) (Or.inl ⟨by rfl, ?_⟩) ?_ ?_
        rotate_left
        · intro w'
          go_simp
          with_reducible rfl
        rotate_left
        · simp only [Act.put, List.setIfInBounds_toArray, List.set_cons_zero, List.set_cons_succ, i64_w, i32_w]
          rfl
        refine pure_ (i := 22) (N := some 55) (v := ?_) (a' := ?_) #[true, true, true, false, false, true, true, true, false, false, true, true, true, false, false, true, true, true, false, false, true, true, true, false, false, false, false, false] rfl rfl (by kernel_rfl) (fun _ _ _ h => h) (Or.inl ⟨by rfl, ?_⟩) ?_ ?_
        rotate_left
        · intro w'
          go_simp
          with_reducible rfl
        rotate_left
        · simp only [Act.put, List.setIfInBounds_toArray, List.set_cons_zero, List.set_cons_succ, i64_w, i32_w]
          rfl
        refine take_ (i := 3) (N := some 36) (v := ?_) (a' := ?_) #[true, true, true, true, false, true, true, true, false, false, true, true, true, false, false, true, true, true, false, false, true, true, true, false, false, false, false, false] rfl rfl (by kernel_rfl) (fun _ _ _ h => h) (Or.inl ⟨by rfl, ?_⟩) hHeld ?_ ?_
        rotate_left
        · rintro w' ⟨s0, s1, s2, s3, s4⟩
          go_simp
          with_reducible rfl
        rotate_left
        · simp only [Act.put, List.setIfInBounds_toArray, List.set_cons_zero, List.set_cons_succ, i64_w, i32_w]
          rfl
        refine pure_ (i := 4) (N := some 37) (v := ?_) (a' := ?_) #[true, true, true, true, true, true, true, true, false, false, true, true, true, false, false, true, true, true, false, false, true, true, true, false, false, false, false, false] rfl rfl (by kernel_rfl) (fun _ _ _ h => h) (Or.inl ⟨by rfl, ?_⟩) ?_ ?_
        rotate_left
        · intro w'
          go_simp
          with_reducible rfl
        rotate_left
        · simp only [Act.put, List.setIfInBounds_toArray, List.set_cons_zero, List.set_cons_succ, i64_w, i32_w]
          rfl
        refine take_ (i := 8) (N := some 41) (v := ?_) (a' := ?_) #[true, true, true, true, true, true, true, true, true, false, true, true, true, false, false, true, true, true, false, false, true, true, true, false, false, false, false, false] rfl rfl (by kernel_rfl) (fun _ _ _ h => h) (Or.inl ⟨by rfl, ?_⟩) hHeld ?_ ?_
        rotate_left
        · rintro w' ⟨s0, s1, s2, s3, s4⟩
          go_simp
          with_reducible rfl
        rotate_left
        · simp only [Act.put, List.setIfInBounds_toArray, List.set_cons_zero, List.set_cons_succ, i64_w, i32_w]
          rfl
        refine pure_ (i := 9) (N := some 42) (v := ?_) (a' := ?_) #[true, true, true, true, true, true, true, true, true, true, true, true, true, false, false, true, true, true, false, false, true, true, true, false, false, false, false, false] rfl rfl (by kernel_rfl) (fun _ _ _ h => h) (Or.inl ⟨by rfl, ?_⟩) ?_ ?_
        rotate_left
        · intro w'
          go_simp
          with_reducible rfl
        rotate_left
        · simp only [Act.put, List.setIfInBounds_toArray, List.set_cons_zero, List.set_cons_succ, i64_w, i32_w]
          rfl
        refine take_ (i := 13) (N := some 46) (v := ?_) (a' := ?_) #[true, true, true, true, true, true, true, true, true, true, true, true, true, true, false, true, true, true, false, false, true, true, true, false, false, false, false, false] rfl rfl (by kernel_rfl) (fun _ _ _ h => h) (Or.inl ⟨by rfl, ?_⟩) hHeld ?_ ?_
        rotate_left
        · rintro w' ⟨s0, s1, s2, s3, s4⟩
          go_simp
          with_reducible rfl
        rotate_left
        · simp only [Act.put, List.setIfInBounds_toArray, List.set_cons_zero, List.set_cons_succ, i64_w, i32_w]
          rfl
        refine pure_ (i := 14) (N := some 47) (v := ?_) (a' := ?_) #[true, true, true, true, true, true, true, true, true, true, true, true, true, true, true, true, true, true, false, false, true, true, true, false, false, false, false, false] rfl rfl (by kernel_rfl) (fun _ _ _ h => h) (Or.inl ⟨by rfl, ?_⟩) ?_ ?_
        rotate_left
        · intro w'
          go_simp
          with_reducible rfl
        rotate_left
        · simp only [Act.put, List.setIfInBounds_toArray, List.set_cons_zero, List.set_cons_succ, i64_w, i32_w]
          rfl
        refine take_ (i := 18) (N := some 51) (v := ?_) (a' := ?_) #[true, true, true, true, true, true, true, true, true, true, true, true, true, true, true, true, true, true, true, false, true, true, true, false, false, false, false, false] rfl rfl (by kernel_rfl) (fun _ _ _ h => h) (Or.inl ⟨by rfl, ?_⟩) hHeld ?_ ?_
        rotate_left
        · rintro w' ⟨s0, s1, s2, s3, s4⟩
          go_simp
          with_reducible rfl
        rotate_left
        · simp only [Act.put, List.setIfInBounds_toArray, List.set_cons_zero, List.set_cons_succ, i64_w, i32_w]
          rfl
        refine pure_ (i := 19) (N := some 52) (v := ?_) (a' := ?_) #[true, true, true, true, true, true, true, true, true, true, true, true, true, true, true, true, true, true, true, true, true, true, true, false, false, false, false, false] rfl rfl (by kernel_rfl) (fun _ _ _ h => h) (Or.inl ⟨by rfl, ?_⟩) ?_ ?_
        rotate_left
        · intro w'
          go_simp
          with_reducible rfl
        rotate_left
        · simp only [Act.put, List.setIfInBounds_toArray, List.set_cons_zero, List.set_cons_succ, i64_w, i32_w]
          rfl
        refine take_ (i := 23) (N := some 56) (v := ?_) (a' := ?_) #[true, true, true, true, true, true, true, true, true, true, true, true, true, true, true, true, true, true, true, true, true, true, true, true, false, false, false, false] rfl rfl (by kernel_rfl) (fun _ _ _ h => h) (Or.inl ⟨by rfl, ?_⟩) hHeld ?_ ?_
        rotate_left
        · rintro w' ⟨s0, s1, s2, s3, s4⟩
          go_simp
          with_reducible rfl
        rotate_left
        · simp only [Act.put, List.setIfInBounds_toArray, List.set_cons_zero, List.set_cons_succ, i64_w, i32_w]
          rfl
        refine pure_ (i := 24) (N := some 57) (v := ?_) (a' := ?_) #[true, true, true, true, true, true, true, true, true, true, true, true, true, true, true, true, true, true, true, true, true, true, true, true, true, false, false, false] rfl rfl (by kernel_rfl) (fun _ _ _ h => h) (Or.inl ⟨by rfl, ?_⟩) ?_ ?_
        rotate_left
        · intro w'
          go_simp
          with_reducible rfl
        rotate_left
        · simp only [Act.put, List.setIfInBounds_toArray, List.set_cons_zero, List.set_cons_succ, i64_w, i32_w]
          rfl
        refine pure_ (i := 25) (N := some 58) (v := ?_) (a' := ?_) #[true, true, true, true, true, true, true, true, true, true, true, true, true, true, true, true, true, true, true, true, true, true, true, true, true, true, false, false] rfl rfl (by kernel_rfl) (fun _ _ _ h => h) (Or.inl ⟨by rfl, ?_⟩) ?_ ?_
        rotate_left
        · intro w'
          go_simp
          with_reducible rfl
        rotate_left
        · simp only [Act.put, List.setIfInBounds_toArray, List.set_cons_zero, List.set_cons_succ, i64_w, i32_w]
          rfl
        refine one_ (i := 26) (N := some 9) #[true, true, true, true, true, true, true, true, true, true, true, true, true, true, true, true, true, true, true, true, true, true, true, true, true, true, true, false] rfl rfl (by kernel_rfl) (by decide) (fun K hK => ?_)
        refine value_ (w1 := ?_) (v := ?_) (by rfl) rfl ?_ ?_
        rotate_left 2
        · go_simp
          constructor
          · rfl
          · rfl
        refine hK.out _ _ ⟨((bw_alloc (Below.refl _ _)).cell (p := ⟨b2, _, none⟩) (by show b2 < _; first | exact hb2 | (simp; omega))).trans hHeld.1, ((bw_alloc (Below.refl _ _)).cell (p := ⟨b2, _, none⟩) (by show b2 < _; first | exact hb2 | (simp; omega))).trans hHeld.2.1, ((bw_alloc (Below.refl _ _)).cell (p := ⟨b2, _, none⟩) (by show b2 < _; first | exact hb2 | (simp; omega))).trans hHeld.2.2.1, ((bw_alloc (Below.refl _ _)).cell (p := ⟨b2, _, none⟩) (by show b2 < _; first | exact hb2 | (simp; omega))).trans hHeld.2.2.2.1, ((bw_alloc (Below.refl _ _)).cell (p := ⟨b2, _, none⟩) (by show b2 < _; first | exact hb2 | (simp; omega))).trans hHeld.2.2.2.2⟩ (fun hHeld => ?_)
        clear hK K
        refine norm_ (a' := ?_) ?_ ?_
        rotate_left
        · show Act.put _ (some 9) _ = _
          simp only [Act.put, List.setIfInBounds_toArray, List.set_cons_zero, List.set_cons_succ, i64_w, i32_w]
          rfl
        refine last_ (i := 27) (N := none) #[true, true, true, true, true, true, true, true, true, true, true, true, true, true, true, true, true, true, true, true, true, true, true, true, true, true, true, true] rfl rfl (by kernel_rfl) (by decide) (fun K hK => ?_)
        refine skip_ (w1 := ?_) (by rfl) rfl ?_ ?_
        rotate_left
        · go_simp
          rfl
        refine hK.out _ _ ?_
        clear hK K
        refine done_ (by kernel_rfl) ?_

        rw [HW.out k (by omega), HW.out tx (by omega), HW.out ep (by omega), HW.out v (by omega), u8_wrap m g2]
        generalize hv4 : World.drew (World.alloc v2 _) = v4
        have hb4 : Below v2.heap.size v2 v4 := by rw [← hv4]; exact ((Below.refl _ v2).alloc (Nat.le_refl _) _).drew
        have e5 := (hb4.cell (p := ⟨b2, off + 10, none⟩) hb2).trans d5
        have e6 := (hb4.cell (p := ⟨b2, off + 12, none⟩) hb2).trans d6
        have e7 := (hb4.cell (p := ⟨b2, off + 14, none⟩) hb2).trans d7
        have e8 := (hb4.cell (p := ⟨b2, off + 16, none⟩) hb2).trans d8
        have e9 := (hb4.cell (p := ⟨b2, off + 18 + 1, none⟩) hb2).trans d9
        have HB4 := Lib.hid (HB2.out.trans (hb4.mono HB2.out.size))
        clear hb4
        generalize hg : v2.heap.size = g at *
        have hz4 : g < v4.heap.size := by rw [← hv4, ← hg]; simp
        have fz : ∀ o, v4.frozen? ⟨g, o, none⟩ = false := by intro o; rw [← hv4, ← hg]; simp [go_sem]
        have n0 : v4.cell? ⟨g, 0, none⟩ = some (.int .i64 (k : Int)) := by rw [← hv4, ← hg]; simp [go_sem]
        have n1 : v4.cell? ⟨g, 1, none⟩ = some (.int .u8 (m : Int)) := by rw [← hv4, ← hg]; simp [go_sem]
        have n2 : v4.cell? ⟨g, 2, none⟩ = some (.int .i64 (tx : Int)) := by rw [← hv4, ← hg]; simp [go_sem]
        have n3 : v4.cell? ⟨g, 3, none⟩ = some (.int .i64 (ep : Int)) := by rw [← hv4, ← hg]; simp [go_sem]
        have n4 : v4.cell? ⟨g, 4, none⟩ = some (.int .i64 (v : Int)) := by rw [← hv4, ← hg]; simp [go_sem]
        have n5 : v4.cell? ⟨g, 5, none⟩ = some (.int .i64 0) := by rw [← hv4, ← hg]; simp [go_sem]
        have n6 : v4.cell? ⟨g, 6, none⟩ = some (.int .u8 0) := by rw [← hv4, ← hg]; simp [go_sem]
        have n7 : v4.cell? ⟨g, 7, none⟩ = some (.int .u8 0) := by rw [← hv4, ← hg]; simp [go_sem]
        have n8 : v4.cell? ⟨g, 8, none⟩ = some (.int .i64 0) := by rw [← hv4, ← hg]; simp [go_sem]
        have n9 : v4.cell? ⟨g, 9, none⟩ = some (.string ⟨#[]⟩) := by rw [← hv4, ← hg]; simp [go_sem]
        have hwg : w.heap.size < g := by have := HB2.out.size; simp at this; omega
        clear hv4 HB2 HBW hb2 hg d0 d1 d2 d3 d4 d5 d6 d7 d8 d9
        go_wp2_with fail
        refine start_ (n := 27) (S := fun w' => w'.cell? ⟨b2, off + 10, none⟩ = some (.int .u64 (mk : Int)) ∧ w'.cell? ⟨b2, off + 12, none⟩ = some (.int .u64 (mf : Int)) ∧ w'.cell? ⟨b2, off + 14, none⟩ = some (.int .u64 (mt : Int)) ∧ w'.cell? ⟨b2, off + 16, none⟩ = some (.int .u64 (me : Int)) ∧ w'.cell? ⟨b2, off + 18 + 1, none⟩ = some (.string mc)) (ds := [26]) #[false, false, false, false, false, false, false, false, false, false, false, false, false, false, false, false, false, false, false, false, false, false, false, false, false, false, false] (by kernel_rfl) rfl rfl ⟨e5, e6, e7, e8, e9⟩ (fun hHeld => ?_)
        refine pure_ (i := 0) (N := some 59) (v := ?_) (a' := ?_) #[true, false, false, false, false, false, false, false, false, false, false, false, false, false, false, false, false, false, false, false, false, false, false, false, false, false, false] rfl rfl (by kernel_rfl) (fun _ _ _ h => h) (Or.inl ⟨by rfl, ?_⟩) ?_ ?_
        rotate_left
        · intro w'
          go_simp
          with_reducible rfl
        rotate_left
        · simp only [Act.put, List.setIfInBounds_toArray, List.set_cons_zero, List.set_cons_succ, i64_w, i32_w]
          rfl
        refine pure_ (i := 1) (N := some 60) (v := ?_) (a' := ?_) #[true, true, false, false, false, false, false, false, false, false, false, false, false, false, false, false, false, false, false, false, false, false, false, false, false, false, false] rfl rfl (by kernel_rfl) (fun _ _ _ h => h) (Or.inl ⟨by rfl, ?_⟩) ?_ ?_
        rotate_left
        · intro w'
          go_simp
          with_reducible rfl
        rotate_left
        · simp only [Act.put, List.setIfInBounds_toArray, List.set_cons_zero, List.set_cons_succ, i64_w, i32_w]
          rfl
        refine pure_ (i := 2) (N := some 61) (v := ?_) (a' := ?_) #[true, true, true, false, false, false, false, false, false, false, false, false, false, false, false, false, false, false, false, false, false, false, false, false, false, false, false] rfl rfl (by kernel_rfl) (fun _ _ _ h => h) (Or.inl ⟨by rfl, ?_⟩) ?_ ?_
        rotate_left
        · intro w'
          go_simp
          with_reducible rfl
        rotate_left
        · simp only [Act.put, List.setIfInBounds_toArray, List.set_cons_zero, List.set_cons_succ, i64_w, i32_w]
          rfl
        refine pure_ (i := 5) (N := some 64) (v := ?_) (a' := ?_) #[true, true, true, false, false, true, false, false, false, false, false, false, false, false, false, false, false, false, false, false, false, false, false, false, false, false, false] rfl rfl (by kernel_rfl) (fun _ _ _ h => h) (Or.inl ⟨by rfl, ?_⟩) ?_ ?_
        rotate_left
        · intro w'
          go_simp
          with_reducible rfl
        rotate_left
        · simp only [Act.put, List.setIfInBounds_toArray, List.set_cons_zero, List.set_cons_succ, i64_w, i32_w]
          rfl
        refine pure_ (i := 6) (N := some 65) (v := ?_) (a' := ?_) #[true, true, true, false, false, true, true, false, false, false, false, false, false, false, false, false, false, false, false, false, false, false, false, false, false, false, false] rfl rfl (by kernel_rfl) (fun _ _ _ h => h) (Or.inl ⟨by rfl, ?_⟩) ?_ ?_
        rotate_left
        · intro w'
          go_simp
          with_reducible rfl
        rotate_left
        · simp only [Act.put, List.setIfInBounds_toArray, List.set_cons_zero, List.set_cons_succ, i64_w, i32_w]
          rfl
        refine pure_ (i := 7) (N := some 66) (v := ?_) (a' := ?_) #[true, true, true, false, false, true, true, true, false, false, false, false, false, false, false, false, false, false, false, false, false, false, false, false, false, false, false] rfl rfl (by kernel_rfl) (fun _ _ _ h => h) (Or.inl ⟨by rfl, ?_⟩) ?_ ?_
        rotate_left
        · intro w'
          go_simp
          with_reducible rfl
        rotate_left
        · simp only [Act.put, List.setIfInBounds_toArray, List.set_cons_zero, List.set_cons_succ, i64_w, i32_w]
          rfl
        refine pure_ (i := 10) (N := some 69) (v := ?_) (a' := ?_) #[true, true, true, false, false, true, true, true, false, false, true, false, false, false, false, false, false, false, false, false, false, false, false, false, false, false, false] rfl rfl (by kernel_rfl) (fun _ _ _ h => h) (Or.inl ⟨by rfl, ?_⟩) ?_ ?_
        rotate_left
        · intro w'
          go_simp
          with_reducible rfl
        rotate_left
        · simp only [Act.put, List.setIfInBounds_toArray, List.set_cons_zero, List.set_cons_succ, i64_w, i32_w]
          rfl
        refine pure_ (i := 11) (N := some 70) (v := ?_) (a' := ?_) #[true, true, true, false, false, true, true, true, false, false, true, true, false, false, false, false, false, false, false, false, false, false, false, false, false, false, false] rfl rfl (by kernel_rfl) (fun _ _ _ h => h) (Or.inl ⟨by rfl, ?_⟩) ?_ ?_
        rotate_left
        · intro w'
          go_simp
          with_reducible rfl
        rotate_left
        · simp only [Act.put, List.setIfInBounds_toArray, List.set_cons_zero, List.set_cons_succ, i64_w, i32_w]
          rfl
        refine pure_ (i := 12) (N := some 71) (v := ?_) (a' := ?_) #[true, true, true, false, false, true, true, true, false, false, true, true, true, false, false, false, false, false, false, false, false, false, false, false, false, false, false] rfl rfl (by kernel_rfl) (fun _ _ _ h => h) (Or.inl ⟨by rfl, ?_⟩) ?_ ?_
        rotate_left
        · intro w'
          go_simp
          with_reducible rfl
        rotate_left
        · simp only [Act.put, List.setIfInBounds_toArray, List.set_cons_zero, List.set_cons_succ, i64_w, i32_w]
          rfl
        refine pure_ (i := 15) (N := some 74) (v := ?_) (a' := ?_) #[true, true, true, false, false, true, true, true, false, false, true, true, true, false, false, true, false, false, false, false, false, false, false, false, false, false, false] rfl rfl (by kernel_rfl) (fun _ _ _ h => h) (Or.inl ⟨by rfl, ?_⟩) ?_ ?_
        rotate_left
        · intro w'
          go_simp
          with_reducible rfl
        rotate_left
        · simp only [Act.put, List.setIfInBounds_toArray, List.set_cons_zero, List.set_cons_succ, i64_w, i32_w]
          rfl
        refine pure_ (i := 16) (N := some 75) (v := ?_) (a' := ?_) #[true, true, true, false, false, true, true, true, false, false, true, true, true, false, false, true, true, false, false, false, false, false, false, false, false, false, false] rfl rfl (by kernel_rfl) (fun _ _ _ h => h) (Or.inl ⟨by rfl, ?_⟩) ?_ ?_
        rotate_left
        · intro w'
          go_simp
          with_reducible rfl
        rotate_left
        · simp only [Act.put, List.setIfInBounds_toArray, List.set_cons_zero, List.set_cons_succ, i64_w, i32_w]
          rfl
        refine pure_ (i := 17) (N := some 76) (v := ?_) (a' := ?_) #[true, true, true, false, false, true, true, true, false, false, true, true, true, false, false, true, true, true, false, false, false, false, false, false, false, false, false] rfl rfl (by kernel_rfl) (fun _ _ _ h => h) (Or.inl ⟨by rfl, ?_⟩) ?_ ?_
        rotate_left
        · intro w'
          go_simp
          with_reducible rfl
        rotate_left
        · simp only [Act.put, List.setIfInBounds_toArray, List.set_cons_zero, List.set_cons_succ, i64_w, i32_w]
          rfl
        refine pure_ (i := 20) (N := some 79) (v := ?_) (a' := ?_) #[true, true, true, false, false, true, true, true, false, false, true, true, true, false, false, true, true, true, false, false, true, false, false, false, false, false, false] rfl rfl (by kernel_rfl) (fun _ _ _ h => h) (Or.inl ⟨by rfl, ?_⟩) ?_ ?_
        rotate_left
        · intro w'
          go_simp
          with_reducible rfl
        rotate_left
        · simp only [Act.put, List.setIfInBounds_toArray, List.set_cons_zero, List.set_cons_succ, i64_w, i32_w]
          rfl
        refine pure_ (i := 21) (N := some 80) (v := ?_) (a' := ?_) #[true, true, true, false, false, true, true, true, false, false, true, true, true, false, false, true, true, true, false, false, true, true, false, false, false, false, false] rfl rfl (by kernel_rfl) (fun _ _ _ h => h) (Or.inl ⟨by rfl, ?_⟩) ?_ ?_
        rotate_left
        · intro w'
          go_simp
          with_reducible rfl
        rotate_left
        · simp only [Act.put, List.setIfInBounds_toArray, List.set_cons_zero, List.set_cons_succ, i64_w, i32_w]
          rfl
        refine pure_ (i := 22) (N := some 81) (v := ?_) (a' := ?_) #[true, true, true, false, false, true, true, true, false, false, true, true, true, false, false, true, true, true, false, false, true, true, true, false, false, false, false] rfl rfl (by kernel_rfl) (fun _ _ _ h => h) (Or.inl ⟨by rfl, ?_⟩) ?_ ?_
        rotate_left
        · intro w'
          go_simp
          with_reducible rfl
        rotate_left
        · simp only [Act.put, List.setIfInBounds_toArray, List.set_cons_zero, List.set_cons_succ, i64_w, i32_w]
          rfl
        refine take_ (i := 3) (N := some 62) (v := ?_) (a' := ?_) #[true, true, true, true, false, true, true, true, false, false, true, true, true, false, false, true, true, true, false, false, true, true, true, false, false, false, false] rfl rfl (by kernel_rfl) (fun _ _ _ h => h) (Or.inl ⟨by rfl, ?_⟩) hHeld ?_ ?_
        rotate_left
        · rintro w' ⟨s0, s1, s2, s3, s4⟩
          go_simp
          with_reducible rfl
        rotate_left
        · simp only [Act.put, List.setIfInBounds_toArray, List.set_cons_zero, List.set_cons_succ, i64_w, i32_w]
          rfl
        refine pure_ (i := 4) (N := some 63) (v := ?_) (a' := ?_) #[true, true, true, true, true, true, true, true, false, false, true, true, true, false, false, true, true, true, false, false, true, true, true, false, false, false, false] rfl rfl (by kernel_rfl) (fun _ _ _ h => h) (Or.inl ⟨by rfl, ?_⟩) ?_ ?_
        rotate_left
        · intro w'
          go_simp
          with_reducible rfl
        rotate_left
        · simp only [Act.put, List.setIfInBounds_toArray, List.set_cons_zero, List.set_cons_succ, i64_w, i32_w]
          rfl
        refine take_ (i := 8) (N := some 67) (v := ?_) (a' := ?_) #[true, true, true, true, true, true, true, true, true, false, true, true, true, false, false, true, true, true, false, false, true, true, true, false, false, false, false] rfl rfl (by kernel_rfl) (fun _ _ _ h => h) (Or.inl ⟨by rfl, ?_⟩) hHeld ?_ ?_
        rotate_left
        · rintro w' ⟨s0, s1, s2, s3, s4⟩
          go_simp
          with_reducible rfl
        rotate_left
        · simp only [Act.put, List.setIfInBounds_toArray, List.set_cons_zero, List.set_cons_succ, i64_w, i32_w]
          rfl
        refine pure_ (i := 9) (N := some 68) (v := ?_) (a' := ?_) #[true, true, true, true, true, true, true, true, true, true, true, true, true, false, false, true, true, true, false, false, true, true, true, false, false, false, false] rfl rfl (by kernel_rfl) (fun _ _ _ h => h) (Or.inl ⟨by rfl, ?_⟩) ?_ ?_
        rotate_left
        · intro w'
          go_simp
          with_reducible rfl
        rotate_left
        · simp only [Act.put, List.setIfInBounds_toArray, List.set_cons_zero, List.set_cons_succ, i64_w, i32_w]
          rfl
        refine take_ (i := 13) (N := some 72) (v := ?_) (a' := ?_) #[true, true, true, true, true, true, true, true, true, true, true, true, true, true, false, true, true, true, false, false, true, true, true, false, false, false, false] rfl rfl (by kernel_rfl) (fun _ _ _ h => h) (Or.inl ⟨by rfl, ?_⟩) hHeld ?_ ?_
        rotate_left
        · rintro w' ⟨s0, s1, s2, s3, s4⟩
          go_simp
          with_reducible rfl
        rotate_left
        · simp only [Act.put, List.setIfInBounds_toArray, List.set_cons_zero, List.set_cons_succ, i64_w, i32_w]
          rfl
        refine pure_ (i := 14) (N := some 73) (v := ?_) (a' := ?_) #[true, true, true, true, true, true, true, true, true, true, true, true, true, true, true, true, true, true, false, false, true, true, true, false, false, false, false] rfl rfl (by kernel_rfl) (fun _ _ _ h => h) (Or.inl ⟨by rfl, ?_⟩) ?_ ?_
        rotate_left
        · intro w'
          go_simp
          with_reducible rfl
        rotate_left
        · simp only [Act.put, List.setIfInBounds_toArray, List.set_cons_zero, List.set_cons_succ, i64_w, i32_w]
          rfl
        refine take_ (i := 18) (N := some 77) (v := ?_) (a' := ?_) #[true, true, true, true, true, true, true, true, true, true, true, true, true, true, true, true, true, true, true, false, true, true, true, false, false, false, false] rfl rfl (by kernel_rfl) (fun _ _ _ h => h) (Or.inl ⟨by rfl, ?_⟩) hHeld ?_ ?_
        rotate_left
        · rintro w' ⟨s0, s1, s2, s3, s4⟩
          go_simp
          with_reducible rfl
        rotate_left
        · simp only [Act.put, List.setIfInBounds_toArray, List.set_cons_zero, List.set_cons_succ, i64_w, i32_w]
          rfl
        refine pure_ (i := 19) (N := some 78) (v := ?_) (a' := ?_) #[true, true, true, true, true, true, true, true, true, true, true, true, true, true, true, true, true, true, true, true, true, true, true, false, false, false, false] rfl rfl (by kernel_rfl) (fun _ _ _ h => h) (Or.inl ⟨by rfl, ?_⟩) ?_ ?_
        rotate_left
        · intro w'
          go_simp
          with_reducible rfl
        rotate_left
        · simp only [Act.put, List.setIfInBounds_toArray, List.set_cons_zero, List.set_cons_succ, i64_w, i32_w]
          rfl
        refine take_ (i := 23) (N := some 82) (v := ?_) (a' := ?_) #[true, true, true, true, true, true, true, true, true, true, true, true, true, true, true, true, true, true, true, true, true, true, true, true, false, false, false] rfl rfl (by kernel_rfl) (fun _ _ _ h => h) (Or.inl ⟨by rfl, ?_⟩) hHeld ?_ ?_
        rotate_left
        · rintro w' ⟨s0, s1, s2, s3, s4⟩
          go_simp
          with_reducible rfl
        rotate_left
        · simp only [Act.put, List.setIfInBounds_toArray, List.set_cons_zero, List.set_cons_succ, i64_w, i32_w]
          rfl
        refine pure_ (i := 24) (N := some 83) (v := ?_) (a' := ?_) #[true, true, true, true, true, true, true, true, true, true, true, true, true, true, true, true, true, true, true, true, true, true, true, true, true, false, false] rfl rfl (by kernel_rfl) (fun _ _ _ h => h) (Or.inl ⟨by rfl, ?_⟩) ?_ ?_
        rotate_left
        · intro w'
          go_simp
          with_reducible rfl
        rotate_left
        · simp only [Act.put, List.setIfInBounds_toArray, List.set_cons_zero, List.set_cons_succ, i64_w, i32_w]
          rfl
        refine pure_ (i := 25) (N := some 84) (v := ?_) (a' := ?_) #[true, true, true, true, true, true, true, true, true, true, true, true, true, true, true, true, true, true, true, true, true, true, true, true, true, true, false] rfl rfl (by kernel_rfl) (fun _ _ _ h => h) (Or.inl ⟨by rfl, ?_⟩) ?_ ?_
        rotate_left
        · intro w'
          go_simp
          with_reducible rfl
        rotate_left
        · simp only [Act.put, List.setIfInBounds_toArray, List.set_cons_zero, List.set_cons_succ, i64_w, i32_w]
          rfl
        refine last_ (i := 26) (N := none) #[true, true, true, true, true, true, true, true, true, true, true, true, true, true, true, true, true, true, true, true, true, true, true, true, true, true, true] rfl rfl (by kernel_rfl) (by decide) (fun K hK => ?_)
        refine skip_ (w1 := ?_) (by rfl) rfl ?_ ?_
        rotate_left
        · go_simp
          rfl
        refine hK.out _ _ ?_
        clear hK K
        refine done_ (by kernel_rfl) ?_

        rw [HW.out mk (by omega), HW.out me (by omega), u8_wrap mf g7, u8_wrap mt g8]
        generalize hv5 : World.drew (World.setCell _ _ _) = v5
        have hg2 : g < v5.heap.size := by rw [← hv5]; simpa using hz4
        have m0 : v5.cell? ⟨g, 0, none⟩ = some (.int .i64 (k : Int)) := by rw [← hv5]; simp [go_sem, n0, n1, n2, n3, n4, n5, n6, n7, n8, n9]
        have m1 : v5.cell? ⟨g, 1, none⟩ = some (.int .u8 (m : Int)) := by rw [← hv5]; simp [go_sem, n0, n1, n2, n3, n4, n5, n6, n7, n8, n9]
        have m2 : v5.cell? ⟨g, 2, none⟩ = some (.int .i64 (tx : Int)) := by rw [← hv5]; simp [go_sem, n0, n1, n2, n3, n4, n5, n6, n7, n8, n9]
        have m3 : v5.cell? ⟨g, 3, none⟩ = some (.int .i64 (ep : Int)) := by rw [← hv5]; simp [go_sem, n0, n1, n2, n3, n4, n5, n6, n7, n8, n9]
        have m4 : v5.cell? ⟨g, 4, none⟩ = some (.int .i64 (v : Int)) := by rw [← hv5]; simp [go_sem, n0, n1, n2, n3, n4, n5, n6, n7, n8, n9]
        have m5 : v5.cell? ⟨g, 5, none⟩ = some (.int .i64 (mk : Int)) := by rw [← hv5]; simp [go_sem, n0, n1, n2, n3, n4, n5, n6, n7, n8, n9]
        have m6 : v5.cell? ⟨g, 6, none⟩ = some (.int .u8 (mf : Int)) := by rw [← hv5]; simp [go_sem, n0, n1, n2, n3, n4, n5, n6, n7, n8, n9]
        have m7 : v5.cell? ⟨g, 7, none⟩ = some (.int .u8 (mt : Int)) := by rw [← hv5]; simp [go_sem, n0, n1, n2, n3, n4, n5, n6, n7, n8, n9]
        have m8 : v5.cell? ⟨g, 8, none⟩ = some (.int .i64 (me : Int)) := by rw [← hv5]; simp [go_sem, n0, n1, n2, n3, n4, n5, n6, n7, n8, n9]
        have m9 : v5.cell? ⟨g, 9, none⟩ = some (.string mc) := by rw [← hv5]; simp [go_sem, n0, n1, n2, n3, n4, n5, n6, n7, n8, n9]
        have hb5 : Below (w.heap.size + 1) v4 v5 := by
          rw [← hv5]
          refine Below.drew ?_
          repeat (refine Below.setCell ?_ (by show w.heap.size + 1 ≤ g; omega) _)
          exact Below.refl _ v4
        clear hv5 n0 n1 n2 n3 n4 n5 n6 n7 n8 n9 e5 e6 e7 e8 e9 fz hz4
        have hbw := HB4.out.trans (by simpa using hb5)
        have hR : ndecR l = if rightB k m tx ep v mk mf mt me mc = false then (bad, 4) else (⟨k, m, tx, ep, v, mk, mf, mt, me, mc⟩, 0) := HNDH.out
        clear HB4 hb5 HNDH hwg HW
        have HRR := Lib.hid hR
        clear hR
        go_wp2_with fail
        refine (right_ref _ _ _ _ _ _ _ _ _ _ _).mono ?_
        rintro r v4 ⟨rfl, hb4⟩
        have hb := hbw.trans (hb4.mono hbw.size)
        clear hbw
        cases hr : rightB k m tx ep v mk mf mt me mc with
        | false =>
          have HR := Lib.hid (HRR.out.trans (if_pos hr))
          clear HRR hr hb4 m0 m1 m2 m3 m4 m5 m6 m7 m8 m9
          obtain ⟨c_hb, f_hb, z_hb⟩ := bcell hb; have z0_hb := z_hb (w.heap.size) (by first | omega | (simp only [World.size_alloc, World.size_setCell, World.size_drew, World.heap_drewN] <;> omega)); clear z_hb
          go_wp2_with fail
          simp [bodyPost, results, Tryd.results13, go_sem, *]
          exact nd_bad HR.out (by repeat (first | (with_reducible exact Below.refl _ _) | (with_reducible assumption) | (with_reducible refine bw_alloc ?_) | (with_reducible refine bw_drew ?_) | (with_reducible refine bw_drewN ?_) | (with_reducible refine bw_set ?_ (by first | (simp; done) | (dsimp only; omega))) | (with_reducible refine bw_via (by assumption) ?_)))
        | true =>
          have HR := Lib.hid (HRR.out.trans (if_neg (by simp [hr])))
          have m0 := (hb4.cell (p := ⟨g, 0, none⟩) hg2).trans m0
          have m1 := (hb4.cell (p := ⟨g, 1, none⟩) hg2).trans m1
          have m2 := (hb4.cell (p := ⟨g, 2, none⟩) hg2).trans m2
          have m3 := (hb4.cell (p := ⟨g, 3, none⟩) hg2).trans m3
          have m4 := (hb4.cell (p := ⟨g, 4, none⟩) hg2).trans m4
          have m5 := (hb4.cell (p := ⟨g, 5, none⟩) hg2).trans m5
          have m6 := (hb4.cell (p := ⟨g, 6, none⟩) hg2).trans m6
          have m7 := (hb4.cell (p := ⟨g, 7, none⟩) hg2).trans m7
          have m8 := (hb4.cell (p := ⟨g, 8, none⟩) hg2).trans m8
          have m9 := (hb4.cell (p := ⟨g, 9, none⟩) hg2).trans m9
          clear HRR hr hb4 hg2
          obtain ⟨c_hb, f_hb, z_hb⟩ := bcell hb; have z0_hb := z_hb (w.heap.size) (by first | omega | (simp only [World.size_alloc, World.size_setCell, World.size_drew, World.heap_drewN] <;> omega)); clear z_hb
          go_wp2_with fail
          simp [bodyPost, results, Tryd.results13, go_sem, *]
          rw [HR.out]
          exact ⟨rfl, by repeat (first | (with_reducible exact Below.refl _ _) | (with_reducible assumption) | (with_reducible refine bw_alloc ?_) | (with_reducible refine bw_drew ?_) | (with_reducible refine bw_drewN ?_) | (with_reducible refine bw_set ?_ (by first | (simp; done) | (dsimp only; omega))) | (with_reducible refine bw_via (by assumption) ?_))⟩
      · have hne : (n == 0) = false := by simp [hn]
        have hne2 : (n != 0) = true := by simp [hn]
        have hN2 : ndecR l = (bad, 4) := by
          rw [HNDH.out]
          unfold ndecV
          split
          · rename_i e
            simp at e
            exact absurd e.2 hn
          · rfl
        have HN2 := Lib.hid hN2
        clear hN2 hn hD
        go_wp2_with fail
        simp [bodyPost, results, Tryd.results13, go_sem, *]
        exact nd_bad HN2.out (by repeat (first | (with_reducible exact Below.refl _ _) | (with_reducible assumption) | (with_reducible refine bw_alloc ?_) | (with_reducible refine bw_drew ?_) | (with_reducible refine bw_drewN ?_) | (with_reducible refine bw_set ?_ (by first | (simp; done) | (dsimp only; omega))) | (with_reducible refine bw_via (by assumption) ?_)))
    · rw [if_pos (.inr hkl)] at HND
      have hlt : kk < (l.length : Int) := by omega
      have hdl : (kk == (l.length : Int)) = false := by simp; omega
      have hdl2 : (kk != (l.length : Int)) = true := by simp; omega
      have HF2 := Lib.hid HF
      clear HF HFS hkl hk
      have HNDH := Lib.hid HND
      clear HND
      go_enter Tryd.func13, Tryd.ntmps13
      go_wp2_with fail
      refine (HF2.out _ (by repeat (first | (with_reducible exact Below.refl _ _) | (with_reducible assumption) | (with_reducible refine bw_alloc ?_) | (with_reducible refine bw_drew ?_) | (with_reducible refine bw_drewN ?_) | (with_reducible refine bw_set ?_ (by first | (simp; done) | (dsimp only; omega))) | (with_reducible refine bw_via (by assumption) ?_)))).mono ?_
      rintro r v1 ⟨a1, c1, rfl, h1, h2, h3, hb1⟩
      obtain ⟨c_hb1, f_hb1, z_hb1⟩ := bcell hb1; have z0_hb1 := z_hb1 (w.heap.size) (by first | omega | (simp only [World.size_alloc, World.size_setCell, World.size_drew, World.heap_drewN] <;> omega)); clear z_hb1
      go_wp2_with fail
      simp [bodyPost, results, Tryd.results13, go_sem, *]
      exact nd_bad HNDH.out (by repeat (first | (with_reducible exact Below.refl _ _) | (with_reducible assumption) | (with_reducible refine bw_alloc ?_) | (with_reducible refine bw_drew ?_) | (with_reducible refine bw_drewN ?_) | (with_reducible refine bw_set ?_ (by first | (simp; done) | (dsimp only; omega))) | (with_reducible refine bw_via (by assumption) ?_)))
  · rw [if_pos (.inl he)] at HND
    have hne : (er == 0) = false := by simp [he]
    have hne2 : (er != 0) = true := by simp [he]
    have HF2 := Lib.hid HF
    have HNDH := Lib.hid HND
    clear HF HFS HND he
    go_enter Tryd.func13, Tryd.ntmps13
    go_wp2_with fail
    refine (HF2.out _ (by repeat (first | (with_reducible exact Below.refl _ _) | (with_reducible assumption) | (with_reducible refine bw_alloc ?_) | (with_reducible refine bw_drew ?_) | (with_reducible refine bw_drewN ?_) | (with_reducible refine bw_set ?_ (by first | (simp; done) | (dsimp only; omega))) | (with_reducible refine bw_via (by assumption) ?_)))).mono ?_
    rintro r v1 ⟨a1, c1, rfl, h1, h2, h3, hb1⟩
    obtain ⟨c_hb1, f_hb1, z_hb1⟩ := bcell hb1; have z0_hb1 := z_hb1 (w.heap.size) (by first | omega | (simp only [World.size_alloc, World.size_setCell, World.size_drew, World.heap_drewN] <;> omega)); clear z_hb1
    go_wp2_with fail
    simp [bodyPost, results, Tryd.results13, go_sem, *]
    exact nd_bad HNDH.out (by repeat (first | (with_reducible exact Below.refl _ _) | (with_reducible assumption) | (with_reducible refine bw_alloc ?_) | (with_reducible refine bw_drew ?_) | (with_reducible refine bw_drewN ?_) | (with_reducible refine bw_set ?_ (by first | (simp; done) | (dsimp only; omega))) | (with_reducible refine bw_via (by assumption) ?_)))
end Go.Proofs.YtbkkomknajgpdaaDoor.NoteCode
