/- Two notes compared; what theirs, ours and alive answer. -/
import Derived.Test.YtbkkomknajgpdaaDoorNoteRDec
namespace Go.Proofs.YtbkkomknajgpdaaDoor.NoteCode
open Go.RowKit CodeSpec SumSpec NoteSpec Flat CodeMem SumMem NoteNum Note Go.Proofs.YtbkkomknajgpdaaDoorW.PrintLast
set_option linter.unusedSimpArgs false
set_option linter.unusedVariables false
set_option maxRecDepth 100000

theorem ba_eq {a b : ByteArray} (h : a.toList = b.toList) : a = b := by
  rw [ByteArray.toList_eq, ByteArray.toList_eq] at h
  cases a; cases b
  simpa using h
def nB (a b : N) : Bool := decide (a = b)
set_option maxHeartbeats 1000000 in
theorem note_eq (a b : N) (w : World) : (binOp .eql 33 (.agg #[.int .i64 a.k, .int .u8 a.m, .int .i64 a.tx, .int .i64 a.ep, .int .i64 a.v, .int .i64 a.hk, .int .u8 a.hf, .int .u8 a.ht, .int .i64 a.he, .string a.hc]) (.agg #[.int .i64 b.k, .int .u8 b.m, .int .i64 b.tx, .int .i64 b.ep, .int .i64 b.v, .int .i64 b.hk, .int .u8 b.hf, .int .u8 b.ht, .int .i64 b.he, .string b.hc])).run Tryd.prog w = .ok (.bool (nB a b)) w := by
  obtain ⟨a1, a2, a3, a4, a5, a6, a7, a8, a9, a10⟩ := a
  obtain ⟨b1, b2, b3, b4, b5, b6, b7, b8, b9, b10⟩ := b
  dsimp only
  unfold nB
  by_cases h1 : a1 = b1
  · subst h1
    by_cases h2 : a2 = b2
    · subst h2
      by_cases h3 : a3 = b3
      · subst h3
        by_cases h4 : a4 = b4
        · subst h4
          by_cases h5 : a5 = b5
          · subst h5
            by_cases h6 : a6 = b6
            · subst h6
              by_cases h7 : a7 = b7
              · subst h7
                by_cases h8 : a8 = b8
                · subst h8
                  by_cases h9 : a9 = b9
                  · subst h9
                    by_cases h10 : a10 = b10
                    · subst h10
                      simp [go_sem]
                    · have h10' : ¬ a10.toList = b10.toList := fun h => h10 (ba_eq h)
                      simp [go_sem, h10, h10']
                  · simp [go_sem, h9]
                · simp [go_sem, h8]
              · simp [go_sem, h7]
            · simp [go_sem, h6]
          · simp [go_sem, h5]
        · simp [go_sem, h4]
      · simp [go_sem, h3]
    · simp [go_sem, h2]
  · simp [go_sem, h1]
set_option maxHeartbeats 1000000 in
theorem rnote_eq (a b : N) (w : World) : (binOp .eql 25 (.agg #[.int .i64 a.k, .int .u8 a.m, .int .i64 a.tx, .int .i64 a.ep, .int .i64 a.v, .int .i64 a.hk, .int .u8 a.hf, .int .u8 a.ht, .int .i64 a.he, .string a.hc]) (.agg #[.int .i64 b.k, .int .u8 b.m, .int .i64 b.tx, .int .i64 b.ep, .int .i64 b.v, .int .i64 b.hk, .int .u8 b.hf, .int .u8 b.ht, .int .i64 b.he, .string b.hc])).run Tryd.prog w = .ok (.bool (nB a b)) w := by
  obtain ⟨a1, a2, a3, a4, a5, a6, a7, a8, a9, a10⟩ := a
  obtain ⟨b1, b2, b3, b4, b5, b6, b7, b8, b9, b10⟩ := b
  dsimp only
  unfold nB
  by_cases h1 : a1 = b1
  · subst h1
    by_cases h2 : a2 = b2
    · subst h2
      by_cases h3 : a3 = b3
      · subst h3
        by_cases h4 : a4 = b4
        · subst h4
          by_cases h5 : a5 = b5
          · subst h5
            by_cases h6 : a6 = b6
            · subst h6
              by_cases h7 : a7 = b7
              · subst h7
                by_cases h8 : a8 = b8
                · subst h8
                  by_cases h9 : a9 = b9
                  · subst h9
                    by_cases h10 : a10 = b10
                    · subst h10
                      simp [go_sem]
                    · have h10' : ¬ a10.toList = b10.toList := fun h => h10 (ba_eq h)
                      simp [go_sem, h10, h10']
                  · simp [go_sem, h9]
                · simp [go_sem, h8]
              · simp [go_sem, h7]
            · simp [go_sem, h6]
          · simp [go_sem, h5]
        · simp [go_sem, h4]
      · simp [go_sem, h3]
    · simp [go_sem, h2]
  · simp [go_sem, h1]
set_option maxHeartbeats 1000000 in
theorem rnote_neq (a b : N) (w : World) : (binOp .neq 25 (.agg #[.int .i64 a.k, .int .u8 a.m, .int .i64 a.tx, .int .i64 a.ep, .int .i64 a.v, .int .i64 a.hk, .int .u8 a.hf, .int .u8 a.ht, .int .i64 a.he, .string a.hc]) (.agg #[.int .i64 b.k, .int .u8 b.m, .int .i64 b.tx, .int .i64 b.ep, .int .i64 b.v, .int .i64 b.hk, .int .u8 b.hf, .int .u8 b.ht, .int .i64 b.he, .string b.hc])).run Tryd.prog w = .ok (.bool (!nB a b)) w := by
  obtain ⟨a1, a2, a3, a4, a5, a6, a7, a8, a9, a10⟩ := a
  obtain ⟨b1, b2, b3, b4, b5, b6, b7, b8, b9, b10⟩ := b
  dsimp only
  unfold nB
  by_cases h1 : a1 = b1
  · subst h1
    by_cases h2 : a2 = b2
    · subst h2
      by_cases h3 : a3 = b3
      · subst h3
        by_cases h4 : a4 = b4
        · subst h4
          by_cases h5 : a5 = b5
          · subst h5
            by_cases h6 : a6 = b6
            · subst h6
              by_cases h7 : a7 = b7
              · subst h7
                by_cases h8 : a8 = b8
                · subst h8
                  by_cases h9 : a9 = b9
                  · subst h9
                    by_cases h10 : a10 = b10
                    · subst h10
                      simp [go_sem]
                    · have h10' : ¬ a10.toList = b10.toList := fun h => h10 (ba_eq h)
                      simp [go_sem, h10, h10']
                  · simp [go_sem, h9]
                · simp [go_sem, h8]
              · simp [go_sem, h7]
            · simp [go_sem, h6]
          · simp [go_sem, h5]
        · simp [go_sem, h4]
      · simp [go_sem, h3]
    · simp [go_sem, h2]
  · simp [go_sem, h1]
def mB (k f t e : Int) (c : ByteArray) (k' f' t' e' : Int) (c' : ByteArray) : Bool := decide (k = k' ∧ f = f' ∧ t = t' ∧ e = e' ∧ c = c')
set_option maxHeartbeats 1000000 in
theorem rmsg_eq (a6 a7 a8 a9 : Int) (a10 : ByteArray) (b6 b7 b8 b9 : Int) (b10 : ByteArray) (w : World) :
    (binOp .eql 23 (.agg #[.int .i64 a6, .int .u8 a7, .int .u8 a8, .int .i64 a9, .string a10]) (.agg #[.int .i64 b6, .int .u8 b7, .int .u8 b8, .int .i64 b9, .string b10])).run Tryd.prog w = .ok (.bool (mB a6 a7 a8 a9 a10 b6 b7 b8 b9 b10)) w := by
  unfold mB
  by_cases h6 : a6 = b6
  · subst h6
    by_cases h7 : a7 = b7
    · subst h7
      by_cases h8 : a8 = b8
      · subst h8
        by_cases h9 : a9 = b9
        · subst h9
          by_cases h10 : a10 = b10
          · subst h10
            simp [go_sem]
          · have h10' : ¬ a10.toList = b10.toList := fun h => h10 (ba_eq h)
            simp [go_sem, h10, h10']
        · simp [go_sem, h9]
      · simp [go_sem, h8]
    · simp [go_sem, h7]
  · simp [go_sem, h6]

set_option maxHeartbeats 400000 in
theorem theirs_any (x : N) (w : World) : Calls Tryd.prog 10 #[.agg #[.int .i64 x.k, .int .u8 x.m, .int .i64 x.tx, .int .i64 x.ep, .int .i64 x.v, .int .i64 x.hk, .int .u8 x.hf, .int .u8 x.ht, .int .i64 x.he, .string x.hc]] w fun r w' => r = .returned (.agg #[.int .i64 x.k, .int .u8 x.m, .int .i64 x.tx, .int .i64 x.ep, .int .i64 x.v, .int .i64 x.hk, .int .u8 x.hf, .int .u8 x.ht, .int .i64 x.he, .string x.hc]) ∧ Below w.heap.size w w' := by
  go_enter Tryd.func10, Tryd.ntmps10
  go_wp2_with fail
  simp [bodyPost, results, Tryd.results10, go_sem, *]
  repeat (first | (with_reducible exact Below.refl _ _) | (with_reducible assumption) | (with_reducible refine bw_alloc ?_) | (with_reducible refine bw_drew ?_) | (with_reducible refine bw_drewN ?_) | (with_reducible refine bw_set ?_ (by first | (simp; done) | (dsimp only; omega))) | (with_reducible refine bw_via (by assumption) ?_))
set_option maxHeartbeats 400000 in
theorem ours_any (x : N) (w : World) : Calls Tryd.prog 16 #[.agg #[.int .i64 x.k, .int .u8 x.m, .int .i64 x.tx, .int .i64 x.ep, .int .i64 x.v, .int .i64 x.hk, .int .u8 x.hf, .int .u8 x.ht, .int .i64 x.he, .string x.hc]] w fun r w' => r = .returned (.agg #[.int .i64 x.k, .int .u8 x.m, .int .i64 x.tx, .int .i64 x.ep, .int .i64 x.v, .int .i64 x.hk, .int .u8 x.hf, .int .u8 x.ht, .int .i64 x.he, .string x.hc]) ∧ Below w.heap.size w w' := by
  go_enter Tryd.func16, Tryd.ntmps16
  go_wp2_with fail
  simp [bodyPost, results, Tryd.results16, go_sem, *]
  repeat (first | (with_reducible exact Below.refl _ _) | (with_reducible assumption) | (with_reducible refine bw_alloc ?_) | (with_reducible refine bw_drew ?_) | (with_reducible refine bw_drewN ?_) | (with_reducible refine bw_set ?_ (by first | (simp; done) | (dsimp only; omega))) | (with_reducible refine bw_via (by assumption) ?_))

theorem first_prefix {l : List UInt8} (h : l.length ≤ 4000) (n : Nat) (hn : n < l.length + 7) : (firstS ((frame l).take n)).2.2 ≠ 0 := by
  have hb : frame l = 1 :: UInt8.ofNat (l.length / 256 ^ 1) :: UInt8.ofNat (l.length / 256 ^ 0) :: (l ++ be 4 (sumN (body l))) := rfl
  rw [hb]
  match n, hn with
  | 0, _ => simp [firstS]
  | 1, _ => simp [firstS]
  | 2, _ => simp [firstS]
  | n + 3, hn =>
    simp only [List.take_succ_cons]
    rw [firstS, be2_val _ (by omega), if_neg (by omega), if_pos (by simp [length_be]; omega)]
    decide
theorem frame_length (l : List UInt8) : (frame l).length = l.length + 7 := by rw [frame, List.length_append, body_length, length_be]
theorem ndec_prefix {k m tx ep v mk mf mt me : Int} {mc : ByteArray} {o : List UInt8} (h : nencR k m tx ep v mk mf mt me mc = (o, 0)) (n : Nat) (hn : n < o.length) : ndecR (o.take n) = (bad, 4) := by
  unfold nencR at h
  split at h
  · cases h
  · rename_i hr
    have hr2 : rightB k m tx ep v mk mf mt me mc = true := by simpa using hr
    have hb := note_bounds hr2
    have ho : o = frame (nbytes k.toNat m.toNat tx.toNat ep.toNat v.toNat mk.toNat mf.toNat mt.toNat me.toNat mc) := (congrArg Prod.fst h).symm
    have hl := nbytes_length (k := k.toNat) (m := m.toNat) (tx := tx.toNat) (ep := ep.toNat) (v := v.toNat) (mk := mk.toNat) (mf := mf.toNat) (mt := mt.toNat) (me := me.toNat) (mc := mc)
    rw [ho, frame_length] at hn
    rw [ho, ndecR, if_pos (.inl (first_prefix (by omega) n hn))]
theorem nenc_length {k m tx ep v mk mf mt me : Int} {mc : ByteArray} {o : List UInt8} (h : nencR k m tx ep v mk mf mt me mc = (o, 0)) : o.length = 25 + mc.size ∧ mc.size ≤ 500 := by
  unfold nencR at h
  split at h
  · cases h
  · rename_i hr
    have hr2 : rightB k m tx ep v mk mf mt me mc = true := by simpa using hr
    have hb := note_bounds hr2
    have ho : o = frame (nbytes k.toNat m.toNat tx.toNat ep.toNat v.toNat mk.toNat mf.toNat mt.toNat me.toNat mc) := (congrArg Prod.fst h).symm
    have hl := nbytes_length (k := k.toNat) (m := m.toNat) (tx := tx.toNat) (ep := ep.toNat) (v := v.toNat) (mk := mk.toNat) (mf := mf.toNat) (mt := mt.toNat) (me := me.toNat) (mc := mc)
    rw [ho, frame_length, hl]
    omega
theorem nenc_right {k m tx ep v mk mf mt me : Int} {mc : ByteArray} : (nencR k m tx ep v mk mf mt me mc).2 = if rightB k m tx ep v mk mf mt me mc = false then 2 else 0 := by
  unfold nencR
  split <;> rfl

theorem isB_take {w : World} {B : Nat} {a : Option Addr} {l : List UInt8} (h : IsB w B a l) (n : Nat) : IsB w B a (l.take n) := by
  intro hl
  rw [List.length_take] at hl
  obtain ⟨b, off, ha, h1, h2⟩ := h (by omega)
  refine ⟨b, off, ha, h1, fun i hi => ?_⟩
  rw [List.length_take] at hi
  rw [h2 i (by omega)]
  simp
set_option maxHeartbeats 2000000 in
theorem alive_any (w : World) : Calls Tryd.prog 8 #[] w fun r w' => r = .returned (.bool true) ∧ Below w.heap.size w w' := by
  have hr : rightB 2 3 7 2 1 0 0 0 0 ⟨#[]⟩ = true := by simp [rightB, noMsg, epochB, ByteArray.toList_eq]
  obtain ⟨o, ho⟩ : ∃ o, nencR 2 3 7 2 1 0 0 0 0 ⟨#[]⟩ = (o, 0) := ⟨_, by rw [nencR, if_neg (by simp [hr])]⟩
  have hol := (nenc_length ho).1
  have hol : o.length = 25 := hol
  have HE := Lib.hid (fun W => encode_any 2 3 7 2 1 0 0 0 0 ⟨#[]⟩ W (by decide) (by decide) (by decide))
  rw [ho] at HE
  have hd1 := ndec_nenc (by decide) (by decide) (by decide) ho
  have hd2 := ndec_prefix ho 12 (by omega)
  have hl12 : (o.take 12).length = 12 := by rw [List.length_take]; omega
  have HR := Lib.hid (fun W => right_any 2 3 7 2 1 0 0 0 0 ⟨#[]⟩ W)
  rw [hr] at HR
  have hq := note_eq ⟨2, 3, 7, 2, 1, 0, 0, 0, 0, ⟨#[]⟩⟩ ⟨2, 3, 7, 2, 1, 0, 0, 0, 0, ⟨#[]⟩⟩
  rw [show nB ⟨2, 3, 7, 2, 1, 0, 0, 0, 0, ⟨#[]⟩⟩ ⟨2, 3, 7, 2, 1, 0, 0, 0, 0, ⟨#[]⟩⟩ = true from decide_eq_true rfl] at hq
  dsimp only at hq
  have HD1 := Lib.hid hd1; have HD2 := Lib.hid hd2; have HOL := Lib.hid hol; have HL := Lib.hid hl12
  clear ho hd1 hd2 hol hl12 hr
  go_enter Tryd.func8, Tryd.ntmps8
  go_wp2_with fail
  refine (HE.out _).mono ?_
  rintro r v1 ⟨ad, c1, rfl, h1, h2, h3, hb1⟩
  dsimp only at h1 h3
  rw [show (o, (0 : Int)).1.length = 25 from HOL.out]
  obtain ⟨c_hb1, f_hb1, z_hb1⟩ := bcell hb1; have z0_hb1 := z_hb1 (w.heap.size) (by first | omega | (simp only [World.size_alloc, World.size_setCell, World.size_drew, World.heap_drewN] <;> omega)); clear z_hb1
  go_wp2_with fail
  have HX := decode_note ad o c1 v1 (by have := HOL.out; omega) h3 h1 h2
  rw [HD1.out, HOL.out] at HX
  refine HX.mono ?_
  have a0 : v1.cell? ⟨w.heap.size, 0, none⟩ = some (.int .i64 2) := (by simp [go_sem, c_hb1]); have a1 : v1.cell? ⟨w.heap.size, 1, none⟩ = some (.int .u8 3) := (by simp [go_sem, c_hb1]); have a2 : v1.cell? ⟨w.heap.size, 2, none⟩ = some (.int .i64 7) := (by simp [go_sem, c_hb1]); have a3 : v1.cell? ⟨w.heap.size, 3, none⟩ = some (.int .i64 2) := (by simp [go_sem, c_hb1]); have a4 : v1.cell? ⟨w.heap.size, 4, none⟩ = some (.int .i64 1) := (by simp [go_sem, c_hb1]); have a5 : v1.cell? ⟨w.heap.size, 5, none⟩ = some (.int .i64 0) := (by simp [go_sem, c_hb1]); have a6 : v1.cell? ⟨w.heap.size, 6, none⟩ = some (.int .u8 0) := (by simp [go_sem, c_hb1]); have a7 : v1.cell? ⟨w.heap.size, 7, none⟩ = some (.int .u8 0) := (by simp [go_sem, c_hb1]); have a8 : v1.cell? ⟨w.heap.size, 8, none⟩ = some (.int .i64 0) := (by simp [go_sem, c_hb1]); have a9 : v1.cell? ⟨w.heap.size, 9, none⟩ = some (.string ⟨#[]⟩) := (by simp [go_sem, c_hb1])
  have hB1 : Below w.heap.size w v1 := by repeat (first | (with_reducible exact Below.refl _ _) | (with_reducible assumption) | (with_reducible refine bw_alloc ?_) | (with_reducible refine bw_drew ?_) | (with_reducible refine bw_drewN ?_) | (with_reducible refine bw_set ?_ (by first | (simp; done) | (dsimp only; omega))) | (with_reducible refine bw_via (by assumption) ?_))
  clear c_hb1 f_hb1 hb1
  rintro r v2 ⟨rfl, hb2⟩
  dsimp only
  go_wp2_with fail
  generalize hw2 : World.alloc v2 _ = w2
  obtain ⟨hb22, hz2, hc2⟩ := alloc_facts hw2
  have hB12 := hb2.trans (hb22.mono hb2.size)
  have hh3 := isB_up h3 hB12
  have HY := decode_note ad (o.take 12) c1 w2 (by have := HL.out; omega) (isB_take hh3 12) (by have := HL.out; omega) h2
  rw [HD2.out, HL.out] at HY
  refine HY.mono ?_
  rintro r v3 ⟨rfl, hb3⟩
  have hB13 := hB12.trans (hb3.mono hB12.size)
  have a0 := stay hB13 z0_hb1 a0
  have a1 := stay hB13 z0_hb1 a1
  have a2 := stay hB13 z0_hb1 a2
  have a3 := stay hB13 z0_hb1 a3
  have a4 := stay hB13 z0_hb1 a4
  have a5 := stay hB13 z0_hb1 a5
  have a6 := stay hB13 z0_hb1 a6
  have a7 := stay hB13 z0_hb1 a7
  have a8 := stay hB13 z0_hb1 a8
  have a9 := stay hB13 z0_hb1 a9
  have b0 : v3.cell? ⟨v2.heap.size, 0, none⟩ = some (.int .i64 2) := stay hb3 hz2 (hc2 0)
  have b1 : v3.cell? ⟨v2.heap.size, 1, none⟩ = some (.int .u8 3) := stay hb3 hz2 (hc2 1)
  have b2 : v3.cell? ⟨v2.heap.size, 2, none⟩ = some (.int .i64 7) := stay hb3 hz2 (hc2 2)
  have b3 : v3.cell? ⟨v2.heap.size, 3, none⟩ = some (.int .i64 2) := stay hb3 hz2 (hc2 3)
  have b4 : v3.cell? ⟨v2.heap.size, 4, none⟩ = some (.int .i64 1) := stay hb3 hz2 (hc2 4)
  have b5 : v3.cell? ⟨v2.heap.size, 5, none⟩ = some (.int .i64 0) := stay hb3 hz2 (hc2 5)
  have b6 : v3.cell? ⟨v2.heap.size, 6, none⟩ = some (.int .u8 0) := stay hb3 hz2 (hc2 6)
  have b7 : v3.cell? ⟨v2.heap.size, 7, none⟩ = some (.int .u8 0) := stay hb3 hz2 (hc2 7)
  have b8 : v3.cell? ⟨v2.heap.size, 8, none⟩ = some (.int .i64 0) := stay hb3 hz2 (hc2 8)
  have b9 : v3.cell? ⟨v2.heap.size, 9, none⟩ = some (.string ⟨#[]⟩) := stay hb3 hz2 (hc2 9)
  have zg3 : v2.heap.size < v3.heap.size := Nat.lt_of_lt_of_le hz2 hb3.size
  have z03 : w.heap.size < v3.heap.size := Nat.lt_of_lt_of_le z0_hb1 hB13.size
  have hB3 : Below w.heap.size w v3 := hB1.trans (hB13.mono hB1.size)
  clear hc2 hb22 hb2 HX HY hh3 hw2 hB12 hb3 hB13 hz2 h1 h2 h3 HE HD1 HD2 HL HOL
  generalize v2.heap.size = g at *
  dsimp only
  go_wp2_with fail
  refine (HR.out _).mono ?_
  rintro r v4 ⟨rfl, hb4⟩
  obtain ⟨c_hb4, f_hb4, z_hb4⟩ := bcell hb4
  go_wp2_with fail
  go_ret
  exact ⟨rfl, by repeat (first | (with_reducible exact Below.refl _ _) | (with_reducible assumption) | (with_reducible refine bw_alloc ?_) | (with_reducible refine bw_drew ?_) | (with_reducible refine bw_drewN ?_) | (with_reducible refine bw_set ?_ (by first | (simp; done) | (dsimp only; omega))) | (with_reducible refine bw_via (by assumption) ?_))⟩
theorem open_note {c : List Value} (h : Fits [.int .i64, .int .u8, .int .i64, .int .i64, .int .i64, .int .i64, .int .u8, .int .u8, .int .i64, .str] c) :
    ∃ x : N, c = [.int .i64 x.k, .int .u8 x.m, .int .i64 x.tx, .int .i64 x.ep, .int .i64 x.v, .int .i64 x.hk, .int .u8 x.hf, .int .u8 x.ht, .int .i64 x.he, .string x.hc] ∧ 0 ≤ x.m ∧ 0 ≤ x.hf ∧ 0 ≤ x.ht ∧ x.hc.size ≤ maxLen := by
  obtain ⟨k, _, rfl, _, x1⟩ := h.int
  obtain ⟨m, _, rfl, q1, x2⟩ := x1.int
  obtain ⟨tx, _, rfl, _, x3⟩ := x2.int
  obtain ⟨ep, _, rfl, _, x4⟩ := x3.int
  obtain ⟨v, _, rfl, _, x5⟩ := x4.int
  obtain ⟨mk, _, rfl, _, x6⟩ := x5.int
  obtain ⟨mf, _, rfl, q2, x7⟩ := x6.int
  obtain ⟨mt, _, rfl, q3, x8⟩ := x7.int
  obtain ⟨me, _, rfl, _, x9⟩ := x8.int
  obtain ⟨mc, _, rfl, hc, x10⟩ := x9.str
  obtain rfl := x10.done
  exact ⟨⟨k, m, tx, ep, v, mk, mf, mt, me, mc⟩, rfl, (bounds_u8 q1).1, (bounds_u8 q2).1, (bounds_u8 q3).1, hc⟩

end Go.Proofs.YtbkkomknajgpdaaDoor.NoteCode
