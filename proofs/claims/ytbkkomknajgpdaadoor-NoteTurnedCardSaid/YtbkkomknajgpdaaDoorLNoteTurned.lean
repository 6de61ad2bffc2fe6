/- Of a note's bytes with one of them turned, but for those of the size, no note comes; nor of a beginning of them: for every note the statement's call returns true. -/
import Derived.Test.YtbkkomknajgpdaaDoorNoteTurn
import Derived.Deep.DeepCutAuto
import Derived.Laws.BitsAllLaws
namespace Go.Proofs.YtbkkomknajgpdaaDoor.LNoteTurned
open Go.RowKit CodeSpec SumSpec NoteSpec Flat CodeMem SumMem NoteNum Note NoteCode Go.Proofs.YtbkkomknajgpdaaDoorW.PrintLast
set_option linter.unusedSimpArgs false
set_option linter.unusedVariables false
set_option maxRecDepth 100000

/-- Bytes of one's own, that may be written. -/
theorem own_open {w : World} {B : Nat} {v : Value} {l : List UInt8} (h : OwnB w B v l) (hl : 0 < l.length) :
    ∃ g cap, v = .slice (some ⟨g, 0, none⟩) l.length cap ∧ l.length ≤ cap ∧ cap ≤ maxLen ∧ B ≤ g ∧ g < w.heap.size ∧ (∀ i (h : i < l.length), w.cell? ⟨g, i, none⟩ = some (.int .u8 (l[i].toNat : Int))) ∧ ∀ o, w.frozen? ⟨g, o, none⟩ = false := by
  have hlt := h.lt
  have hc := fun g => World.ownsRow.cells (g := g) h
  rcases h.2 with ⟨h1, h2⟩ | ⟨g, cap, cur, h1, hB, hg, h2, h3, h4, h5⟩
  · omega
  · subst h1
    refine ⟨g, cap, rfl, h2, h3, hB, (hlt g rfl).2, fun i hi => ?_, fun o => ?_⟩
    · have := hc g rfl i (.int .u8 (l[i].toNat : Int)) (by simp [bcells, hi])
      have e : ((⟨g, 0, none⟩ : Addr).add i) = ⟨g, i, none⟩ := by unfold Addr.add; split <;> simp_all
      rwa [e] at this
    · simp [World.frozen?, hg]
theorem isB_set {w w' : World} {g : Nat} {l : List UInt8} {i : Nat} {c : UInt8} (hd : ∀ j (h : j < l.length), w.cell? ⟨g, j, none⟩ = some (.int .u8 (l[j].toNat : Int))) (hg : g < w.heap.size) (hw : w.setCell ⟨g, i, none⟩ (.int .u8 (c.toNat : Int)) = w') :
    IsB w' w'.heap.size (some ⟨g, 0, none⟩) (l.set i c) := by
  subst hw
  intro _
  refine ⟨g, 0, rfl, by simpa using hg, fun j hj => ?_⟩
  rw [List.length_set] at hj
  rw [Nat.zero_add]
  by_cases h : i = j
  · subst h
    rw [World.cell?_setCell_same' _ _ _ (by rw [hd i hj]; rfl)]
    simp
  · rw [World.cell?_setCell_other _ _ _ _ (by intro e; simp at e; first | exact h e | skip), hd j hj]
    simp [h]

set_option maxHeartbeats 8000000 in
theorem walk (c0 : List Value) (a1 : Int) (a2 : Int) (w : World) (w0 : Fits [.int .i64, .int .u8, .int .i64, .int .i64, .int .i64, .int .i64, .int .u8, .int .u8, .int .i64, .str] c0) (w1 : (Lit.int .u16 a1).wf = true) (w2 : (Lit.int .u8 a2).wf = true) :
    Calls Tryd.prog 5 #[.agg c0.toArray, .int .u16 a1, .int .u8 a2] w fun e w' => e = .returned (.bool true) ∧ Below w.heap.size w w' := by
  obtain ⟨x, rfl, q1, q2, q3, hc⟩ := open_note w0
  obtain ⟨b1, b2⟩ := bounds_u16 w1
  obtain ⟨b3, b4⟩ := bounds_u8 w2
  clear w0 w1 w2
  obtain ⟨at_, rfl⟩ := Int.eq_ofNat_of_zero_le b1
  obtain ⟨by_, rfl⟩ := Int.eq_ofNat_of_zero_le b3
  obtain ⟨k, m, tx, ep, v, mk, mf, mt, me, mc⟩ := x
  dsimp only at q1 q2 q3 hc ⊢
  unfold maxLen at hc
  by_cases hb : 700 < mc.size
  · have hs1 : (700 : Int) < (mc.size : Int) := by omega
    go_enter Tryd.func5, Tryd.ntmps5
    go_wp2_with fail
    refine (alive_any _).mono ?_
    rintro r v1 ⟨rfl, hb1⟩
    obtain ⟨c_hb1, f_hb1, z_hb1⟩ := bcell hb1; have z0_hb1 := z_hb1 (w.heap.size) (by first | omega | (simp only [World.size_alloc, World.size_setCell, World.size_drew, World.heap_drewN] <;> omega)); clear z_hb1
    go_wp2_with fail
    go_ret
    refine ⟨by first | rfl | (simp [*]; done), ?_⟩
    repeat (first | (with_reducible exact Below.refl _ _) | (with_reducible assumption) | (with_reducible refine bw_alloc ?_) | (with_reducible refine bw_drew ?_) | (with_reducible refine bw_drewN ?_) | (with_reducible refine bw_set ?_ (by first | (simp; done) | (dsimp only; omega))) | (with_reducible refine bw_via (by assumption) ?_))
  have hs1 : ¬ (700 : Int) < (mc.size : Int) := by omega
  clear hb
  have HE := Lib.hid (fun W => encode_own k m tx ep v mk mf mt me mc W q1 q2 q3)
  have HP := Lib.hid (fun W => right_ref k m tx ep v mk mf mt me mc W)
  have HT := Lib.hid (fun W => theirs_any ⟨k, m, tx, ep, v, mk, mf, mt, me, mc⟩ W)
  have HLEN := fun o => @nenc_length k m tx ep v mk mf mt me mc o
  have HPRE := fun o => @ndec_prefix k m tx ep v mk mf mt me mc o
  have HTURN := fun o => @ndec_turned k m tx ep v mk mf mt me mc o
  have HNR := @nenc_right k m tx ep v mk mf mt me mc
  generalize nencR k m tx ep v mk mf mt me mc = T at HE HLEN HPRE HTURN HNR
  obtain ⟨o, eo⟩ := T
  generalize rightB k m tx ep v mk mf mt me mc = B at HP HNR
  have HNRH := Lib.hid HNR
  clear HNR
  cases B with
  | false =>
    obtain rfl : eo = 2 := HNRH.out
    have HPH := HP
    clear HLEN HPRE HTURN HNRH
    go_enter Tryd.func5, Tryd.ntmps5
    go_wp2_with fail
    refine (alive_any _).mono ?_
    rintro r v1 ⟨rfl, hb1⟩
    obtain ⟨c_hb1, f_hb1, z_hb1⟩ := bcell hb1; have z0_hb1 := z_hb1 (w.heap.size) (by first | omega | (simp only [World.size_alloc, World.size_setCell, World.size_drew, World.heap_drewN] <;> omega)); clear z_hb1
    have hB1 : Below w.heap.size w v1 := by repeat (first | (with_reducible exact Below.refl _ _) | (with_reducible assumption) | (with_reducible refine bw_alloc ?_) | (with_reducible refine bw_drew ?_) | (with_reducible refine bw_drewN ?_) | (with_reducible refine bw_set ?_ (by first | (simp; done) | (dsimp only; omega))) | (with_reducible refine bw_via (by assumption) ?_))
    have s0 : v1.cell? ⟨w.heap.size, 0, none⟩ = some (.int .i64 k) := (by simp [go_sem, c_hb1]); have s1 : v1.cell? ⟨w.heap.size, 1, none⟩ = some (.int .u8 m) := (by simp [go_sem, c_hb1]); have s2 : v1.cell? ⟨w.heap.size, 2, none⟩ = some (.int .i64 tx) := (by simp [go_sem, c_hb1]); have s3 : v1.cell? ⟨w.heap.size, 3, none⟩ = some (.int .i64 ep) := (by simp [go_sem, c_hb1]); have s4 : v1.cell? ⟨w.heap.size, 4, none⟩ = some (.int .i64 v) := (by simp [go_sem, c_hb1]); have s5 : v1.cell? ⟨w.heap.size, 5, none⟩ = some (.int .i64 mk) := (by simp [go_sem, c_hb1]); have s6 : v1.cell? ⟨w.heap.size, 6, none⟩ = some (.int .u8 mf) := (by simp [go_sem, c_hb1]); have s7 : v1.cell? ⟨w.heap.size, 7, none⟩ = some (.int .u8 mt) := (by simp [go_sem, c_hb1]); have s8 : v1.cell? ⟨w.heap.size, 8, none⟩ = some (.int .i64 me) := (by simp [go_sem, c_hb1]); have s9 : v1.cell? ⟨w.heap.size, 9, none⟩ = some (.string mc) := (by simp [go_sem, c_hb1])
    clear c_hb1 f_hb1 hb1
    go_wp2_with fail
    refine (HT.out _).mono ?_
    rintro r v2 ⟨rfl, hb2⟩
    go_wp2_with fail
    refine (HE.out _).mono ?_
    rintro r v3 ⟨vo, rfl, g3, hb3⟩
    have hB3 := hb2.trans (hb3.mono hb2.size)
    have s0 := stay hB3 z0_hb1 s0
    have s1 := stay hB3 z0_hb1 s1
    have s2 := stay hB3 z0_hb1 s2
    have s3 := stay hB3 z0_hb1 s3
    have s4 := stay hB3 z0_hb1 s4
    have s5 := stay hB3 z0_hb1 s5
    have s6 := stay hB3 z0_hb1 s6
    have s7 := stay hB3 z0_hb1 s7
    have s8 := stay hB3 z0_hb1 s8
    have s9 := stay hB3 z0_hb1 s9
    have hBw : Below w.heap.size w v3 := hB1.trans (hB3.mono hB1.size)
    clear hb2 hb3 hB3 g3
    go_wp2_with fail
    refine (HP.out _).mono ?_
    rintro r v4 ⟨rfl, hb4⟩
    go_wp2_with fail
    go_ret
    exact ⟨rfl, by repeat (first | (with_reducible exact Below.refl _ _) | (with_reducible assumption) | (with_reducible refine bw_alloc ?_) | (with_reducible refine bw_drew ?_) | (with_reducible refine bw_drewN ?_) | (with_reducible refine bw_set ?_ (by first | (simp; done) | (dsimp only; omega))) | (with_reducible refine bw_via (by assumption) ?_))⟩
  | true =>
    obtain rfl : eo = 0 := HNRH.out
    have hlen := HLEN _ rfl
    have hol : o.length ≤ 1000000 := by omega
    by_cases h0 : by_ = 0
    · subst h0
      have hl8 : decide ((o.length : Int) < 8) = false := by simp; omega
      clear HLEN HPRE HTURN HNRH hlen
      go_enter Tryd.func5, Tryd.ntmps5
      go_wp2_with fail
      refine (alive_any _).mono ?_
      rintro r v1 ⟨rfl, hb1⟩
      obtain ⟨c_hb1, f_hb1, z_hb1⟩ := bcell hb1; have z0_hb1 := z_hb1 (w.heap.size) (by first | omega | (simp only [World.size_alloc, World.size_setCell, World.size_drew, World.heap_drewN] <;> omega)); clear z_hb1
      have hB1 : Below w.heap.size w v1 := by repeat (first | (with_reducible exact Below.refl _ _) | (with_reducible assumption) | (with_reducible refine bw_alloc ?_) | (with_reducible refine bw_drew ?_) | (with_reducible refine bw_drewN ?_) | (with_reducible refine bw_set ?_ (by first | (simp; done) | (dsimp only; omega))) | (with_reducible refine bw_via (by assumption) ?_))
      have s0 : v1.cell? ⟨w.heap.size, 0, none⟩ = some (.int .i64 k) := (by simp [go_sem, c_hb1]); have s1 : v1.cell? ⟨w.heap.size, 1, none⟩ = some (.int .u8 m) := (by simp [go_sem, c_hb1]); have s2 : v1.cell? ⟨w.heap.size, 2, none⟩ = some (.int .i64 tx) := (by simp [go_sem, c_hb1]); have s3 : v1.cell? ⟨w.heap.size, 3, none⟩ = some (.int .i64 ep) := (by simp [go_sem, c_hb1]); have s4 : v1.cell? ⟨w.heap.size, 4, none⟩ = some (.int .i64 v) := (by simp [go_sem, c_hb1]); have s5 : v1.cell? ⟨w.heap.size, 5, none⟩ = some (.int .i64 mk) := (by simp [go_sem, c_hb1]); have s6 : v1.cell? ⟨w.heap.size, 6, none⟩ = some (.int .u8 mf) := (by simp [go_sem, c_hb1]); have s7 : v1.cell? ⟨w.heap.size, 7, none⟩ = some (.int .u8 mt) := (by simp [go_sem, c_hb1]); have s8 : v1.cell? ⟨w.heap.size, 8, none⟩ = some (.int .i64 me) := (by simp [go_sem, c_hb1]); have s9 : v1.cell? ⟨w.heap.size, 9, none⟩ = some (.string mc) := (by simp [go_sem, c_hb1])
      clear c_hb1 f_hb1 hb1
      go_wp2_with fail
      refine (HT.out _).mono ?_
      rintro r v2 ⟨rfl, hb2⟩
      go_wp2_with fail
      refine (HE.out _).mono ?_
      rintro r v3 ⟨vo, rfl, g3, hb3⟩
      have hB3 := hb2.trans (hb3.mono hb2.size)
      have s0 := stay hB3 z0_hb1 s0
      have s1 := stay hB3 z0_hb1 s1
      have s2 := stay hB3 z0_hb1 s2
      have s3 := stay hB3 z0_hb1 s3
      have s4 := stay hB3 z0_hb1 s4
      have s5 := stay hB3 z0_hb1 s5
      have s6 := stay hB3 z0_hb1 s6
      have s7 := stay hB3 z0_hb1 s7
      have s8 := stay hB3 z0_hb1 s8
      have s9 := stay hB3 z0_hb1 s9
      have hBw : Below w.heap.size w v3 := hB1.trans (hB3.mono hB1.size)
      clear hb2 hb3 hB3
      obtain ⟨a9, c9, rfl, _, _, _⟩ := own_isB g3
      clear g3
      dsimp only
      go_wp2_with fail
      refine (HP.out _).mono ?_
      rintro r v4 ⟨rfl, hb4⟩
      go_wp2_with fail
      go_ret
      exact ⟨rfl, by repeat (first | (with_reducible exact Below.refl _ _) | (with_reducible assumption) | (with_reducible refine bw_alloc ?_) | (with_reducible refine bw_drew ?_) | (with_reducible refine bw_drewN ?_) | (with_reducible refine bw_set ?_ (by first | (simp; done) | (dsimp only; omega))) | (with_reducible refine bw_via (by assumption) ?_))⟩
    · have hne : ((by_ : Int) == 0) = false := by simp; omega
      have hl8 : decide ((o.length : Int) < 8) = false := by simp; omega
      have h25 : 25 ≤ o.length := by omega
      have HL := Lib.hid hlen
      have HT2 := Lib.hid HTURN
      have HP2 := Lib.hid HPRE
      clear HLEN HPRE HTURN HNRH hlen HP
      obtain ⟨m1, hm1⟩ : ∃ m1 : Nat, m1 = at_ % o.length := ⟨_, rfl⟩
      have hm1l : m1 < o.length := by rw [hm1]; exact Nat.mod_lt _ (by omega)
      have hmI : (at_ : Int) % (o.length : Int) = (m1 : Int) := by rw [hm1]; simp
      obtain ⟨r1, hr1⟩ : ∃ r1 : Nat, r1 = at_ % (o.length - 2) := ⟨_, rfl⟩
      have hr1l : r1 < o.length - 2 := by rw [hr1]; exact Nat.mod_lt _ (by omega)
      have hrI : (at_ : Int) % ((o.length : Int) - 2) = (r1 : Int) := by
        rw [hr1, show (o.length : Int) - 2 = ((o.length - 2 : Nat) : Int) by omega]; simp
      clear hm1 hr1
      go_enter Tryd.func5, Tryd.ntmps5
      go_wp2_with fail
      refine (alive_any _).mono ?_
      rintro r v1 ⟨rfl, hb1⟩
      obtain ⟨c_hb1, f_hb1, z_hb1⟩ := bcell hb1; have z0_hb1 := z_hb1 (w.heap.size) (by first | omega | (simp only [World.size_alloc, World.size_setCell, World.size_drew, World.heap_drewN] <;> omega)); clear z_hb1
      have hB1 : Below w.heap.size w v1 := by repeat (first | (with_reducible exact Below.refl _ _) | (with_reducible assumption) | (with_reducible refine bw_alloc ?_) | (with_reducible refine bw_drew ?_) | (with_reducible refine bw_drewN ?_) | (with_reducible refine bw_set ?_ (by first | (simp; done) | (dsimp only; omega))) | (with_reducible refine bw_via (by assumption) ?_))
      have s0 : v1.cell? ⟨w.heap.size, 0, none⟩ = some (.int .i64 k) := (by simp [go_sem, c_hb1]); have s1 : v1.cell? ⟨w.heap.size, 1, none⟩ = some (.int .u8 m) := (by simp [go_sem, c_hb1]); have s2 : v1.cell? ⟨w.heap.size, 2, none⟩ = some (.int .i64 tx) := (by simp [go_sem, c_hb1]); have s3 : v1.cell? ⟨w.heap.size, 3, none⟩ = some (.int .i64 ep) := (by simp [go_sem, c_hb1]); have s4 : v1.cell? ⟨w.heap.size, 4, none⟩ = some (.int .i64 v) := (by simp [go_sem, c_hb1]); have s5 : v1.cell? ⟨w.heap.size, 5, none⟩ = some (.int .i64 mk) := (by simp [go_sem, c_hb1]); have s6 : v1.cell? ⟨w.heap.size, 6, none⟩ = some (.int .u8 mf) := (by simp [go_sem, c_hb1]); have s7 : v1.cell? ⟨w.heap.size, 7, none⟩ = some (.int .u8 mt) := (by simp [go_sem, c_hb1]); have s8 : v1.cell? ⟨w.heap.size, 8, none⟩ = some (.int .i64 me) := (by simp [go_sem, c_hb1]); have s9 : v1.cell? ⟨w.heap.size, 9, none⟩ = some (.string mc) := (by simp [go_sem, c_hb1])
      clear c_hb1 f_hb1 hb1
      go_wp2_with fail
      refine (HT.out _).mono ?_
      rintro r v2 ⟨rfl, hb2⟩
      go_wp2_with fail
      refine (HE.out _).mono ?_
      rintro r v3 ⟨vo, rfl, g3, hb3⟩
      dsimp only at g3
      obtain ⟨g, cp, rfl, k1, k2, k3, k4, k5, k6⟩ := own_open g3 (by omega)
      have hB3 := hb2.trans (hb3.mono hb2.size)
      have hBw : Below w.heap.size w v3 := hB1.trans (hB3.mono hB1.size)
      have hwg : w.heap.size ≤ g := by have := hB1.size; have := hb2.size; omega
      clear hb2 hb3 hB3 g3 s0 s1 s2 s3 s4 s5 s6 s7 s8 s9 hB1 z0_hb1
      dsimp only
      have K5 := Lib.hid k5
      have K6 := Lib.hid k6
      clear k5 k6
      have k2' := k2
      unfold maxLen at k2'
      go_wp2_with fail
      have HX := decode_note (some ⟨g, 0, none⟩) (o.take m1) cp v3 (by rw [List.length_take]; omega) (isB_take (fun _ => ⟨g, 0, rfl, k4, fun i h => by rw [Nat.zero_add]; exact K5.out i h⟩) m1) (by rw [List.length_take]; omega) k2
      rw [HP2.out o rfl m1 hm1l, List.length_take, Nat.min_eq_left (Nat.le_of_lt hm1l)] at HX
      refine HX.mono ?_
      clear HX
      rintro r v4 ⟨rfl, hb4⟩
      dsimp only [bad]
      go_upto_if 62 with (fail)
      rw [hrI]
      generalize hv5 : World.alloc v4 _ = v5
      have hb5 : Below v4.heap.size v4 v5 := by rw [← hv5]; exact (Below.refl _ _).alloc (Nat.le_refl _) _
      have hB35 := hb4.trans (hb5.mono hb4.size)
      have hBw5 : Below w.heap.size w v5 := hBw.trans (hB35.mono hBw.size)
      have K5' : Hid (∀ i (h : i < o.length), v5.cell? ⟨g, i, none⟩ = some (.int .u8 (o[i].toNat : Int))) := Lib.hid (fun i h => (hB35.cell (p := ⟨g, i, none⟩) k4).trans (K5.out i h))
      have K6' : Hid (∀ o, v5.frozen? ⟨g, o, none⟩ = false) := Lib.hid (fun o => (hB35.frozen (p := ⟨g, o, none⟩) k4).trans (K6.out o))
      have k4' : g < v5.heap.size := by have := hB35.size; omega
      clear hb4 hb5 hB35 hv5 hBw K5 K6 k4 hmI hrI hm1l HP2
      go_cut [11] (fun u wx => ∃ i : Nat, u = .int .i64 (i : Int) ∧ (i = 0 ∨ 3 ≤ i) ∧ i < o.length ∧ v5 = wx)
      case first =>
        by_cases hr0 : r1 = 0
        · subst hr0
          go_wp2_with fail
          go_meet
          exact ⟨0, rfl, .inl rfl, by omega, rfl⟩
        · have hrp : (0 : Int) < (r1 : Int) := by omega
          go_wp2_with fail
          go_meet
          exact ⟨r1 + 2, by go_num, .inr (by omega), by omega, rfl⟩
      case rest =>
        obtain ⟨i, rfl, hi3, hil, rfl⟩ := hcut
        have hi := K5'.out i hil
        have hfz := K6'.out i
        have hiI : (i : Int) < (o.length : Int) := by omega
        obtain ⟨c, hcdef⟩ : ∃ c : UInt8, c = UInt8.ofNat (o[i].toNat ^^^ by_) := ⟨_, rfl⟩
        have ob := o[i].toNat_lt
        have hx := u8_xor_nat o[i].toNat by_ (by omega) (by omega)
        have hlt : o[i].toNat ^^^ by_ < 256 := Nat.xor_lt_two_pow (n := 8) (by omega) (by omega)
        have hcn : c.toNat = o[i].toNat ^^^ by_ := by rw [hcdef, UInt8.toNat_ofNat']; exact Nat.mod_eq_of_lt hlt
        have hcne : c ≠ o[i] := by
          intro e
          have : c.toNat = o[i].toNat := congrArg UInt8.toNat e
          rw [hcn] at this
          have h2 : o[i].toNat ^^^ by_ ^^^ o[i].toNat = 0 := by rw [this, Nat.xor_self]
          rw [Nat.xor_comm o[i].toNat by_, Nat.xor_assoc, Nat.xor_self, Nat.xor_zero] at h2
          exact h0 h2
        have HTU := Lib.hid (HT2.out o rfl i c hil hi3 hcne)
        rw [← hcn] at hx
        clear hcdef hcn hcne hlt HT2 K6'
        generalize o[i].toNat = old at *
        go_wp2_with fail
        generalize hv6 : World.setCell v5 _ _ = v6
        have hib := isB_set K5'.out k4' hv6
        have hB6 : Below w.heap.size w v6 := by rw [← hv6]; exact hBw5.setCell (p := ⟨g, i, none⟩) hwg _
        have HX := decode_note (some ⟨g, 0, none⟩) (o.set i c) cp v6 (by rw [List.length_set]; omega) hib (by rw [List.length_set]; omega) k2
        rw [HTU.out, List.length_set] at HX
        clear hv6 hib K5' hi hfz hx ob
        refine HX.mono ?_
        rintro r v7 ⟨rfl, hb7⟩
        dsimp only [bad]
        go_wp2_with fail
        go_ret
        exact ⟨rfl, by repeat (first | (with_reducible exact Below.refl _ _) | (with_reducible assumption) | (with_reducible refine bw_alloc ?_) | (with_reducible refine bw_drew ?_) | (with_reducible refine bw_drewN ?_) | (with_reducible refine bw_set ?_ (by first | (simp; done) | (dsimp only; omega))) | (with_reducible refine bw_via (by assumption) ?_))⟩
end Go.Proofs.YtbkkomknajgpdaaDoor.LNoteTurned
