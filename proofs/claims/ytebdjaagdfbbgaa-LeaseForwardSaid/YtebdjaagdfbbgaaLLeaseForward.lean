/- Epochs never fall, and whoever gave agency away never speaks in that epoch again: for every lease and every row of calls the statement's call returns true. -/
import Derived.Test.YtebdjaagdfbbgaaLeaseAlive
import Derived.Test.YtebdjaagdfbbgaaLeaseFwd
import Derived.Lib.Hide
import Derived.LoopTactic
import Derived.Deep.LoopGhost
import Derived.Deep.DeepCutAuto
import Derived.Deep.CutBlock
import Derived.OwnWalk
namespace Go.Proofs.Ytebdjaagdfbbgaa.LLeaseForward
open Go.RowKit LeaseSpec Flat Lease LeaseFwd
set_option linter.unusedSimpArgs false
set_option linter.unusedVariables false

theorem rows_cells {w : World} {a : Option Addr} {len cap : Nat} {r : List (List Value)} (h : IsRows [.bool, .int .i64, .int .u8] w a len cap r) (hpos : 0 < len) :
    ∃ b off, a = some ⟨b, off, none⟩ ∧ b < w.heap.size ∧ ∀ i, i < len → ∃ g n t, w.cell? ⟨b, off + i * 3, none⟩ = some (.bool g) ∧ w.cell? ⟨b, off + i * 3 + 1, none⟩ = some (.int .i64 n) ∧ w.cell? ⟨b, off + i * 3 + 2, none⟩ = some (.int .u8 t) := by
  obtain ⟨hl, _, _, hf, hc⟩ := h
  obtain ⟨b, off, rfl, hd⟩ := hc hpos
  have key : ∀ i, i < len → ∃ g n t, w.cell? ⟨b, off + i * 3, none⟩ = some (.bool g) ∧ w.cell? ⟨b, off + i * 3 + 1, none⟩ = some (.int .i64 n) ∧ w.cell? ⟨b, off + i * 3 + 2, none⟩ = some (.int .u8 t) := fun i hi => by
    have h0 := hd i hi 0 (by decide)
    have h1 := hd i hi 1 (by decide)
    have h2 := hd i hi 2 (by decide)
    have hr : r.getD i [] = r[i]'(by omega) := by simp [List.getD, List.getElem?_eq_getElem (show i < r.length by omega)]
    rw [hr] at h0 h1 h2
    have hfit := hf (r[i]'(by omega)) (List.getElem_mem _)
    generalize r[i]'(by omega) = row at h0 h1 h2 hfit
    obtain ⟨g, _, rfl, x1⟩ := hfit.bool
    obtain ⟨n, _, rfl, _, x2⟩ := x1.int
    obtain ⟨t, _, rfl, _, x3⟩ := x2.int
    obtain rfl := x3.done
    exact ⟨g, n, t, h0, h1, h2⟩
  refine ⟨b, off, rfl, ?_, key⟩
  obtain ⟨_, _, _, h0, _⟩ := key 0 hpos
  exact cell_lt h0

/-- What holds at the head of the loop: k calls are done, the lease lies in block B, and what it gave away is 'gone'. -/
def Rel (w : World) (len B : Nat) (g i : Value) (wr : World) : Prop :=
  ∃ (k : Nat) (x : L) (gone : Int), k ≤ len ∧ i = .int .i64 k ∧ g = .int .i64 gone ∧ Inv x gone ∧ Below w.heap.size w wr ∧ B < wr.heap.size ∧
    wr.cell? ⟨B, 0, none⟩ = some (.int .i64 x.e) ∧ wr.cell? ⟨B, 1, none⟩ = some (.int .i64 x.s) ∧ wr.cell? ⟨B, 2, none⟩ = some (.int .u8 x.t) ∧
    wr.frozen? ⟨B, 0, none⟩ = false ∧ wr.frozen? ⟨B, 1, none⟩ = false ∧ wr.frozen? ⟨B, 2, none⟩ = false

/-- The inner loop: j goes up to G. -/
def Rel2 (v6 : World) (G : Int) (v : Value) (wx : World) : Prop := ∃ j : Int, 0 ≤ j ∧ j ≤ G + 1 ∧ v = .int .i64 j ∧ Below v6.heap.size v6 wx

set_option maxRecDepth 100000 in
set_option maxHeartbeats 4000000 in
theorem walk (c0 : List Value) (a1 : Option Addr) (len1 cap1 : Nat) (r1 : List (List Value)) (w : World) (w0 : Fits [.int .i64, .int .i64, .int .u8] c0) (w1 : IsRows [.bool, .int .i64, .int .u8] w a1 len1 cap1 r1) :
    Calls Try.prog 4 #[.agg c0.toArray, .slice a1 len1 cap1] w fun e w' => e = .returned (.bool true) ∧ Below w.heap.size w w' := by
  obtain ⟨e, _, rfl, _, x1⟩ := w0.int
  obtain ⟨s, _, rfl, _, x2⟩ := x1.int
  obtain ⟨t, _, rfl, _, x3⟩ := x2.int
  obtain rfl := x3.done
  clear w0 x1 x2 x3
  have hmax : len1 ≤ maxLen := Nat.le_trans w1.2.1 w1.2.2.1
  unfold maxLen at hmax
  cases hr : rightB e s t with
  | false =>
    go_enter Try.func4, Try.ntmps4
    go_wp2_with fail
    refine (LeaseAlive.alive_any _).mono ?_
    rintro r v1 ⟨rfl, hb1⟩
    obtain ⟨c_hb1, f_hb1, z_hb1⟩ := bcell hb1; have z0_hb1 := z_hb1 (w.heap.size) (by first | omega | (simp only [World.size_alloc, World.size_setCell, World.size_drew] <;> omega)); clear z_hb1
    go_wp2_with fail
    refine (right_ref e s t _).mono ?_
    rw [hr]
    rintro r v2 ⟨rfl, hb2⟩
    go_wp2_with fail
    go_ret
    refine ⟨rfl, ?_⟩
    repeat (first | exact Below.refl _ _ | refine below_alloc ?_ | refine below_drew ?_ | refine below_set ?_ (by first | (simp; done) | (dsimp only; omega)) | refine below_via (by assumption) ?_)
  | true =>
    by_cases hlen : 100 < len1
    · have hlenI : (100 : Int) < (len1 : Int) := by omega
      go_enter Try.func4, Try.ntmps4
      go_wp2_with fail
      refine (LeaseAlive.alive_any _).mono ?_
      rintro r v1 ⟨rfl, hb1⟩
      obtain ⟨c_hb1, f_hb1, z_hb1⟩ := bcell hb1; have z0_hb1 := z_hb1 (w.heap.size) (by first | omega | (simp only [World.size_alloc, World.size_setCell, World.size_drew] <;> omega)); clear z_hb1
      go_wp2_with fail
      refine (right_ref e s t _).mono ?_
      rw [hr]
      rintro r v2 ⟨rfl, hb2⟩
      go_wp2_with fail
      go_ret
      refine ⟨rfl, ?_⟩
      repeat (first | exact Below.refl _ _ | refine below_alloc ?_ | refine below_drew ?_ | refine below_set ?_ (by first | (simp; done) | (dsimp only; omega)) | refine below_via (by assumption) ?_)
    · have hlenI : ¬ (100 : Int) < (len1 : Int) := by omega
      go_enter Try.func4, Try.ntmps4
      go_wp2_with fail
      refine (LeaseAlive.alive_any _).mono ?_
      rintro r v1 ⟨rfl, hb1⟩
      obtain ⟨c_hb1, f_hb1, z_hb1⟩ := bcell hb1; have z0_hb1 := z_hb1 (w.heap.size) (by first | omega | (simp only [World.size_alloc, World.size_setCell, World.size_drew] <;> omega)); clear z_hb1
      go_wp2_with fail
      refine (right_ref e s t _).mono ?_
      rw [hr]
      rintro r v2 ⟨rfl, hb2⟩
      obtain ⟨c_hb2, f_hb2, z_hb2⟩ := bcell hb2; have z0_hb2 := z_hb2 (w.heap.size) (by first | omega | (simp only [World.size_alloc, World.size_setCell, World.size_drew] <;> omega)); clear z_hb2
      have hb2' : Below w.heap.size w v2 := by repeat (first | exact Below.refl _ _ | refine below_alloc ?_ | refine below_drew ?_ | refine below_set ?_ (by first | (simp; done) | (dsimp only; omega)) | refine below_via (by assumption) ?_)
      have hv2 : w.heap.size ≤ v2.heap.size := hb2'.size
      go_upto_if 25 with (fail)
      generalize h3 : World.alloc v2 _ = v3
      obtain ⟨hb3, n3, k3⟩ := alloc_facts h3
      have f3 : ∀ o, v3.frozen? ⟨v2.heap.size, o, none⟩ = false := fun o => by rw [← h3]; exact World.frozen?_alloc_at _ _ _ _ rfl
      clear h3
      have hI := inv_start hr
      go_cut [6] (fun g wr => Rel w len1 v2.heap.size g (.int .i64 0) wr)
      case first =>
        by_cases hs : s = 2
        · subst hs
          go_wp2_with fail
          go_meet
          exact ⟨0, ⟨e, 2, t⟩, e, Nat.zero_le _, rfl, rfl, hI, by repeat (first | exact Below.refl _ _ | refine below_alloc ?_ | refine below_drew ?_ | refine below_set ?_ (by first | (simp; done) | (dsimp only; omega)) | refine below_via (by assumption) ?_), n3, k3 0, k3 1, k3 2, f3 0, f3 1, f3 2⟩
        · rw [if_neg hs] at hI
          have hsb : (s == 2) = false := by simpa using hs
          go_wp2_with fail
          go_meet
          exact ⟨0, ⟨e, s, t⟩, 0, Nat.zero_le _, rfl, rfl, hI, by repeat (first | exact Below.refl _ _ | refine below_alloc ?_ | refine below_drew ?_ | refine below_set ?_ (by first | (simp; done) | (dsimp only; omega)) | refine below_via (by assumption) ?_), n3, k3 0, k3 1, k3 2, f3 0, f3 1, f3 2⟩
      case rest =>
        go_wp2_with fail
        go_loopw [6, 30] (fun g i wr => Rel w len1 v2.heap.size g i wr) (fun g i wr => len1 - (intOf i).toNat)
        case atStart => exact hcut
        case round =>
          obtain ⟨wo, h_wo⟩ : ∃ v : World, v = wr := ⟨_, rfl⟩; subst h_wo
          obtain ⟨k, x, gone, hk, rfl, rfl, hI, hB, hlt, c0, c1, c2, f0, f1, f2⟩ := hrel
          by_cases hkl : k < len1
          · obtain ⟨b, off, ha, hbw, hcells⟩ := rows_cells w1 (by omega)
            subst ha
            obtain ⟨g, n, u, d0, d1, d2⟩ := hcells k hkl
            have hbr : b < wo.heap.size := Nat.lt_of_lt_of_le hbw hB.size
            rw [← hB.cell (p := ⟨b, _, none⟩) hbw] at d0 d1 d2
            clear hcells
            have hkI : (k : Int) < (len1 : Int) := by omega
            have hI2 := lstep hI g n u
            go_upto_if 35 with (fail)
            go_cut [10] (fun v wx => v = .int .i64 (lnext x g n u).2 ∧ Below wo.heap.size wo wx ∧ wo.heap.size + 1 < wx.heap.size ∧
              wx.cell? ⟨wo.heap.size + 1, 0, none⟩ = some (.int .i64 (lnext x g n u).1.e) ∧ wx.cell? ⟨wo.heap.size + 1, 1, none⟩ = some (.int .i64 (lnext x g n u).1.s) ∧ wx.cell? ⟨wo.heap.size + 1, 2, none⟩ = some (.int .u8 (lnext x g n u).1.t))
            case first =>
              cases g with
              | true =>
                go_wp2_with fail
                refine (give_any _ _ _ _ _).mono ?_
                rintro r v5 ⟨rfl, hb5⟩
                obtain ⟨c_hb5, f_hb5, z_hb5⟩ := bcell hb5; have z0_hb5 := z_hb5 (v2.heap.size) (by first | omega | (simp only [World.size_alloc, World.size_setCell, World.size_drew] <;> omega)); have z1_hb5 := z_hb5 (wo.heap.size) (by first | omega | (simp only [World.size_alloc, World.size_setCell, World.size_drew] <;> omega)); have z2_hb5 := z_hb5 (wo.heap.size + 1) (by first | omega | (simp only [World.size_alloc, World.size_setCell, World.size_drew] <;> omega)); clear z_hb5
                go_wp2_with fail
                go_meet
                refine ⟨rfl, ?_, by simp only [World.size_setCell]; exact z2_hb5, ?_, ?_, ?_⟩
                · repeat (first | exact Below.refl _ _ | refine below_alloc ?_ | refine below_drew ?_ | refine below_set ?_ (by first | (simp; done) | (dsimp only; omega)) | refine below_via (by assumption) ?_)
                all_goals simp [go_sem, z2_hb5, c_hb5, f_hb5, lnext]
              | false =>
                go_wp2_with fail
                refine (take_any _ _ _ _ _).mono ?_
                rintro r v5 ⟨rfl, hb5⟩
                obtain ⟨c_hb5, f_hb5, z_hb5⟩ := bcell hb5; have z0_hb5 := z_hb5 (v2.heap.size) (by first | omega | (simp only [World.size_alloc, World.size_setCell, World.size_drew] <;> omega)); have z1_hb5 := z_hb5 (wo.heap.size) (by first | omega | (simp only [World.size_alloc, World.size_setCell, World.size_drew] <;> omega)); have z2_hb5 := z_hb5 (wo.heap.size + 1) (by first | omega | (simp only [World.size_alloc, World.size_setCell, World.size_drew] <;> omega)); clear z_hb5
                go_wp2_with fail
                go_meet
                refine ⟨rfl, ?_, by simp only [World.size_setCell]; exact z2_hb5, ?_, ?_, ?_⟩
                · repeat (first | exact Below.refl _ _ | refine below_alloc ?_ | refine below_drew ?_ | refine below_set ?_ (by first | (simp; done) | (dsimp only; omega)) | refine below_via (by assumption) ?_)
                all_goals simp [go_sem, z2_hb5, c_hb5, f_hb5, lnext]
            case rest =>
              obtain ⟨v5, h_v5⟩ : ∃ v : World, v = wc := ⟨_, rfl⟩; subst h_v5
              obtain ⟨rfl, hB5, hz5, e0, e1, e2⟩ := hcut
              generalize lnext x g n u = nr at hI2 e0 e1 e2 ⊢
              obtain ⟨nx, er⟩ := nr
              obtain ⟨hr5, hle5, hst5, hI5⟩ := hI2
              obtain ⟨c_hB5, f_hB5, z_hB5⟩ := bcell hB5; have z0_hB5 := z_hB5 (v2.heap.size) (by first | omega | (simp only [World.size_alloc, World.size_setCell, World.size_drew] <;> omega)); clear z_hB5
              have hltI : ¬ nx.e < x.e := by simpa using hle5
              have hst6 : er ≠ 0 → nx = x := hst5
              clear hst5
              go_upto_region 17 with (fail)
              go_cut [68] (fun v wx => v = .bool false ∧ Below v5.heap.size v5 wx)
              case first =>
                by_cases he : er = 0
                · subst he
                  clear hst6
                  go_wp2_with fail
                  refine (right_any _ _ _ _).mono ?_
                  rw [hr5]
                  rintro r v6 ⟨rfl, hb6⟩
                  go_wp2_with fail
                  go_meet
                  exact ⟨rfl, hb6⟩
                · have hx := hst6 he
                  subst hx
                  have hne : (er != 0) = true := by simpa using he
                  clear hst6
                  go_wp2_with fail
                  refine (right_any _ _ _ _).mono ?_
                  rw [hr5]
                  rintro r v6 ⟨rfl, hb6⟩
                  go_wp2_with fail
                  go_meet
                  exact ⟨rfl, hb6⟩
              case rest =>
                clear hst6
                obtain ⟨v6, h_v6⟩ : ∃ v : World, v = wc := ⟨_, rfl⟩; subst h_v6
                obtain ⟨rfl, hB6⟩ := hcut
                obtain ⟨c_hB6, f_hB6, z_hB6⟩ := bcell hB6; have z0_hB6 := z_hB6 (v2.heap.size) (by first | omega | (simp only [World.size_alloc, World.size_setCell, World.size_drew] <;> omega)); have z1_hB6 := z_hB6 (wo.heap.size + 1) (by first | omega | (simp only [World.size_alloc, World.size_setCell, World.size_drew] <;> omega)); clear z_hB6
                go_upto_if 71 with (fail)
                go_cut [6] (fun v wx => v = .int .i64 (goneOf nx gone) ∧ v6 = wx)
                case first =>
                  by_cases hs2 : nx.s = 2
                  · have hsb : (nx.s == 2) = true := by simpa using hs2
                    go_wp2_with fail
                    go_meet
                    exact ⟨by simp [goneOf, hs2], rfl⟩
                  · have hsb : (nx.s == 2) = false := by simpa using hs2
                    go_wp2_with fail
                    go_meet
                    exact ⟨by simp [goneOf, hs2], rfl⟩
                case rest =>
                  obtain ⟨v7, h_v7⟩ : ∃ v : World, v = wc := ⟨_, rfl⟩; subst h_v7
                  obtain ⟨rfl, rfl⟩ := hcut
                  generalize goneOf nx gone = G at hI5 ⊢
                  have hG0 : 0 ≤ G := hI5.2.1
                  have hG1 : G ≤ 1048576 := Int.le_trans hI5.2.2.1 hI5.2.2.2.2
                  go_upto_region 21 with (fail)
                  go_cut [11] (fun v wx => Rel2 v6 G v wx)
                  case first =>
                    go_wp2_with fail
                    all_goals go_meet
                    all_goals exact ⟨_, by omega, by omega, rfl, Below.refl _ _⟩
                  case rest =>
                  go_wp2_with fail
                  go_loopw [11] (fun v wx => Rel2 v6 G v wx) (fun v wx => (G + 1 - intOf v).toNat)
                  case atStart => exact hcut
                  case round =>
                    obtain ⟨v8, h_v8⟩ : ∃ v : World, v = wr := ⟨_, rfl⟩; subst h_v8
                    obtain ⟨j, hj0, hj1, rfl, hB7⟩ := hrel
                    obtain ⟨c_hB7, f_hB7, z_hB7⟩ := bcell hB7; have z0_hB7 := z_hB7 (v2.heap.size) (by first | omega | (simp only [World.size_alloc, World.size_setCell, World.size_drew] <;> omega)); have z1_hB7 := z_hB7 (wo.heap.size + 1) (by first | omega | (simp only [World.size_alloc, World.size_setCell, World.size_drew] <;> omega)); clear z_hB7
                    by_cases hjG : j ≤ G
                    · have hsp : speaksB nx.e nx.s nx.t j = false := silent hI5 hjG
                      by_cases hjp : 0 < j
                      · go_wp2_with fail
                        refine (speaks_any _ _ _ _ _).mono ?_
                        rw [hsp]
                        rintro r v9 ⟨rfl, hb9⟩
                        go_wp2_with fail
                        go_roundw
                        case rel => exact ⟨j + 1, by omega, by omega, rfl, hB7.trans (hb9.mono hB7.size)⟩
                        case measure => simp [intOf]; omega
                      · go_wp2_with fail
                        go_roundw
                        case rel => exact ⟨j + 1, by omega, by omega, rfl, hB7⟩
                        case measure => simp [intOf]; omega
                    · go_wp2_with fail
                      have hB8 : Below wo.heap.size wo v8 := hB5.trans ((hB6.mono hB5.size).trans (hB7.mono (Nat.le_trans hB5.size hB6.size)))
                      have q0 : v8.cell? ⟨v2.heap.size, 0, none⟩ = some (.int .i64 x.e) := stay hB8 hlt c0
                      have q1 : v8.cell? ⟨v2.heap.size, 1, none⟩ = some (.int .i64 x.s) := stay hB8 hlt c1
                      have q2 : v8.cell? ⟨v2.heap.size, 2, none⟩ = some (.int .u8 x.t) := stay hB8 hlt c2
                      have p0 : v8.frozen? ⟨v2.heap.size, 0, none⟩ = false := stayf hB8 hlt f0
                      have p1 : v8.frozen? ⟨v2.heap.size, 1, none⟩ = false := stayf hB8 hlt f1
                      have p2 : v8.frozen? ⟨v2.heap.size, 2, none⟩ = false := stayf hB8 hlt f2
                      have hB9 : Below w.heap.size w v8 := hB.trans (hB8.mono hB.size)
                      go_roundw
                      case rel =>
                        refine ⟨k + 1, nx, G, by omega, by go_num, rfl, hI5, ?_, by simp only [World.size_setCell]; exact z0_hB7, ?_⟩
                        · repeat (first | exact Below.refl _ _ | refine below_alloc ?_ | refine below_drew ?_ | refine below_set ?_ (by first | (simp; done) | (dsimp only; omega)) | refine below_via (by assumption) ?_)
                        · simp [go_sem, q0, q1, q2, p0, p1, p2]
                      case measure => simp [intOf]; omega
          · go_wp2_with fail
            go_ret
            exact ⟨rfl, hB⟩
end Go.Proofs.Ytebdjaagdfbbgaa.LLeaseForward
