/- Agency that goes on and on, an epoch more each time, is always held where it is last: for every row of stations the statement's call returns true. -/
import Derived.Test.YtebdjaagdfbbgaaLeaseAlive
import Derived.Test.YtebdjaagdfbbgaaLeaseChn
import Derived.Lib.Hide
import Derived.LoopTactic
import Derived.Deep.LoopGhost
import Derived.Deep.DeepCutAuto
import Derived.Deep.CutBlock
import Derived.OwnWalk
import Derived.RegionTactic
import Derived.OpenShut
namespace Go.Proofs.Ytebdjaagdfbbgaa.LLeaseChain
open Go.RowKit LeaseSpec Flat Lease LeaseFwd LeaseChn
set_option linter.unusedSimpArgs false
set_option linter.unusedVariables false

/-- Eight leases, one behind the other. -/
def ArrAt (w : World) (B : Nat) (ls : Nat → L) : Prop :=
  ∀ k, k < 8 → w.cell? ⟨B, k * 3, none⟩ = some (.int .i64 (ls k).e) ∧ w.cell? ⟨B, k * 3 + 1, none⟩ = some (.int .i64 (ls k).s) ∧ w.cell? ⟨B, k * 3 + 2, none⟩ = some (.int .u8 (ls k).t)

theorem sc_other {w : World} {B o q : Nat} {v : Value} (h : o ≠ q) : (w.setCell ⟨B, o, none⟩ v).cell? ⟨B, q, none⟩ = w.cell? ⟨B, q, none⟩ :=
  World.cell?_setCell_other _ _ _ _ (by intro e; injection e; contradiction)

theorem arr_store {w : World} {B i : Nat} {ls : Nat → L} {x : L} (hA : ArrAt w B ls) (hi : i < 8) :
    ArrAt (((w.setCell ⟨B, i * 3, none⟩ (.int .i64 x.e)).setCell ⟨B, i * 3 + 1, none⟩ (.int .i64 x.s)).setCell ⟨B, i * 3 + 2, none⟩ (.int .u8 x.t)) B (upd ls i x) := by
  intro k hk
  by_cases h : k = i
  · subst h
    obtain ⟨h0, h1, h2⟩ := hA k hk
    have e0 : (w.setCell ⟨B, k * 3, none⟩ (.int .i64 x.e)).cell? ⟨B, k * 3 + 1, none⟩ = some (.int .i64 (ls k).s) := by rw [sc_other (by omega), h1]
    have e1 : ((w.setCell ⟨B, k * 3, none⟩ (.int .i64 x.e)).setCell ⟨B, k * 3 + 1, none⟩ (.int .i64 x.s)).cell? ⟨B, k * 3 + 2, none⟩ = some (.int .u8 (ls k).t) := by rw [sc_other (by omega), sc_other (by omega), h2]
    refine ⟨?_, ?_, ?_⟩
    · rw [sc_other (by omega), sc_other (by omega), World.cell?_setCell_same _ _ _ h0]; simp [upd]
    · rw [sc_other (by omega), World.cell?_setCell_same _ _ _ e0]; simp [upd]
    · rw [World.cell?_setCell_same _ _ _ e1]; simp [upd]
  · obtain ⟨h0, h1, h2⟩ := hA k hk
    refine ⟨?_, ?_, ?_⟩
    · rw [sc_other (by omega), sc_other (by omega), sc_other (by omega), h0]; simp [upd, h]
    · rw [sc_other (by omega), sc_other (by omega), sc_other (by omega), h1]; simp [upd, h]
    · rw [sc_other (by omega), sc_other (by omega), sc_other (by omega), h2]; simp [upd, h]

theorem arr_drew {w : World} {B : Nat} {ls : Nat → L} (h : ArrAt w B ls) : ArrAt w.drew B ls := fun k hk => h k hk

def RelC (w : World) (len B : Nat) (a e i : Value) (wr : World) : Prop :=
  ∃ (k at_ : Nat) (ep : Int) (ls : Nat → L), k ≤ len ∧ k ≤ 100 ∧ i = .int .i64 k ∧ at_ < 8 ∧ a = .int .u8 at_ ∧ e = .int .i64 ep ∧ 1 ≤ ep ∧ ep ≤ k + 1 ∧ Ok ls at_ ep ∧
    Below w.heap.size w wr ∧ B < wr.heap.size ∧ ArrAt wr B ls ∧ ∀ o, wr.frozen? ⟨B, o, none⟩ = false

def RelJ (v8 : World) (q : Value) (wx : World) : Prop := ∃ j : Nat, j ≤ 8 ∧ q = .int .i64 j ∧ Below v8.heap.size v8 wx

theorem bytes_at {w : World} {a : Option Addr} {len cap : Nat} {r : List (List Value)} (h : IsRows [.int .u8] w a len cap r) (hpos : 0 < len) :
    ∃ b off, a = some ⟨b, off, none⟩ ∧ b < w.heap.size ∧ ∀ i, i < len → ∃ n : Nat, n < 256 ∧ w.cell? ⟨b, off + i, none⟩ = some (.int .u8 n) := by
  obtain ⟨hl, _, _, hf, hc⟩ := h
  obtain ⟨b, off, rfl, hd⟩ := hc hpos
  have key : ∀ i, i < len → ∃ n : Nat, n < 256 ∧ w.cell? ⟨b, off + i, none⟩ = some (.int .u8 n) := fun i hi => by
    have h0 := hd i hi 0 (by decide)
    have hr : r.getD i [] = r[i]'(by omega) := by simp [List.getD, List.getElem?_eq_getElem (show i < r.length by omega)]
    rw [hr] at h0
    have hfit := hf (r[i]'(by omega)) (List.getElem_mem _)
    generalize r[i]'(by omega) = row at h0 hfit
    obtain ⟨n, _, rfl, hw, x1⟩ := hfit.int
    obtain rfl := x1.done
    have hb := bounds_u8 hw
    obtain ⟨m, rfl⟩ := Int.eq_ofNat_of_zero_le hb.1
    exact ⟨m, by omega, by simpa using h0⟩
  refine ⟨b, off, rfl, ?_, key⟩
  obtain ⟨_, _, h0⟩ := key 0 hpos
  exact cell_lt h0

set_option maxRecDepth 100000 in
set_option maxHeartbeats 4000000 in
theorem walk (a0 : Option Addr) (len0 cap0 : Nat) (r0 : List (List Value)) (w : World) (w0 : IsRows [.int .u8] w a0 len0 cap0 r0) :
    Calls Try.prog 6 #[.slice a0 len0 cap0] w fun e w' => e = .returned (.bool true) ∧ Below w.heap.size w w' := by
  have hmax : len0 ≤ maxLen := Nat.le_trans w0.2.1 w0.2.2.1
  unfold maxLen at hmax
  have t1 : take 0 0 0 1 = (⟨1, 1, 0⟩, 0) := by decide
  go_enter Try.func6, Try.ntmps6
  go_wp2_with fail
  refine (LeaseAlive.alive_any _).mono ?_
  rintro r v1 ⟨rfl, hb1⟩
  go_wp2_with fail
  refine (take_any 0 0 0 1 _).mono ?_
  rw [t1]
  rintro r v2 ⟨rfl, hb2⟩
  obtain ⟨c_hb2, f_hb2, z_hb2⟩ := bcell hb2; have z0_hb2 := z_hb2 (v1.heap.size) (by first | omega | (simp only [World.size_alloc, World.size_setCell, World.size_drew] <;> omega)); clear z_hb2
  go_wp2_with fail
  generalize hW : World.setCell _ ⟨v1.heap.size, 2, none⟩ _ = v3
  have hv1 : w.heap.size ≤ v1.heap.size := hb1.size
  have hfacts : ArrAt v3 v1.heap.size (upd (fun _ => ⟨0, 0, 0⟩) 0 ⟨1, 1, 0⟩) ∧ (∀ o, v3.frozen? ⟨v1.heap.size, o, none⟩ = false) ∧ Below w.heap.size w v3 ∧ v1.heap.size < v3.heap.size := by
    subst hW
    refine ⟨fun k hk => ?_, fun o => ?_, ?_, ?_⟩
    · obtain rfl | rfl | rfl | rfl | rfl | rfl | rfl | rfl : k = 0 ∨ k = 1 ∨ k = 2 ∨ k = 3 ∨ k = 4 ∨ k = 5 ∨ k = 6 ∨ k = 7 := by omega
      all_goals simp [go_sem, c_hb2, f_hb2, z0_hb2, upd]
    · simp [go_sem, f_hb2]
    · repeat (first | (with_reducible exact Below.refl _ _) | (with_reducible assumption) | (with_reducible refine below_alloc ?_) | (with_reducible refine below_drew ?_) | (with_reducible refine below_set ?_ (by first | (simp; done) | (dsimp only; omega))) | (with_reducible refine below_via (by assumption) ?_))
    · simp only [World.size_setCell]; exact z0_hb2
  obtain ⟨hA3, hF3, hB3, hn3⟩ := hfacts
  clear hW
  generalize h4 : World.alloc v3 _ = v4
  obtain ⟨hb4, n4, _⟩ := alloc_facts h4
  clear h4
  go_loopw [6, 7, 8] (fun a e i wr => RelC w len0 v1.heap.size a e i wr) (fun a e i wr => len0 - (intOf i).toNat)
  case atStart =>
    refine ⟨0, 0, 1, _, Nat.zero_le _, by decide, rfl, by decide, rfl, rfl, by decide, by decide, ok_start, by repeat (first | (with_reducible exact Below.refl _ _) | (with_reducible assumption) | (with_reducible refine below_alloc ?_) | (with_reducible refine below_drew ?_) | (with_reducible refine below_set ?_ (by first | (simp; done) | (dsimp only; omega))) | (with_reducible refine below_via (by assumption) ?_)), by omega, ?_, fun o => stayf hb4 hn3 (hF3 o)⟩
    intro k hk
    exact ⟨stay hb4 hn3 (hA3 k hk).1, stay hb4 hn3 (hA3 k hk).2.1, stay hb4 hn3 (hA3 k hk).2.2⟩
  case round =>
    obtain ⟨wo, h_wo⟩ : ∃ v : World, v = wr := ⟨_, rfl⟩; subst h_wo
    obtain ⟨k, at_, ep, ls, hk, hk100, rfl, hat, rfl, rfl, hep1, hep2, hok, hB, hlt, hA, hF⟩ := hrel
    by_cases hkl : k < len0 ∧ k < 100
    · obtain ⟨hkl, hk1⟩ := hkl
      have hkI : (k : Int) < (len0 : Int) := by omega
      have hkJ : (k : Int) < 100 := by omega
      obtain ⟨b, off, ha, hbw, hbytes⟩ := bytes_at w0 (by omega)
      subst ha
      obtain ⟨n, hn, d0⟩ := hbytes k hkl
      rw [← hB.cell (p := ⟨b, _, none⟩) hbw] at d0
      clear hbytes
      go_upto_if 41 with (fail)
      obtain ⟨nx, hnx, hn8⟩ : ∃ nx : Nat, (n : Int) % 8 = nx ∧ nx < 8 := ⟨n % 8, by omega, by omega⟩
      rw [hnx]
      have Hnx := Lib.hid hnx
      clear hnx
      by_cases hne : nx = at_
      · have hneb : ((nx : Int) == (at_ : Int)) = true := by simp [hne]
        go_wp2_with fail
        go_roundw
        case rel => exact ⟨k + 1, at_, ep, ls, by omega, by omega, by go_num, hat, rfl, rfl, hep1, by omega, hok, hB, hlt, hA, hF⟩
        case measure => simp [intOf]; omega
      · have hneb : ((nx : Int) == (at_ : Int)) = false := by simp; omega
        obtain ⟨a0, a1, a2⟩ := hA at_ hat
        rw [ok_held hok hat] at a0 a1 a2
        obtain ⟨x0, x1, x2⟩ := hA nx hn8
        have hg := give_ok hep1 (by omega) hn8
        have ht := take_ok hok hep1 (by omega) hn8 hne
        have ha8 : (at_ : Int) < 8 := by omega
        have hx8 : (nx : Int) < 8 := by omega
        go_wp2_with fail
        refine (give_any ep 1 0 nx _).mono ?_
        rw [hg]
        rintro r v5 ⟨rfl, hb5⟩
        obtain ⟨c_hb5, f_hb5, z_hb5⟩ := bcell hb5; have z0_hb5 := z_hb5 (v1.heap.size) (by first | omega | (simp only [World.size_alloc, World.size_setCell, World.size_drew] <;> omega)); clear z_hb5
        go_wp2_with fail
        generalize h5 : World.alloc v5 _ = v5a
        obtain ⟨hb5a, n5, k5⟩ := alloc_facts h5
        clear h5
        obtain ⟨c_hb5a, f_hb5a, z_hb5a⟩ := bcell hb5a; have z0_hb5a := z_hb5a (v1.heap.size) (by first | omega | (simp only [World.size_alloc, World.size_setCell, World.size_drew] <;> omega)); clear z_hb5a
        refine (take_any _ _ _ _ _).mono ?_
        rw [ht]
        rintro r v6 ⟨rfl, hb6⟩
        obtain ⟨c_hb6, f_hb6, z_hb6⟩ := bcell hb6; have z0_hb6 := z_hb6 (v1.heap.size) (by first | omega | (simp only [World.size_alloc, World.size_setCell, World.size_drew] <;> omega)); have z1_hb6 := z_hb6 (v5.heap.size) (by first | omega | (simp only [World.size_alloc, World.size_setCell, World.size_drew] <;> omega)); clear z_hb6
        go_upto_region 16 with (fail)
        generalize h7 : World.alloc v6 _ = v7
        obtain ⟨hb7, n7, k7⟩ := alloc_facts h7
        clear h7
        obtain ⟨c_hb7, f_hb7, z_hb7⟩ := bcell hb7; have z0_hb7 := z_hb7 (v1.heap.size) (by first | omega | (simp only [World.size_alloc, World.size_setCell, World.size_drew] <;> omega)); have z1_hb7 := z_hb7 (v5.heap.size) (by first | omega | (simp only [World.size_alloc, World.size_setCell, World.size_drew] <;> omega)); clear z_hb7
        have hB7 : Below wo.heap.size wo v7 := by repeat (first | (with_reducible exact Below.refl _ _) | (with_reducible assumption) | (with_reducible refine below_alloc ?_) | (with_reducible refine below_drew ?_) | (with_reducible refine below_set ?_ (by first | (simp; done) | (dsimp only; omega))) | (with_reducible refine below_via (by assumption) ?_))
        obtain ⟨x0, x1, x2⟩ := hA nx hn8
        have a0 := stay hB7 hlt a0
        have a1 := stay hB7 hlt a1
        have a2 := stay hB7 hlt a2
        have x0 := stay hB7 hlt x0
        have x1 := stay hB7 hlt x1
        have x2 := stay hB7 hlt x2
        have hF7 : ∀ o, v7.frozen? ⟨v1.heap.size, o, none⟩ = false := fun o => stayf hB7 hlt (hF o)
        have e0 : v7.cell? ⟨v5.heap.size, 0, none⟩ = some (.int .i64 ep) := stay hb7 z1_hb6 (stay hb6 n5 (k5 0))
        have e1 : v7.cell? ⟨v5.heap.size, 1, none⟩ = some (.int .i64 2) := stay hb7 z1_hb6 (stay hb6 n5 (k5 1))
        have e2 : v7.cell? ⟨v5.heap.size, 2, none⟩ = some (.int .u8 nx) := stay hb7 z1_hb6 (stay hb6 n5 (k5 2))
        have g0 : v7.cell? ⟨v6.heap.size, 0, none⟩ = some (.int .i64 (ep + 1)) := k7 0
        have g1 : v7.cell? ⟨v6.heap.size, 1, none⟩ = some (.int .i64 1) := k7 1
        have g2 : v7.cell? ⟨v6.heap.size, 2, none⟩ = some (.int .u8 0) := k7 2
        have hA7 : ArrAt v7 v1.heap.size ls := fun k hk => ⟨stay hB7 hlt (hA k hk).1, stay hB7 hlt (hA k hk).2.1, stay hB7 hlt (hA k hk).2.2⟩
        have hB0 : Below w.heap.size w v7 := hB.trans (hB7.mono hB.size)
        have z5 : v5.heap.size ≠ v1.heap.size := by omega
        have z6 : v6.heap.size ≠ v1.heap.size := by omega
        go_cut [] (fun wx => ArrAt wx v1.heap.size (upd (upd ls at_ ⟨ep, 2, nx⟩) nx ⟨ep + 1, 1, 0⟩) ∧ Below w.heap.size w wx ∧ v1.heap.size < wx.heap.size ∧ ∀ o, wx.frozen? ⟨v1.heap.size, o, none⟩ = false)
        case first =>
          have mn01 : ¬ nx * 3 = at_ * 3 + 1 := by omega
          have mn02 : ¬ nx * 3 = at_ * 3 + 2 := by omega
          have mn10 : ¬ nx * 3 + 1 = at_ * 3 := by omega
          have mn12 : ¬ nx * 3 + 1 = at_ * 3 + 2 := by omega
          have mn20 : ¬ nx * 3 + 2 = at_ * 3 := by omega
          have mn21 : ¬ nx * 3 + 2 = at_ * 3 + 1 := by omega
          have ma01 : ¬ at_ * 3 = nx * 3 + 1 := by omega
          have ma02 : ¬ at_ * 3 = nx * 3 + 2 := by omega
          have ma10 : ¬ at_ * 3 + 1 = nx * 3 := by omega
          have ma12 : ¬ at_ * 3 + 1 = nx * 3 + 2 := by omega
          have ma20 : ¬ at_ * 3 + 2 = nx * 3 := by omega
          have ma21 : ¬ at_ * 3 + 2 = nx * 3 + 1 := by omega
          have mne : ¬ nx = at_ := hne
          have mne2 : ¬ at_ = nx := by omega
          clear c_hb5 f_hb5 c_hb5a f_hb5a c_hb6 f_hb6 c_hb7 f_hb7 c_hb2 f_hb2 k7 k5 hA hF hA3 hF3
          go_region
          all_goals (go_wp2_with fail; go_meet)
          all_goals refine ⟨?_, ?_, ?_, ?_⟩
          · exact arr_drew (arr_store (x := ⟨ep + 1, 1, 0⟩) (arr_store (x := ⟨ep, 2, nx⟩) hA7 hat) hn8)
          · repeat (first | (with_reducible exact Below.refl _ _) | (with_reducible assumption) | (with_reducible refine below_alloc ?_) | (with_reducible refine below_drew ?_) | (with_reducible refine below_set ?_ (by first | (simp; done) | (dsimp only; omega))) | (with_reducible refine below_via (by assumption) ?_))
          · simp only [World.size_drew, World.size_setCell]; omega
          · intro o; simp [go_sem, hF7]
        case rest =>
          obtain ⟨v8, h_v8⟩ : ∃ v : World, v = wc := ⟨_, rfl⟩; subst h_v8
          obtain ⟨hA8, hB8, hn8', hF8⟩ := hcut
          have hok2 := ok_step hok hep1 (by omega) hat hn8 hne
          generalize upd (upd ls at_ ⟨ep, 2, nx⟩) nx ⟨ep + 1, 1, 0⟩ = ls2 at hok2 hA8
          go_wp2_with fail
          go_loopw [74] (fun q wx => RelJ v8 q wx) (fun q wx => 8 - (intOf q).toNat)
          case atStart => exact ⟨0, by decide, rfl, Below.refl _ _⟩
          case round =>
            obtain ⟨v9, h_v9⟩ : ∃ v : World, v = wr := ⟨_, rfl⟩; subst h_v9
            obtain ⟨j, hj, rfl, hB9⟩ := hrel
            by_cases hj8 : j < 8
            · obtain ⟨a0, a1, a2⟩ := hA8 j hj8
              have a0 := stay hB9 hn8' a0
              have a1 := stay hB9 hn8' a1
              have a2 := stay hB9 hn8' a2
              obtain ⟨k1, k2⟩ := ok_speaks hok2 (by omega) (by omega) hj8
              have hjI : (j : Int) < 8 := by omega
              by_cases hjn : j = nx
              · subst hjn
                have q1 : ((ls2 j).s == 1) = true := by rw [k1]; simp
                have q2 : ((j : Int) == (j : Int)) = true := by simp
                rw [decide_eq_true rfl] at k2
                clear k1
                go_wp2_with fail
                refine (speaks_any _ _ _ _ _).mono ?_
                rw [k2]
                rintro r v10 ⟨rfl, hb10⟩
                go_wp2_with fail
                go_roundw
                case rel => exact ⟨j + 1, by omega, by go_num, hB9.trans (hb10.mono hB9.size)⟩
                case measure => simp [intOf]; omega
              · have q1 : ((ls2 j).s == 1) = false := by rw [k1]; simp [hjn]
                have q2 : ((j : Int) == (nx : Int)) = false := by simp only [beq_eq_false_iff_ne]; omega
                rw [decide_eq_false hjn] at k2
                clear k1
                go_wp2_with fail
                refine (speaks_any _ _ _ _ _).mono ?_
                rw [k2]
                rintro r v10 ⟨rfl, hb10⟩
                go_wp2_with fail
                go_roundw
                case rel => exact ⟨j + 1, by omega, by go_num, hB9.trans (hb10.mono hB9.size)⟩
                case measure => simp [intOf]; omega
            · have hjI : ¬ (j : Int) < 8 := by omega
              go_wp2_with fail
              go_roundw
              case rel =>
                refine ⟨k + 1, nx, ep + 1, ls2, by omega, by omega, by go_num, hn8, rfl, rfl, by omega, by omega, hok2, hB8.trans (hB9.mono hB8.size), Nat.lt_of_lt_of_le hn8' hB9.size, ?_, fun o => stayf hB9 hn8' (hF8 o)⟩
                intro i hi
                exact ⟨stay hB9 hn8' (hA8 i hi).1, stay hB9 hn8' (hA8 i hi).2.1, stay hB9 hn8' (hA8 i hi).2.2⟩
              case measure => simp [intOf]; omega
    · by_cases hkl2 : k < len0
      · have hk3 : ¬ (k : Int) < 100 := by omega
        have hk4 : (k : Int) < (len0 : Int) := by omega
        go_wp2_with fail
        go_ret
        exact ⟨rfl, hB⟩
      · have hk4 : ¬ (k : Int) < (len0 : Int) := by omega
        go_wp2_with fail
        go_ret
        exact ⟨rfl, hB⟩
end Go.Proofs.Ytebdjaagdfbbgaa.LLeaseChain
