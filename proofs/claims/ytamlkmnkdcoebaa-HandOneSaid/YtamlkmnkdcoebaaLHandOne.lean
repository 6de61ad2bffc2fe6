/- At every moment one station at most holds an agency, with its cargo, and of each epoch one ever held it: for every list of steps the statement's call returns true. -/
import Derived.Test.YtamlkmnkdcoebaaPlayRows
import Derived.Test.YtamlkmnkdcoebaaHandAlive
import Derived.LoopTactic
import Derived.Deep.LoopGhost
namespace Go.Proofs.Ytamlkmnkdcoebaa.LHandOne
open Go.RowKit LeaseSpec Flat Lease HandSpec HandLaws Hand HandPlay Play Go.Proofs.YtamlkmnkdcoebaaW.PrintLast
set_option linter.unusedSimpArgs false
set_option linter.unusedVariables false
set_option maxRecDepth 100000

def Rel (w : World) (len g bm B : Nat) (i : Value) (wr : World) : Prop :=
  ∃ k : Nat, k ≤ len ∧ k ≤ 200 ∧ i = .int .i64 (k : Int) ∧ InOrder w g bm B w.heap.size k wr
set_option maxHeartbeats 8000000 in
theorem walk (a0 : Option Addr) (len0 cap0 : Nat) (r0 : List (List Value)) (w : World) (w0 : IsRows [.int .u8, .int .u16, .int .u8, .int .u8, .str] w a0 len0 cap0 r0) :
    Calls Try.prog 5 #[.slice a0 len0 cap0] w fun e w' => e = .returned (.bool true) ∧ Below w.heap.size w w' := by
  have hmax : len0 ≤ maxLen := Nat.le_trans w0.2.1 w0.2.2.1
  unfold maxLen at hmax
  go_enter Try.func5, Try.ntmps5
  go_wp2_with fail
  refine (HandAlive.alive_any _).mono ?_
  rintro r v1 ⟨rfl, hb1⟩
  go_wp2_with fail
  refine (begun_any _).mono ?_
  rintro r v2 ⟨g, bm, rfl, hg1, hm1, hmg, hP, hM, hb2⟩
  have hB2 : Below w.heap.size w v2 := hb1.trans (hb2.mono hb1.size)
  have hwg : w.heap.size ≤ g := Nat.le_trans hb1.size hg1
  have hwm : w.heap.size ≤ bm := Nat.le_trans hb1.size hm1
  have hgB : g < v2.heap.size := hP.lt
  have hIN : InOrder w g bm v2.heap.size w.heap.size 0 v2 := ⟨_, _, _, _, _, _, _, _, hP, hM, good_begun, by omega, by simp [begunP], hB2⟩
  clear hb1 hb2 hg1 hm1 hP hM hB2
  generalize hB : v2.heap.size = B at *
  go_wp2_with fail
  go_loopw [4] (fun i wr => Rel w len0 g bm B i wr) (fun i _ => 200 - (intOf i).toNat)
  case atStart => exact ⟨0, by omega, by omega, rfl, hIN⟩
  case round =>
    obtain ⟨wo, h_wo⟩ : ∃ v : World, v = wr := ⟨_, rfl⟩; subst h_wo
    clear hIN
    obtain ⟨k, hk, hk2, rfl, p, f, n, E, fl, h, gg, y, hP, hM, hG, hn, hs, hBl⟩ := hrel
    by_cases hkl : k < len0
    · have hkI : (k : Int) < (len0 : Int) := by omega
      by_cases hk200 : k < 200
      · have hk2I : (k : Int) < 200 := by omega
        obtain ⟨b, off, hab, hbw, hcells⟩ := step_cells w0 (by omega)
        subst hab
        obtain ⟨kn, at_, an, bn, c, h16, hcs, q0, q1, q2, d0, d1, d2, d3, d4⟩ := hcells k hkl
        rw [← hBl.cell (p := ⟨b, _, none⟩) hbw] at d0 d1 d2 d3 d4
        have hbr : b < wo.heap.size := Nat.lt_of_lt_of_le hbw hBl.size
        have HSTEP := Lib.hid (fun W hp => step_any (bm := bm) (B := B) kn at_ an bn c W (g := g) hp hG h16 hcs (by omega))
        obtain ⟨E', fl', h', gg', y', hG'⟩ := good_step hG (kn % 6) at_ (an % 4) (bn % 4) c (Nat.mod_lt _ (by decide)) (Nat.mod_lt _ (by decide))
        have hs' := step_said p (kn % 6) at_ (an % 4) (bn % 4) c
        generalize stepP p (kn % 6) at_ (an % 4) (bn % 4) c = p' at HSTEP hG' hs'
        clear hcells hG q0 q1 q2
        go_wp2_with fail
        refine (HSTEP.out _ hP).mono ?_
        rintro r v3 ⟨rfl, hP3, hK3⟩
        have hM3 := hM.kb hK3 (by omega) (by omega)
        have hB3 : Below w.heap.size w v3 := hBl.trans (hK3.below (by omega) (by omega))
        clear hP hM hBl hK3 d0 d1 d2 d3 d4 hbr HSTEP
        go_wp2_with fail
        refine (one_any p' h' E' f n v3 g bm B w.heap.size hP3 hM3 (good_one hG') (by omega) (by omega) (by omega) (by omega)).mono ?_
        rintro r v4 ⟨rfl, hP4, ⟨f', n', hM4, hn', hff⟩, hB4⟩
        have hIN : InOrder w g bm B w.heap.size (k + 1) v4 := ⟨p', f', n', E', fl', h', gg', y', hP4, hM4, good_more hG' hff, by omega, by omega, hB3.trans hB4⟩
        clear hP3 hM3 hG' hP4 hM4 hff hB3 hB4
        go_wp2_with fail
        go_roundw
        case rel => exact ⟨k + 1, by omega, by omega, by go_num, hIN⟩
        case measure => simp [intOf]; omega
      · have hk2I : ¬ (k : Int) < 200 := by omega
        clear hP hM hG
        go_wp2_with fail
        go_ret
        exact ⟨rfl, hBl⟩
    · have hkI : ¬ (k : Int) < (len0 : Int) := by omega
      clear hP hM hG
      go_wp2_with fail
      go_ret
      exact ⟨rfl, hBl⟩
end Go.Proofs.Ytamlkmnkdcoebaa.LHandOne
