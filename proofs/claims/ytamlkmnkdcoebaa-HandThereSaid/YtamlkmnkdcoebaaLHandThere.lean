/- Behind all that, if who keeps a cargo says it again and all comes, somebody holds the agency, with its cargo, and nobody keeps one any more: for every list of steps the statement's call returns true. -/
import Derived.Test.YtamlkmnkdcoebaaPlayKeep
import Derived.Test.YtamlkmnkdcoebaaHandAlive
import Derived.LoopTactic
import Derived.Deep.LoopGhost
import Derived.Deep.MidRow
namespace Go.Proofs.Ytamlkmnkdcoebaa.LHandThere
open Go.RowKit LeaseSpec LeaseFwd Flat Lease HandSpec HandLaws Hand HandPlay Play Go.Proofs.YtamlkmnkdcoebaaW.PrintLast
set_option linter.unusedSimpArgs false
set_option linter.unusedVariables false
set_option maxRecDepth 100000

def Rel1 (w : World) (len g bm B : Nat) (i : Value) (wr : World) : Prop :=
  ∃ k : Nat, k ≤ len ∧ k ≤ 150 ∧ i = .int .i64 (k : Int) ∧ InOrder w g bm B w.heap.size k wr
def Rel2 (w : World) (g bm B : Nat) (i : Value) (wr : World) : Prop :=
  ∃ r : Nat, r ≤ 6 ∧ i = .int .i64 (r : Int) ∧ Ended w g bm B w.heap.size (fun _ => r = 0) wr
def Rel3 (w : World) (g bm B r : Nat) (i : Value) (wr : World) : Prop :=
  ∃ a : Nat, a ≤ 4 ∧ i = .int .i64 (a : Int) ∧ Ended w g bm B w.heap.size (fun i => r = 0 ∧ (a : Int) ≤ i) wr
def Rel5 (w v : World) (p : PS) (h : Nat) (s8 s57 : Value) (wr : World) : Prop :=
  ∃ i : Nat, i ≤ 4 ∧ s57 = .int .i64 (i : Int) ∧ (∃ cnt : Nat, s8 = .int .i64 (cnt : Int) ∧ ((cnt = 0 ∧ i ≤ h) ∨ (cnt = 1 ∧ h < i))) ∧ Below v.heap.size v wr
theorem ended_mono {w wr : World} {g bm B B0 : Nat} {P Q : Int → Prop} (h : Ended w g bm B B0 P wr) (hPQ : ∀ i, four i → P i → Q i) : Ended w g bm B B0 Q wr := by
  obtain ⟨p, f, n, E, fl, hh, gg, y, h1, h2, h3, h4, h5, h6⟩ := h
  exact ⟨p, f, n, E, fl, hh, gg, y, h1, h2, h3, h4, h5, fun i hi hk => hPQ i hi (h6 i hi hk)⟩
set_option maxHeartbeats 16000000 in
theorem walk (a0 : Option Addr) (len0 cap0 : Nat) (r0 : List (List Value)) (w : World) (w0 : IsRows [.int .u8, .int .u16, .int .u8, .int .u8, .str] w a0 len0 cap0 r0) :
    Calls Try.prog 6 #[.slice a0 len0 cap0] w fun e w' => e = .returned (.bool true) ∧ Below w.heap.size w w' := by
  have hmax : len0 ≤ maxLen := Nat.le_trans w0.2.1 w0.2.2.1
  unfold maxLen at hmax
  go_enter Try.func6, Try.ntmps6
  go_wp2_with fail
  refine (HandAlive.alive_any _).mono ?_
  rintro r v1 ⟨rfl, hb1⟩
  go_wp2_with fail
  refine (begun_any _).mono ?_
  rintro r v2 ⟨g, bm, rfl, hg1, hm1, hmg, hP, hM, hb2⟩
  have hB2 : Below w.heap.size w v2 := hb1.trans (hb2.mono hb1.size)
  have hwg : w.heap.size ≤ g := Nat.le_trans hb1.size hg1
  have hwm : w.heap.size ≤ bm := Nat.le_trans hb1.size hm1
  have hgB : g < v2.heap.size := hP.lt
  have hIN : InOrder w g bm v2.heap.size w.heap.size 0 v2 := ⟨_, _, _, _, _, _, _, _, hP, hM, good_begun, by omega, by simp [begunP], hB2⟩
  clear hb1 hb2 hg1 hm1 hP hM hB2
  generalize hB : v2.heap.size = B at *
  clear hB
  go_wp2_with fail
  go_loopw [4] (fun i wr => Rel1 w len0 g bm B i wr) (fun i _ => 150 - (intOf i).toNat)
  case atStart => exact ⟨0, by omega, by omega, rfl, hIN⟩
  case round =>
    obtain ⟨wo, h_wo⟩ : ∃ v : World, v = wr := ⟨_, rfl⟩; subst h_wo
    clear hIN
    obtain ⟨k, hk, hk2, rfl, hIO⟩ := hrel
    by_cases hkl : k < len0 ∧ k < 150
    · obtain ⟨hkl, hk200⟩ := hkl
      obtain ⟨p, f, n, E, fl, h, gg, y, hP, hM, hG, hn, hs, hBl⟩ := hIO
      have hkI : (k : Int) < (len0 : Int) := by omega
      have hk2I : (k : Int) < 150 := by omega
      obtain ⟨b, off, hab, hbw, hcells⟩ := step_cells w0 (by omega)
      subst hab
      obtain ⟨kn, at_, an, bn, c, h16, hcs, q0, q1, q2, d0, d1, d2, d3, d4⟩ := hcells k hkl
      rw [← hBl.cell (p := ⟨b, _, none⟩) hbw] at d0 d1 d2 d3 d4
      have hbr : b < wo.heap.size := Nat.lt_of_lt_of_le hbw hBl.size
      have HSTEP := Lib.hid (fun W hp => step_any (bm := bm) (B := B) kn at_ an bn c W (g := g) hp hG h16 hcs (by omega))
      obtain ⟨E', fl', h', gg', y', hG'⟩ := good_step hG (kn % 6) at_ (an % 4) (bn % 4) c (Nat.mod_lt _ (by decide)) (Nat.mod_lt _ (by decide))
      have hs' := step_said p (kn % 6) at_ (an % 4) (bn % 4) c
      generalize stepP p (kn % 6) at_ (an % 4) (bn % 4) c = p' at HSTEP hG' hs'
      clear hcells hG q0 q1 q2
      go_wp2_with fail
      refine (HSTEP.out _ hP).mono ?_
      rintro r v3 ⟨rfl, hP3, hK3⟩
      have hM3 := hM.kb hK3 (by omega) (by omega)
      have hB3 : Below w.heap.size w v3 := hBl.trans (hK3.below (by omega) (by omega))
      have hIN : InOrder w g bm B w.heap.size (k + 1) v3 := ⟨p', f, n, E', fl', h', gg', y', hP3, hM3, hG', by omega, by omega, hB3⟩
      clear hP hM hBl hK3 d0 d1 d2 d3 d4 hbr HSTEP hP3 hM3 hG' hB3
      go_wp2_with fail
      go_roundw
      case rel => exact ⟨k + 1, by omega, by omega, by go_num, hIN⟩
      case measure => simp [intOf]; omega
    · have hEN : Ended w g bm B w.heap.size (fun _ => 0 = 0) wo := by
        obtain ⟨p, f, n, E, fl, h, gg, y, hP, hM, hG, hn, hs, hBl⟩ := hIO
        exact ⟨p, f, n, E, fl, h, gg, y, hP, hM, hG, by omega, hBl, fun _ _ _ => rfl⟩
      have HEN := Lib.hid hEN
      clear hIO hEN
      rcases (by omega : ¬ (k : Int) < (len0 : Int) ∨ ((k : Int) < (len0 : Int) ∧ ¬ (k : Int) < 150)) with hkI | ⟨hkI, hk2I⟩
      · go_wp2_with fail
        go_loopw [30] (fun i wr => Rel2 w g bm B i wr) (fun i _ => 6 - (intOf i).toNat)
        case atStart => exact ⟨0, by omega, rfl, ended_mono HEN.out (fun _ _ _ => rfl)⟩
        case round =>
          obtain ⟨wq, h_wq⟩ : ∃ v : World, v = wr := ⟨_, rfl⟩; subst h_wq
          clear HEN
          obtain ⟨r, hr6, rfl, hED⟩ := hrel
          by_cases hr : r = 6
          · subst hr
            obtain ⟨p, f, n, E, fl, h, gg, y, hP, hM, hG, hn, hBl, hkeep⟩ := hED
            have hfl : fl = false := by
              cases hf : fl with
              | false => rfl
              | true =>
                obtain ⟨h1, _, _, _, _, h2, _⟩ := hG.inv.fly hf
                exact absurd (hkeep _ h1 h2) (by simp)
            obtain ⟨hh4, hs1, _, _⟩ := hG.inv.held hfl
            obtain ⟨hn4, hnl, rfl⟩ := four_of hh4
            have hone : ∀ i : Nat, i < 4 → i ≠ hn4 → (p.s i).s ≠ 1 := fun i hi hne h1 => hne (by have := (holder hG.inv (four_nat hi) h1).2; omega)
            have hk0 : ∀ i : Nat, i < 4 → (p.s i).k = false := fun i hi => by
              cases hk : (p.s i).k with
              | false => rfl
              | true => exact absurd (hkeep _ (four_nat hi) hk) (by simp)
            have hOK := good_one hG
            have HC := Lib.hid (hP.row24)
            have HIDX := Lib.hid (idx4r p)
            have HH1 := Lib.hid hs1
            have HONE := Lib.hid hone
            have HK0 := Lib.hid hk0
            clear hs1 hone hk0 hkeep hfl
            have hglt := hP.lt
            go_wp2_with (first | (with_reducible refine wpList_load_mid rfl 62 (.tmp 55) rfl g 0 rfl (row24 p) _ HC.out Try.underlying62 rfl (by kernel_rfl) ?_))
            go_loopw [8, 57] (fun s8 s57 wr => Rel5 w wq p hn4 s8 s57 wr) (fun _ s57 _ => 4 - (intOf s57).toNat)
            case atStart => exact ⟨0, by omega, rfl, ⟨0, rfl, .inl ⟨rfl, by omega⟩⟩, Below.refl _ _⟩
            case round =>
              obtain ⟨wz, h_wz⟩ : ∃ v : World, v = wr := ⟨_, rfl⟩; subst h_wz
              obtain ⟨i, hi, rfl, ⟨cnt, rfl, hcase⟩, hBz⟩ := hrel
              have hzz := hBz.size
              by_cases hi4 : i = 4
              · subst hi4
                obtain rfl : cnt = 1 := by omega
                clear hcase HIDX HC
                go_wp2_with fail
                refine (one_any p hn4 E f n wz g bm B w.heap.size (hP.kept hBz) (hM.below hBz hM.lt) hOK (by omega) (by omega) (by omega) (by omega)).mono ?_
                rintro r v4 ⟨rfl, _, _, hB4⟩
                go_wp2_with fail
                go_ret
                exact ⟨by first | rfl | simp, (hBl.trans (hBz.mono hBl.size)).trans hB4⟩
              · have hI : (i : Int) < 4 := by omega
                have hidx := HIDX.out i (by omega)
                have hk := HK0.out i (by omega)
                have hon := HONE.out i (by omega)
                have hwhen : i = hn4 → (p.s i).s = 1 := fun e => by rw [e]; exact HH1.out
                generalize hx : p.s i = x at hidx hk hon hwhen
                obtain ⟨me, e, s, t, c, kk⟩ := x
                dsimp only at hidx hk hon hwhen
                subst hk
                clear hx
                have hBn : Below wq.heap.size wq (wz.alloc (.cells #[.int .u8 me, .int .i64 e, .int .i64 s, .int .u8 t, .string c, .bool false] 31)) := hBz.alloc hzz _
                have HBN := Lib.hid hBn
                clear hBn
                by_cases hih : i = hn4
                · obtain rfl := hwhen hih
                  have HIH := Lib.hid hih
                  obtain rfl : cnt = 0 := by omega
                  clear hon hwhen hih hcase
                  go_wp2_with fail
                  go_roundw
                  case rel => exact ⟨i + 1, by omega, by go_num, ⟨1, rfl, .inr ⟨rfl, by have := HIH.out; omega⟩⟩, HBN.out⟩
                  case measure => simp [intOf]; omega
                · have hs1 := hon hih
                  have hs1b : (s == 1) = false := by simp [hs1]
                  have HC2 := Lib.hid hcase
                  have HIH := Lib.hid hih
                  clear hon hwhen hih hcase
                  go_wp2_with fail
                  go_roundw
                  case rel => exact ⟨i + 1, by omega, by go_num, ⟨cnt, rfl, by have := HIH.out; have := HC2.out; omega⟩, HBN.out⟩
                  case measure => simp [intOf]; omega
          · have hrI : (r : Int) < 6 := by omega
            have HED := Lib.hid hED
            clear hED
            go_wp2_with fail
            go_loopw [32] (fun i wr => Rel3 w g bm B r i wr) (fun i _ => 4 - (intOf i).toNat)
            case atStart => exact ⟨0, by omega, rfl, ended_mono HED.out (fun i hi h => ⟨h, hi.1⟩)⟩
            case round =>
              obtain ⟨wz, h_wz⟩ : ∃ v : World, v = wr := ⟨_, rfl⟩; subst h_wz
              clear HED
              obtain ⟨a, ha4, rfl, hED⟩ := hrel
              by_cases ha : a = 4
              · subst ha
                have hEN : Ended w g bm B w.heap.size (fun _ => r + 1 = 0) wz := ended_mono hED (fun i hi h => absurd h.2 (by have := hi.2; omega))
                have HEN := Lib.hid hEN
                clear hED hEN
                go_wp2_with fail
                go_roundw
                case rel => exact ⟨r + 1, by omega, by go_num, HEN.out⟩
                case measure => simp [intOf]; omega
              · have haI : (a : Int) < 4 := by omega
                have haI0 : (0 : Int) ≤ (a : Int) := by omega
                obtain ⟨p, f, n, E, fl, h, gg, y, hP, hM, hG, hn, hBl, hkeep⟩ := hED
                obtain ⟨e0, e1, e2, e3, e4, e5⟩ := hP.side a (by omega)
                have hsz := (good_sizes hG).1 a (by omega)
                have hrt := (hG.inv.right a (four_nat (by omega))).1
                have HA := Lib.hid (fun W => again_any (p.s a) W hsz)
                have hglt := hP.lt
                unfold AgainPost at HA
                rw [again_eq hrt] at HA
                cases hk : (p.s a).k with
                | false =>
                  rw [hk] at HA e5
                  rw [if_neg (by decide)] at HA
                  have HK := Lib.hid hk
                  clear hrt hk
                  go_wp2_with fail
                  refine (HA.out _).mono ?_
                  rintro r v2 ⟨v, rfl, hsd, hb2⟩
                  obtain rfl : v = .slice none 0 0 := hsd
                  have hEN : Ended w g bm B w.heap.size (fun i => r = 0 ∧ ((a + 1 : Nat) : Int) ≤ i) v2 := by
                    have hz := hP.hi
                    refine ⟨p, f, n, E, fl, h, gg, y, hP.kept hb2, hM.below hb2 hM.lt, hG, hn, hBl.trans (hb2.mono hBl.size), fun i hi hik => ?_⟩
                    obtain ⟨h1, h2⟩ := hkeep i hi hik
                    refine ⟨h1, ?_⟩
                    have : i ≠ (a : Int) := fun e => by rw [e, HK.out] at hik; cases hik
                    omega
                  have HEN := Lib.hid hEN
                  clear hP hM hG hBl hkeep hb2 e0 e1 e2 e3 e4 e5 HA HK hEN
                  go_wp2_with fail
                  refine wp_loop_rounds 1 ?_
                  rw [rounds_succ]
                  go_wp2_with fail
                  go_roundw
                  case rel => exact ⟨a + 1, by omega, by go_num, HEN.out⟩
                  case measure => simp [intOf]; omega
                | true =>
                  rw [hk] at HA e5
                  rw [if_pos rfl] at HA
                  have HK := Lib.hid hk
                  clear hrt hk
                  go_wp2_with fail
                  refine (HA.out _).mono ?_
                  rintro r v2 ⟨v, rfl, hsd, hb2⟩
                  obtain ⟨gm, rfl, hgB', hgl, q0, q1, q2, q3, q4⟩ := hsd
                  simp only [givesH] at q0 q1 q2 q3 q4
                  have hP2 := hP.kept hb2
                  have hM2 := hM.below hb2 hM.lt
                  have hB2 : Below w.heap.size w v2 := hBl.trans (hb2.mono hBl.size)
                  clear hP hM hBl hb2 e0 e1 e2 e3 e4 e5 HA
                  go_wp2_with fail
                  refine wp_loop_rounds 2 ?_
                  rw [rounds_succ]
                  go_wp2_with fail
                  generalize hv3 : World.alloc v2 _ = v3
                  obtain ⟨hb3, hz3, hc3⟩ := alloc_facts hv3
                  have hP3 := hP2.kept hb3
                  have hM3 := hM2.below hb3 hM2.lt
                  have hB3 : Below w.heap.size w v3 := hB2.trans (hb3.mono hB2.size)
                  clear hv3 hc3 hb3 hP2 hM2 hB2 q0 q1 q2 q3 q4
                  refine (round_keeper hG (by omega) HK.out _ hP3).mono ?_
                  rintro r v4 ⟨rfl, s', hP4, hK4, ⟨E', fl', h', g', y', hG'⟩, hkk⟩
                  have hEN : Ended w g bm B w.heap.size (fun i => r = 0 ∧ ((a + 1 : Nat) : Int) ≤ i) v4 := by
                    refine ⟨_, f, n, E', fl', h', g', y', hP4, HeldM.kb hM3 hK4 (by omega) (by omega), hG', hn, hB3.trans (hK4.below (by omega) (by omega)), fun i hi hik => ?_⟩
                    obtain ⟨h1, h2⟩ := hkk i hi hik
                    obtain ⟨h3, h4⟩ := hkeep i hi h1
                    exact ⟨h3, by omega⟩
                  have HEN := Lib.hid hEN
                  clear hP3 hM3 hG hG' hP4 hK4 hkk hkeep hB3 HK hEN
                  go_wp2_with fail
                  rw [rounds_succ]
                  go_wp2_with fail
                  go_roundw
                  case rel => exact ⟨a + 1, by omega, by go_num, HEN.out⟩
                  case measure => simp [intOf]; omega
      · go_wp2_with fail
        go_loopw [30] (fun i wr => Rel2 w g bm B i wr) (fun i _ => 6 - (intOf i).toNat)
        case atStart => exact ⟨0, by omega, rfl, ended_mono HEN.out (fun _ _ _ => rfl)⟩
        case round =>
          obtain ⟨wq, h_wq⟩ : ∃ v : World, v = wr := ⟨_, rfl⟩; subst h_wq
          clear HEN
          obtain ⟨r, hr6, rfl, hED⟩ := hrel
          by_cases hr : r = 6
          · subst hr
            obtain ⟨p, f, n, E, fl, h, gg, y, hP, hM, hG, hn, hBl, hkeep⟩ := hED
            have hfl : fl = false := by
              cases hf : fl with
              | false => rfl
              | true =>
                obtain ⟨h1, _, _, _, _, h2, _⟩ := hG.inv.fly hf
                exact absurd (hkeep _ h1 h2) (by simp)
            obtain ⟨hh4, hs1, _, _⟩ := hG.inv.held hfl
            obtain ⟨hn4, hnl, rfl⟩ := four_of hh4
            have hone : ∀ i : Nat, i < 4 → i ≠ hn4 → (p.s i).s ≠ 1 := fun i hi hne h1 => hne (by have := (holder hG.inv (four_nat hi) h1).2; omega)
            have hk0 : ∀ i : Nat, i < 4 → (p.s i).k = false := fun i hi => by
              cases hk : (p.s i).k with
              | false => rfl
              | true => exact absurd (hkeep _ (four_nat hi) hk) (by simp)
            have hOK := good_one hG
            have HC := Lib.hid (hP.row24)
            have HIDX := Lib.hid (idx4r p)
            have HH1 := Lib.hid hs1
            have HONE := Lib.hid hone
            have HK0 := Lib.hid hk0
            clear hs1 hone hk0 hkeep hfl
            have hglt := hP.lt
            go_wp2_with (first | (with_reducible refine wpList_load_mid rfl 62 (.tmp 55) rfl g 0 rfl (row24 p) _ HC.out Try.underlying62 rfl (by kernel_rfl) ?_))
            go_loopw [8, 57] (fun s8 s57 wr => Rel5 w wq p hn4 s8 s57 wr) (fun _ s57 _ => 4 - (intOf s57).toNat)
            case atStart => exact ⟨0, by omega, rfl, ⟨0, rfl, .inl ⟨rfl, by omega⟩⟩, Below.refl _ _⟩
            case round =>
              obtain ⟨wz, h_wz⟩ : ∃ v : World, v = wr := ⟨_, rfl⟩; subst h_wz
              obtain ⟨i, hi, rfl, ⟨cnt, rfl, hcase⟩, hBz⟩ := hrel
              have hzz := hBz.size
              by_cases hi4 : i = 4
              · subst hi4
                obtain rfl : cnt = 1 := by omega
                clear hcase HIDX HC
                go_wp2_with fail
                refine (one_any p hn4 E f n wz g bm B w.heap.size (hP.kept hBz) (hM.below hBz hM.lt) hOK (by omega) (by omega) (by omega) (by omega)).mono ?_
                rintro r v4 ⟨rfl, _, _, hB4⟩
                go_wp2_with fail
                go_ret
                exact ⟨by first | rfl | simp, (hBl.trans (hBz.mono hBl.size)).trans hB4⟩
              · have hI : (i : Int) < 4 := by omega
                have hidx := HIDX.out i (by omega)
                have hk := HK0.out i (by omega)
                have hon := HONE.out i (by omega)
                have hwhen : i = hn4 → (p.s i).s = 1 := fun e => by rw [e]; exact HH1.out
                generalize hx : p.s i = x at hidx hk hon hwhen
                obtain ⟨me, e, s, t, c, kk⟩ := x
                dsimp only at hidx hk hon hwhen
                subst hk
                clear hx
                have hBn : Below wq.heap.size wq (wz.alloc (.cells #[.int .u8 me, .int .i64 e, .int .i64 s, .int .u8 t, .string c, .bool false] 31)) := hBz.alloc hzz _
                have HBN := Lib.hid hBn
                clear hBn
                by_cases hih : i = hn4
                · obtain rfl := hwhen hih
                  have HIH := Lib.hid hih
                  obtain rfl : cnt = 0 := by omega
                  clear hon hwhen hih hcase
                  go_wp2_with fail
                  go_roundw
                  case rel => exact ⟨i + 1, by omega, by go_num, ⟨1, rfl, .inr ⟨rfl, by have := HIH.out; omega⟩⟩, HBN.out⟩
                  case measure => simp [intOf]; omega
                · have hs1 := hon hih
                  have hs1b : (s == 1) = false := by simp [hs1]
                  have HC2 := Lib.hid hcase
                  have HIH := Lib.hid hih
                  clear hon hwhen hih hcase
                  go_wp2_with fail
                  go_roundw
                  case rel => exact ⟨i + 1, by omega, by go_num, ⟨cnt, rfl, by have := HIH.out; have := HC2.out; omega⟩, HBN.out⟩
                  case measure => simp [intOf]; omega
          · have hrI : (r : Int) < 6 := by omega
            have HED := Lib.hid hED
            clear hED
            go_wp2_with fail
            go_loopw [32] (fun i wr => Rel3 w g bm B r i wr) (fun i _ => 4 - (intOf i).toNat)
            case atStart => exact ⟨0, by omega, rfl, ended_mono HED.out (fun i hi h => ⟨h, hi.1⟩)⟩
            case round =>
              obtain ⟨wz, h_wz⟩ : ∃ v : World, v = wr := ⟨_, rfl⟩; subst h_wz
              clear HED
              obtain ⟨a, ha4, rfl, hED⟩ := hrel
              by_cases ha : a = 4
              · subst ha
                have hEN : Ended w g bm B w.heap.size (fun _ => r + 1 = 0) wz := ended_mono hED (fun i hi h => absurd h.2 (by have := hi.2; omega))
                have HEN := Lib.hid hEN
                clear hED hEN
                go_wp2_with fail
                go_roundw
                case rel => exact ⟨r + 1, by omega, by go_num, HEN.out⟩
                case measure => simp [intOf]; omega
              · have haI : (a : Int) < 4 := by omega
                have haI0 : (0 : Int) ≤ (a : Int) := by omega
                obtain ⟨p, f, n, E, fl, h, gg, y, hP, hM, hG, hn, hBl, hkeep⟩ := hED
                obtain ⟨e0, e1, e2, e3, e4, e5⟩ := hP.side a (by omega)
                have hsz := (good_sizes hG).1 a (by omega)
                have hrt := (hG.inv.right a (four_nat (by omega))).1
                have HA := Lib.hid (fun W => again_any (p.s a) W hsz)
                have hglt := hP.lt
                unfold AgainPost at HA
                rw [again_eq hrt] at HA
                cases hk : (p.s a).k with
                | false =>
                  rw [hk] at HA e5
                  rw [if_neg (by decide)] at HA
                  have HK := Lib.hid hk
                  clear hrt hk
                  go_wp2_with fail
                  refine (HA.out _).mono ?_
                  rintro r v2 ⟨v, rfl, hsd, hb2⟩
                  obtain rfl : v = .slice none 0 0 := hsd
                  have hEN : Ended w g bm B w.heap.size (fun i => r = 0 ∧ ((a + 1 : Nat) : Int) ≤ i) v2 := by
                    have hz := hP.hi
                    refine ⟨p, f, n, E, fl, h, gg, y, hP.kept hb2, hM.below hb2 hM.lt, hG, hn, hBl.trans (hb2.mono hBl.size), fun i hi hik => ?_⟩
                    obtain ⟨h1, h2⟩ := hkeep i hi hik
                    refine ⟨h1, ?_⟩
                    have : i ≠ (a : Int) := fun e => by rw [e, HK.out] at hik; cases hik
                    omega
                  have HEN := Lib.hid hEN
                  clear hP hM hG hBl hkeep hb2 e0 e1 e2 e3 e4 e5 HA HK hEN
                  go_wp2_with fail
                  refine wp_loop_rounds 1 ?_
                  rw [rounds_succ]
                  go_wp2_with fail
                  go_roundw
                  case rel => exact ⟨a + 1, by omega, by go_num, HEN.out⟩
                  case measure => simp [intOf]; omega
                | true =>
                  rw [hk] at HA e5
                  rw [if_pos rfl] at HA
                  have HK := Lib.hid hk
                  clear hrt hk
                  go_wp2_with fail
                  refine (HA.out _).mono ?_
                  rintro r v2 ⟨v, rfl, hsd, hb2⟩
                  obtain ⟨gm, rfl, hgB', hgl, q0, q1, q2, q3, q4⟩ := hsd
                  simp only [givesH] at q0 q1 q2 q3 q4
                  have hP2 := hP.kept hb2
                  have hM2 := hM.below hb2 hM.lt
                  have hB2 : Below w.heap.size w v2 := hBl.trans (hb2.mono hBl.size)
                  clear hP hM hBl hb2 e0 e1 e2 e3 e4 e5 HA
                  go_wp2_with fail
                  refine wp_loop_rounds 2 ?_
                  rw [rounds_succ]
                  go_wp2_with fail
                  generalize hv3 : World.alloc v2 _ = v3
                  obtain ⟨hb3, hz3, hc3⟩ := alloc_facts hv3
                  have hP3 := hP2.kept hb3
                  have hM3 := hM2.below hb3 hM2.lt
                  have hB3 : Below w.heap.size w v3 := hB2.trans (hb3.mono hB2.size)
                  clear hv3 hc3 hb3 hP2 hM2 hB2 q0 q1 q2 q3 q4
                  refine (round_keeper hG (by omega) HK.out _ hP3).mono ?_
                  rintro r v4 ⟨rfl, s', hP4, hK4, ⟨E', fl', h', g', y', hG'⟩, hkk⟩
                  have hEN : Ended w g bm B w.heap.size (fun i => r = 0 ∧ ((a + 1 : Nat) : Int) ≤ i) v4 := by
                    refine ⟨_, f, n, E', fl', h', g', y', hP4, HeldM.kb hM3 hK4 (by omega) (by omega), hG', hn, hB3.trans (hK4.below (by omega) (by omega)), fun i hi hik => ?_⟩
                    obtain ⟨h1, h2⟩ := hkk i hi hik
                    obtain ⟨h3, h4⟩ := hkeep i hi h1
                    exact ⟨h3, by omega⟩
                  have HEN := Lib.hid hEN
                  clear hP3 hM3 hG hG' hP4 hK4 hkk hkeep hB3 HK hEN
                  go_wp2_with fail
                  rw [rounds_succ]
                  go_wp2_with fail
                  go_roundw
                  case rel => exact ⟨a + 1, by omega, by go_num, HEN.out⟩
                  case measure => simp [intOf]; omega
end Go.Proofs.Ytamlkmnkdcoebaa.LHandThere
