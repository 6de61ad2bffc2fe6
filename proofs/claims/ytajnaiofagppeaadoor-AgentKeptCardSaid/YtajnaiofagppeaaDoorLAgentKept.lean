/- What was shipped is spoken, by this agent, and by the one to whom the agency goes, as it was; nothing else is: for every ballots, every mobile and every epoch the statement's call returns true. -/
import Derived.Test.YtajnaiofagppeaaDoorAgentAlive
import Derived.Test.YtajnaiofagppeaaDoorKeptLaw
namespace Go.Proofs.YtajnaiofagppeaaDoor.LAgentKept
open Go Go.RowKit CodeSpec AgentSpec NoteSpec LeaseSpec HandSpec Flat Ballot Collect Pack Held Hand Ship Speak AgentSmall RowsBal Spoken KeptLaw Go.Proofs.YtajnaiofagppeaaDoorW.PrintLast
set_option linter.unusedSimpArgs false
set_option linter.unusedVariables false
set_option maxRecDepth 100000
def Rel (w : World) (g bm : Nat) (n : Int) (len : Nat) (i : Value) (wr : World) : Prop :=
  ∃ (k : Nat) (L : List Ba) (f : Int → Option Value) (c : Nat), k ≤ len ∧ i = .int .i64 (k : Int) ∧ Six wr g ⟨1, n, 1, 0, cB L, false⟩ ∧ MapV.Own Tryd.prog .i64 3 wr bm f c ∧ Kp L f c ∧ c ≤ k ∧ Below w.heap.size w wr
/-- What one more ballot makes of a side that keeps L. -/
theorem ship_kept {n : Int} (h1 : 1 ≤ n) (h2 : n ≤ 1048576) {L : List Ba} (hl : rightL L = true) (b : Ba) :
    (∃ er, er ≠ 0 ∧ shipA ⟨1, n, 1, 0, cB L, false⟩ b = (⟨1, n, 1, 0, cB L, false⟩, er)) ∨ (mayB b = true ∧ (putL L b).2 = 0 ∧ shipA ⟨1, n, 1, 0, cB L, false⟩ b = (⟨1, n, 1, 0, cB (putL L b).1, false⟩, 0)) := by
  cases hb : mayB b with
  | false => exact .inl ⟨2, by decide, ship_not hb⟩
  | true =>
    have h := ship_mk (x := x1 1 n) (x1_right (by decide) h1 h2) rfl hl hb
    by_cases h0 : (putL L b).2 = 0
    · exact .inr ⟨rfl, h0, by rw [h0] at h; exact h⟩
    · exact .inl ⟨_, h0, by have e := put_err h0; rw [e] at h; exact h⟩
theorem six_heap {w w' : World} {g : Nat} {x : S} (h : Six w g x) (e : w'.heap[g]? = w.heap[g]?) : Six w' g x := by
  obtain ⟨⟨a0, a1, a2, a3, a4, a5⟩, f, hz⟩ := h
  have c : ∀ o, w'.cell? ⟨g, o, none⟩ = w.cell? ⟨g, o, none⟩ := fun o => World.cell?_of_block (a := ⟨g, o, none⟩) e
  refine ⟨⟨(c 0).trans a0, (c 1).trans a1, (c 2).trans a2, (c 3).trans a3, (c 4).trans a4, (c 5).trans a5⟩, fun o => (World.frozen?_of_block (a := ⟨g, o, none⟩) e).trans (f o), Flat.cell_lt ((c 0).trans a0)⟩
set_option maxHeartbeats 8000000 in
theorem walk (a0 : Option Addr) (len0 cap0 : Nat) (r0 : List (List Value)) (a1 : Int) (a2 : Int) (w : World) (w0 : IsRows [.int .i64, .int .i64] w a0 len0 cap0 r0) (w1 : (Lit.int .u8 a1).wf = true) (w2 : (Lit.int .u16 a2).wf = true) :
    Calls Tryd.prog 8 #[.slice a0 len0 cap0, .int .u8 a1, .int .u16 a2] w fun e w' => e = .returned (.bool true) ∧ Below w.heap.size w w' := by
  obtain ⟨l, hll, hbal, hwf⟩ := rows_bal w0
  have hmax : len0 ≤ maxLen := Nat.le_trans w0.2.1 w0.2.2.1
  unfold maxLen at hmax
  subst hll
  clear w0
  have hm : ∃ n : Nat, a1 = (n : Int) ∧ n < 256 := by
    have hr := w1
    simp [Lit.wf] at hr
    have e1 : IntKind.u8.min = 0 := rfl
    have e2 : IntKind.u8.max = 255 := rfl
    exact ⟨a1.toNat, by omega, by omega⟩
  obtain ⟨mb, rfl, hmb⟩ := hm
  have hm : ∃ n : Nat, a2 = (n : Int) ∧ n < 65536 := by
    have hr := w2
    simp [Lit.wf] at hr
    have e1 : IntKind.u16.min = 0 := rfl
    have e2 : IntKind.u16.max = 65535 := rfl
    exact ⟨a2.toNat, by omega, by omega⟩
  obtain ⟨ep, rfl, hep⟩ := hm
  clear w1 w2
  by_cases hlen : 600 < l.length
  · have hlenI : (600 : Int) < (l.length : Int) := by omega
    go_enter Tryd.func8, Tryd.ntmps8
    go_wp2_with fail
    refine (AgentAlive.alive_any _).mono ?_
    rintro r v1 ⟨rfl, hb1⟩
    go_wp2_with fail
    go_ret
    exact ⟨rfl, hb1⟩
  have hlenI : ¬ (600 : Int) < (l.length : Int) := by omega
  obtain ⟨a, cap, hsl, hlc, hcm, hcc⟩ := hbal
  obtain ⟨rfl, rfl⟩ : a0 = a ∧ cap0 = cap := by simpa using hsl
  have HCC := Lib.hid hcc
  have HWF := Lib.hid hwf
  clear hsl hcc hwf
  have e8 : (mb : Int).tmod 8 = ((mb % 8 : Nat) : Int) := rfl
  have e9 : IntKind.i64.wrap (ep : Int) = (ep : Int) := by rw [IntKind.wrap_i64]; omega
  have e10 : IntKind.i64.wrap ((ep : Int) + 1) = (ep : Int) + 1 := by rw [IntKind.wrap_i64]; omega
  have hm8 : ((mb % 8 : Nat) : Int) < 8 := by omega
  go_enter Tryd.func8, Tryd.ntmps8
  go_wp2_with fail
  refine (AgentAlive.alive_any _).mono ?_
  rintro r v1 ⟨rfl, hb1⟩
  have hmm := @run_makeMap Tryd.prog
  go_wp2_with fail
  clear hmm
  generalize hv2 : World.alloc v1 _ = v2
  have S2 := six_new (x := ⟨1, (ep : Int) + 1, 1, 0, cB [], false⟩) hv2
  obtain ⟨hb2, _, _⟩ := alloc_facts hv2
  have hz2 : v2.heap.size = v1.heap.size + 1 := by rw [← hv2]; simp
  generalize hv3 : World.alloc v2 _ = v3
  have hO3 : MapV.Own Tryd.prog .i64 3 v3 v2.heap.size MapV.none_ 0 := by rw [← hv3]; exact MapV.own_made v2
  have hb3 : Below v2.heap.size v2 v3 := by rw [← hv3]; exact (Below.refl _ _).alloc (Nat.le_refl _) _
  have S3 := S2.below hb3
  have hB3 := (hb1.trans (hb2.mono hb1.size)).trans (hb3.mono (by have := hb1.size; omega))
  rw [hz2] at hO3
  have hwg := hb1.size
  have hn1 : (1 : Int) ≤ (ep : Int) + 1 := by omega
  have hn2 : (ep : Int) + 1 ≤ 65536 := by omega
  have hM8 : (mb : Int) % 8 < 8 := by omega
  generalize v1.heap.size = g at *
  generalize (ep : Int) + 1 = n at *
  generalize (mb : Int) % 8 = M at *
  clear hv2 hv3 hb1 hb2 hb3 S2 hz2 e8 e9 e10 hm8 hmb hep
  go_loopw [44] (fun i wr => Rel w g (g + 1) n l.length i wr) (fun i _ => l.length - (intOf i).toNat)
  case atStart => exact ⟨0, [], _, _, Nat.zero_le _, rfl, S3, hO3, kp_none, Nat.le_refl _, hB3⟩
  case round =>
    obtain ⟨wo, h_wo⟩ : ∃ v : World, v = wr := ⟨_, rfl⟩; subst h_wo
    clear S3 hO3 hB3
    obtain ⟨k, L, f, c, hk, rfl, hS, hO, hK, hck, hB⟩ := hrel
    by_cases hkl : k < l.length
    · have hkI : (k : Int) < (l.length : Int) := by omega
      have hk0 : (0 : Int) ≤ (k : Int) := by omega
      obtain ⟨b, off, rfl, hbl, hd⟩ := HCC.out (by omega)
      have q0 := (hB.cell (p := ⟨b, off + k * 2, none⟩) hbl).trans (hd k hkl).1
      have q1 := (hB.cell (p := ⟨b, off + k * 2 + 1, none⟩) hbl).trans (hd k hkl).2
      have hkey := Maps.keyOf_int_mk Tryd.underlying3 (HWF.out _ (List.getElem_mem hkl))
      generalize l[k] = x at *
      have HST := Lib.hid (fun (W : World) (h : MapV.Own Tryd.prog .i64 3 W (g + 1) f c) => h.store (t := 63) (et := 3) (Maps.int_keyed Tryd.underlying3) Tryd.underlying63 (by unfold maxLen; omega) hkey (.int .i64 x.vote))
      have HB := Lib.hid hB
      have HS := Lib.hid hS
      have HO := Lib.hid hO
      have HK := Lib.hid hK
      have hcz : (cB L).size ≤ maxLen := by have := cB_size hK.1; unfold maxLen; omega
      have HSH := Lib.hid (fun W => ship_any ⟨1, n, 1, 0, cB L, false⟩ x hcz W)
      have HKP := ship_kept hn1 (by omega) hK.1 x
      have HPUT := Lib.hid (fun h1 h2 => kp_put (b := x) hK h1 h2)
      clear hd hkey hB hS hO hK
      go_upto_region 10 with fail
      generalize hv4 : World.alloc wo _ = v4
      obtain ⟨hb4, hz4, hc4⟩ := alloc_facts hv4
      have p0 := hc4 0
      have p1 := hc4 1
      have hS4 := HS.out.below hb4
      have hO4 := HO.out.below hb4 HO.out.lt
      have hB4 := HB.out.trans (hb4.mono HB.out.size)
      have HS4 := Lib.hid hS4
      have HO4 := Lib.hid hO4
      have HB4 := Lib.hid hB4
      clear hv4 hc4 hb4 q0 q1 HS HO HB hO4 hB4
      generalize wo.heap.size = g4 at *
      obtain ⟨xt, xv⟩ := x
      obtain ⟨⟨a0, a1, a2, a3, a4, a5⟩, _, _⟩ := hS4
      dsimp only at p0 p1 a0 a1 a2 a3 a4 a5 HSH HST
      rcases HKP with ⟨er, her, hsh⟩ | ⟨hmy, h0, hsh⟩
      · rw [hsh] at HSH
        have heb : (er == 0) = false := beq_eq_false_iff_ne.2 her
        clear hsh HPUT HST
        go_wp2_with fail
        refine (HSH.out _).mono ?_
        rintro r w5 ⟨rfl, hb5⟩
        have hS5 := HS4.out.below hb5
        have hO5 := HO4.out.below hb5 HO4.out.lt
        have hB5 := HB4.out.trans (hb5.mono HB4.out.size)
        clear HS4 HO4 HB4 hb5 HSH p0 p1 a0 a1 a2 a3 a4 a5 hz4
        dsimp only
        go_upto_region 11 with fail
        generalize hv6 : World.alloc w5 _ = v6
        have SX := six_new (x := ⟨1, n, 1, 0, cB L, false⟩) hv6
        obtain ⟨hb6, _, _⟩ := alloc_facts hv6
        have hS6 := hS5.below hb6
        have hO6 := hO5.below hb6 hO5.lt
        have hB6 := hB5.trans (hb6.mono hB5.size)
        clear hv6 hb6 hS5 hO5 hB5
        have HS6 := Lib.hid hS6
        have HO6 := Lib.hid hO6
        have HB6 := Lib.hid hB6
        clear hO6 hB6
        generalize w5.heap.size = g5 at *
        obtain ⟨⟨a0, a1, a2, a3, a4, a5⟩, fa, _⟩ := hS6
        obtain ⟨⟨b0, b1, b2, b3, b4, b5⟩, _, _⟩ := SX
        dsimp only at a0 a1 a2 a3 a4 a5 b0 b1 b2 b3 b4 b5
        go_wp2_with fail
        generalize hW : World.setCell _ _ _ = W
        obtain ⟨hS7, hb7, hs7, hh7⟩ := six_set (y := ⟨1, n, 1, 0, cB L, false⟩) HS6.out hW
        have hO7 := HO6.out.heap (hh7 (g + 1) (by omega))
        have hB7 := HB6.out.trans (hb7.mono hwg)
        clear hW hb7 hs7 hh7 HS6 HO6 HB6 a0 a1 a2 a3 a4 a5 b0 b1 b2 b3 b4 b5 fa
        go_roundw
        case rel => exact ⟨k + 1, L, f, c, by omega, by go_num, hS7, hO7, HK.out, by omega, hB7⟩
        case measure => simp [intOf]; omega
      · rw [hsh] at HSH
        have hK2 := HPUT.out hmy h0
        dsimp only at hK2
        clear hsh HPUT HK
        generalize (putL L ⟨xt, xv⟩).1 = L2 at *
        clear h0 hmy
        go_wp2_with fail
        refine (HSH.out _).mono ?_
        rintro r w5 ⟨rfl, hb5⟩
        have hS5 := HS4.out.below hb5
        have hO5 := HO4.out.below hb5 HO4.out.lt
        have hB5 := HB4.out.trans (hb5.mono HB4.out.size)
        have p0 := (hb5.cell (p := ⟨g4, 0, none⟩) hz4).trans p0
        have p1 := (hb5.cell (p := ⟨g4, 1, none⟩) hz4).trans p1
        have hz4 := Nat.lt_of_lt_of_le hz4 hb5.size
        clear HS4 HO4 HB4 hb5 HSH a0 a1 a2 a3 a4 a5
        dsimp only
        go_upto_region 11 with fail
        generalize hv6 : World.alloc w5 _ = v6
        have SX := six_new (x := ⟨1, n, 1, 0, cB L2, false⟩) hv6
        obtain ⟨hb6, _, _⟩ := alloc_facts hv6
        have hS6 := hS5.below hb6
        have hO6 := hO5.below hb6 hO5.lt
        have hB6 := hB5.trans (hb6.mono hB5.size)
        have p0 := (hb6.cell (p := ⟨g4, 0, none⟩) hz4).trans p0
        have p1 := (hb6.cell (p := ⟨g4, 1, none⟩) hz4).trans p1
        have hg5 : g + 1 < w5.heap.size := hO5.lt
        clear hv6 hb6 hS5 hO5 hB5
        generalize w5.heap.size = g5 at *
        obtain ⟨w8, hrun, hO8, htu⟩ := HST.out _ hO6
        have hS8 := six_heap hS6 (MapV.turned_block htu (by omega) hS6.2.2)
        have SX8 := six_heap SX (MapV.turned_block htu (by omega) SX.2.2)
        have hB8 := hB6.trans (MapV.turned_below htu (by omega) hB6.size)
        have HS8 := Lib.hid hS8
        have HO8 := Lib.hid hO8
        have HB8 := Lib.hid hB8
        clear hS6 SX hO6 hB6 htu hO8 hB8 HST
        obtain ⟨⟨a0, a1, a2, a3, a4, a5⟩, fa, _⟩ := hS8
        obtain ⟨⟨b0, b1, b2, b3, b4, b5⟩, _, _⟩ := SX8
        dsimp only at a0 a1 a2 a3 a4 a5 b0 b1 b2 b3 b4 b5
        go_wp2_with fail
        generalize hW : World.setCell _ _ _ = W
        obtain ⟨hS7, hb7, hs7, hh7⟩ := six_set (y := ⟨1, n, 1, 0, cB L2, false⟩) HS8.out hW
        have hO7 := HO8.out.heap (hh7 (g + 1) (by omega))
        have hB7 := HB8.out.trans (hb7.mono hwg)
        clear hW hb7 hs7 hh7 HS8 HO8 HB8 a0 a1 a2 a3 a4 a5 b0 b1 b2 b3 b4 b5 fa
        go_roundw
        case rel => exact ⟨k + 1, L2, _, _, by omega, by go_num, hS7, hO7, hK2, by split <;> omega, hB7⟩
        case measure => simp [intOf]; omega
    · have hkI : ¬ (k : Int) < (l.length : Int) := by omega
      have hcz : (cB L).size ≤ maxLen := by have := cB_size hK.1; unfold maxLen; omega
      have H1 := Lib.hid (fun W => speak_any ⟨1, n, 1, 0, cB L, false⟩ M hcz W)
      have e1 : speakA ⟨1, n, 1, 0, cB L, false⟩ M = (L.map (noteOf M n), 0) := speak_mk (x := x1 1 n) (x1_right (by decide) hn1 (by omega)) rfl hK.1 hM8
      rw [e1] at H1
      have H2 := Lib.hid (fun W => hear_top ⟨1, n, 1, 0, cB L, false⟩ ⟨2, 2, 1, n, ⟨#[]⟩⟩ W hcz (Nat.zero_le _))
      have H3 := Lib.hid (fun W => hear_top ⟨2, 0, 0, 0, ⟨#[]⟩, false⟩ ⟨3, 1, 2, n + 1, cB L⟩ W (Nat.zero_le _) hcz)
      have H4 := Lib.hid (fun W => speak_any ⟨2, n + 1, 1, 0, cB L, false⟩ M hcz W)
      have e4 : speakA ⟨2, n + 1, 1, 0, cB L, false⟩ M = (L.map (noteOf M (n + 1)), 0) := speak_mk (x := x1 2 (n + 1)) (x1_right (by decide) (by omega) (by omega)) rfl hK.1 hM8
      rw [e4] at H4
      have H5 := Lib.hid (fun W => speak_any ⟨1, n, 2, 2, cB L, true⟩ M hcz W)
      rw [gone_speaks hn1 hn2 hK.1 hM8] at H5
      have T1 := Lib.hid (told_of hK hM8 hn1 (by omega))
      have T2 := Lib.hid (told_of hK hM8 (ep := n + 1) (by omega) (by omega))
      have E2 := Lib.hid (want_all hn1 hn2 hK.1)
      have E3 := Lib.hid (give_all hn1 hn2 hK.1)
      have e10 : IntKind.i64.wrap (n + 1) = n + 1 := by rw [IntKind.wrap_i64]; omega
      have hlen1 : (L.map (noteOf M n)).length = c := by rw [List.length_map, hK.2.2.2]
      have hlen2 : (L.map (noteOf M (n + 1))).length = c := by rw [List.length_map, hK.2.2.2]
      have hc50 : c ≤ 1000 := by omega
      clear e1 e4 hK
      have HS := Lib.hid hS
      obtain ⟨⟨a0, a1, a2, a3, a4, a5⟩, _, _⟩ := hS
      dsimp only at a0 a1 a2 a3 a4 a5 H1 H4 H5
      go_wp2_with fail
      refine (H1.out _).mono ?_
      rintro r w2 ⟨v, rfl, ho2, hb2⟩
      have hS2 := HS.out.below hb2
      have hO2 := hO.below hb2 hO.lt
      have hB2 := hB.trans (hb2.mono hB.size)
      clear HS hO hB hb2 a0 a1 a2 a3 a4 a5 H1
      have hnot : IsNot w2 v (L.map (noteOf M n)) := own_not ho2
      clear ho2
      obtain ⟨av, cv, hav, hr2⟩ := hnot
      subst hav
      rw [List.length_map]
      have hnot : IsNot w2 (.slice av L.length cv) (L.map (noteOf M n)) := ⟨av, cv, by rw [List.length_map], hr2⟩
      clear hr2
      have HSP := Lib.hid (fun (W : World) (hb : Below w2.heap.size w2 W) => spoken_any (.slice av L.length cv) (L.map (noteOf M n)) (g + 1) f M n W (hnot.below hb) (by rw [hlen1]; exact hc50) (by rw [hlen1]; exact hO2.below hb hO2.lt) T1.out)
      clear hnot
      go_wp2_with fail
      refine (HSP.out _ (Below.refl _ _)).mono ?_
      rintro r w3 ⟨rfl, hb3⟩
      have hS3 := hS2.below hb3
      have hO3 := hO2.below hb3 hO2.lt
      have hB3 := hB2.trans (hb3.mono hB2.size)
      clear hS2 hO2 hB2 hb3 HSP T1
      have HS := Lib.hid hS3
      obtain ⟨⟨a0, a1, a2, a3, a4, a5⟩, _, _⟩ := hS3
      dsimp only at a0 a1 a2 a3 a4 a5
      go_wp2_with fail
      refine (H2.out _).mono ?_
      unfold HearAPost
      rw [E2.out]
      rintro r w4 ⟨v4, rfl, hb4, gm, hv4, hgm, hgl, m0, m1, m2, m3, m4⟩
      subst hv4
      have hS4 := HS.out.below hb4
      have hO4 := hO3.below hb4 hO3.lt
      have hB4 := hB3.trans (hb4.mono hB3.size)
      have hgg : g + 1 < gm := Nat.lt_of_lt_of_le hO3.lt hgm
      clear HS hO3 hB3 hb4 a0 a1 a2 a3 a4 a5 H2 E2 hgm
      have HS := Lib.hid hS4
      have HO4 := Lib.hid hO4
      clear hO4
      obtain ⟨⟨a0, a1, a2, a3, a4, a5⟩, fa, _⟩ := hS4
      dsimp only at a0 a1 a2 a3 a4 a5 m0 m1 m2 m3 m4
      dsimp only
      go_upto_region 21 with fail
      generalize hW : World.setCell _ _ _ = W
      obtain ⟨hS5, hb5, hs5, hh5⟩ := six_set (y := ⟨1, n, 2, 2, cB L, true⟩) HS.out hW
      have hO5 := HO4.out.heap (hh5 (g + 1) (by omega))
      have hB5 := hB4.trans (hb5.mono hwg)
      have m0 := (World.cell?_of_block (a := ⟨gm, 0, none⟩) (hh5 gm (by omega))).trans m0
      have m1 := (World.cell?_of_block (a := ⟨gm, 1, none⟩) (hh5 gm (by omega))).trans m1
      have m2 := (World.cell?_of_block (a := ⟨gm, 2, none⟩) (hh5 gm (by omega))).trans m2
      have m3 := (World.cell?_of_block (a := ⟨gm, 3, none⟩) (hh5 gm (by omega))).trans m3
      have m4 := (World.cell?_of_block (a := ⟨gm, 4, none⟩) (hh5 gm (by omega))).trans m4
      clear hW hb5 hs5 hh5 HS HO4 hB4 a0 a1 a2 a3 a4 a5 fa hgl
      go_wp2_with fail
      refine (H3.out _).mono ?_
      unfold HearAPost
      rw [E3.out]
      rintro r w6 ⟨v6, rfl, hb6, hsd⟩
      have hS6 := hS5.below hb6
      have hO6 := hO5.below hb6 hO5.lt
      have hB6 := hB5.trans (hb6.mono hB5.size)
      obtain ⟨g7, hv7, _, _⟩ := hsd
      subst hv7
      clear hS5 hO5 hB5 hb6 m0 m1 m2 m3 m4 H3 E3
      dsimp only
      go_upto_region 24 with fail
      generalize hv7 : World.alloc w6 _ = v7
      have SX := six_new (x := ⟨2, n + 1, 1, 0, cB L, false⟩) hv7
      obtain ⟨hb7, _, _⟩ := alloc_facts hv7
      have hS7 := hS6.below hb7
      have hO7 := hO6.below hb7 hO6.lt
      have hB7 := hB6.trans (hb7.mono hB6.size)
      generalize w6.heap.size = g6 at *
      clear hv7 hb7 hS6 hO6 hB6
      have HS := Lib.hid hS7
      have HX := Lib.hid SX
      clear hS7
      obtain ⟨⟨b0, b1, b2, b3, b4, b5⟩, _, _⟩ := SX
      dsimp only at b0 b1 b2 b3 b4 b5
      go_wp2_with fail
      refine (H4.out _).mono ?_
      rintro r w8 ⟨v, rfl, ho8, hb8⟩
      have hS8 := HS.out.below hb8
      have hO8 := hO7.below hb8 hO7.lt
      have hB8 := hB7.trans (hb8.mono hB7.size)
      clear HS HX hO7 hB7 hb8 b0 b1 b2 b3 b4 b5 H4
      have hnot : IsNot w8 v (L.map (noteOf M (n + 1))) := own_not ho8
      clear ho8
      obtain ⟨av, cv, hav, hr2⟩ := hnot
      subst hav
      rw [List.length_map]
      have hnot : IsNot w8 (.slice av L.length cv) (L.map (noteOf M (n + 1))) := ⟨av, cv, by rw [List.length_map], hr2⟩
      clear hr2
      have HSP := Lib.hid (fun (W : World) (hb : Below w8.heap.size w8 W) => spoken_any (.slice av L.length cv) (L.map (noteOf M (n + 1))) (g + 1) f M (n + 1) W (hnot.below hb) (by rw [hlen2]; exact hc50) (by rw [hlen2]; exact hO8.below hb hO8.lt) T2.out)
      clear hnot
      have HS := Lib.hid hS8
      obtain ⟨⟨a0, a1, a2, a3, a4, a5⟩, _, _⟩ := hS8
      dsimp only at a0 a1 a2 a3 a4 a5
      go_wp2_with fail
      refine (H5.out _).mono ?_
      rintro r w9 ⟨v, rfl, ho9, hb9⟩
      obtain ⟨av9, cv9, rfl, _⟩ := own_not ho9
      have hB9 := hB8.trans (hb9.mono hB8.size)
      clear HS hB8 a0 a1 a2 a3 a4 a5 H5 ho9
      have HB9 := Lib.hid hb9
      clear hb9
      dsimp only
      go_wp2_with fail
      refine (HSP.out _ HB9.out).mono ?_
      rintro r wA ⟨rfl, hbA⟩
      go_wp2_with fail
      go_ret
      exact ⟨by first | rfl | (simp [*]; done), hB9.trans (hbA.mono hB9.size)⟩
end Go.Proofs.YtajnaiofagppeaaDoor.LAgentKept
