/- 'alive' of the statements on codes returns true. -/
import Derived.Test.YtpacapcloggbkaaDoorCodeSign
namespace Go.Proofs.YtpacapcloggbkaaDoor.CodeMem
open Go.RowKit CodeSpec Flat
set_option linter.unusedSimpArgs false
set_option linter.unusedVariables false

def exV : List V := [⟨258, ⟨#[]⟩⟩, ⟨0, ⟨#[120]⟩⟩]
theorem ex_enc : enc [98, 116] exV = ([1, 2, 0, 1, 120], 0) := by decide
theorem ex_dec : dec [98, 116] [1, 2, 0, 1, 120] = (exV, 0) := dec_enc ex_enc
theorem ex_cut : dec [98, 116] [1, 2] = ([], 4) := by decide

theorem ownv_read {w : World} {B : Nat} {v : Value} {l : List V} (h : OwnV w B v l) (hl : 0 < l.length) :
    ∃ g cap, v = .slice (some ⟨g, 0, none⟩) l.length cap ∧ l.length ≤ cap ∧ B ≤ g ∧ g < w.heap.size ∧ ∀ i (h : i < l.length), w.cell? ⟨g, i * 2, none⟩ = some (.int .u64 (l[i].n : Int)) ∧ w.cell? ⟨g, i * 2 + 1, none⟩ = some (.string l[i].s) := by
  have hc := fun g => World.ownsRow.cells (g := g) h
  have hlt := h.lt
  rcases h.2 with ⟨h1, h2⟩ | ⟨g, cap, cur, h1, _, _, h3, _⟩
  · omega
  · subst h1
    refine ⟨g, cap, rfl, h3, (hlt g rfl).1, (hlt g rfl).2, fun i hi => ?_⟩
    have hg := vcells_get l i hi
    have e : ∀ j, ((⟨g, 0, none⟩ : Addr).add j) = ⟨g, j, none⟩ := fun j => by unfold Addr.add; split <;> simp_all
    have h1 := hc g rfl (i * 2) _ hg.1
    have h2 := hc g rfl (i * 2 + 1) _ hg.2
    rw [e] at h1 h2
    exact ⟨h1, h2⟩

theorem IsB.mono {w : World} {B B' : Nat} {a : Option Addr} {l : List UInt8} (h : IsB w B a l) (hb : B ≤ B') : IsB w B' a l := by
  intro hl
  obtain ⟨b, off, ha, h1, h2⟩ := h hl
  exact ⟨b, off, ha, by omega, h2⟩

set_option maxRecDepth 100000 in
set_option maxHeartbeats 2000000 in
theorem alive_any (w : World) : Calls Tryd.prog 10 #[] w fun e w' => e = .returned (.bool true) ∧ Below w.heap.size w w' := by
  go_enter Tryd.func10, Tryd.ntmps10
  go_wp2_with fail
  generalize h4 : World.alloc w _ = w4
  obtain ⟨B4, z4, k4⟩ := alloc_facts h4
  have hv : IsVals w4 (.slice (some ⟨w.heap.size, 0, none⟩) 2 2) exV := by
    refine ⟨_, 2, rfl, by unfold maxLen; decide, ?_, fun _ => ⟨w.heap.size, 0, rfl, z4, ?_⟩⟩
    · intro x hx
      simp [exV] at hx
      rcases hx with rfl | rfl
      · exact ⟨by decide, by unfold maxLen; decide⟩
      · exact ⟨by decide, by unfold maxLen; decide⟩
    · intro i hi
      match i, hi with
      | 0, _ => exact ⟨k4 0, k4 1⟩
      | 1, _ => exact ⟨k4 2, k4 3⟩
  clear h4 k4 z4
  refine (encode_any ⟨#[98, 116]⟩ _ exV w4 (by unfold maxLen; decide) hv).mono ?_
  rw [show enc (⟨#[98, 116]⟩ : ByteArray).data.toList exV = ([1, 2, 0, 1, 120], 0) from ex_enc]
  rintro e w5 ⟨v5, rfl, hob5, hb5⟩
  have hB5 : Below w.heap.size w w5 := B4.trans (hb5.mono B4.size)
  obtain ⟨a5, cap5, rfl, hlc5, hcm5, hib5⟩ := own_isB hob5
  clear hob5 hv hb5 B4
  have hlen : ([1, 2, 0, 1, 120] : List UInt8).length = 5 := rfl
  rw [hlen] at *
  go_wp2_with fail
  refine (decode_any ⟨#[98, 116]⟩ a5 [1, 2, 0, 1, 120] cap5 w5 (by unfold maxLen; decide) hib5 hlc5 hcm5).mono ?_
  rw [show dec (⟨#[98, 116]⟩ : ByteArray).data.toList [1, 2, 0, 1, 120] = (exV, 0) from ex_dec]
  rintro e w6 ⟨v6, rfl, hob6, hb6⟩
  have hB6 : Below w.heap.size w w6 := hB5.trans (hb6.mono hB5.size)
  have hib6 : IsB w6 w5.heap.size a5 [1, 2, 0, 1, 120] := hib5.kept fun b o hb => hb6.cell (p := ⟨b, o, none⟩) hb
  have hcm5' := hcm5
  unfold maxLen at hcm5'
  have hc5 : 5 ≤ cap5 := hlc5
  obtain ⟨g, capg, rfl, hcg, hgB, hgl, hcells⟩ := ownv_read hob6 (by decide)
  have c0 := (hcells 0 (by decide)).1
  have c1 := (hcells 1 (by decide)).2
  clear hcells hob6
  have hlen2 : exV.length = 2 := rfl
  rw [hlen2] at *
  go_wp2_with fail
  refine (decode_any ⟨#[98, 116]⟩ a5 [1, 2] cap5 w6 (by unfold maxLen; decide) ((hib6.take 2).mono hb6.size) (show 2 ≤ cap5 by omega) hcm5).mono ?_
  rw [show dec (⟨#[98, 116]⟩ : ByteArray).data.toList [1, 2] = ([], 4) from ex_cut]
  rintro e w7 ⟨v7, rfl, _, hb7⟩
  have hB7 : Below w.heap.size w w7 := hB6.trans (hb7.mono hB6.size)
  have hib7 : IsB w7 w5.heap.size a5 [1, 2, 0, 1, 120] := hib6.kept fun b o hb => hb7.cell (p := ⟨b, o, none⟩) (Nat.lt_of_lt_of_le hb hb6.size)
  have d0 : w7.cell? ⟨g, 0, none⟩ = some (.int .u64 258) := (hb7.cell (p := ⟨g, 0, none⟩) hgl).trans c0
  have d1 : w7.cell? ⟨g, 3, none⟩ = some (.string ⟨#[120]⟩) := (hb7.cell (p := ⟨g, 3, none⟩) hgl).trans c1
  have kc : (convert 25 9 (.slice a5 5 cap5)).run Tryd.prog w7 = .ok (.string ⟨#[1, 2, 0, 1, 120]⟩) w7 := conv_bytes cap5 hib7 9 Tryd.underlying9
  clear c0 c1 hib7 hib6 hib5
  have S0 := sign_any 0 w7 (by decide) (by decide)
  have S5 := sign_any (-5) w7 (by decide) (by decide)
  have U5 := unsign_any (sgn (-5)) w7 (by decide) (by decide)
  have e0 : sgn 0 = 9223372036854775808 := rfl
  have e5 : sgn (-5) = 9223372036854775803 := rfl
  have e6 : (9223372036854775803 : Int) - 9223372036854775808 = -5 := rfl
  rw [e0] at S0
  rw [e5] at S5 U5
  rw [e6] at U5
  clear e0 e5 e6
  go_wp2_with fail
  refine S0.mono ?_
  rintro e w' ⟨rfl, rfl⟩
  go_wp2_with fail
  refine S5.mono ?_
  rintro e w' ⟨rfl, rfl⟩
  go_wp2_with fail
  refine U5.mono ?_
  rintro e w' ⟨rfl, rfl⟩
  go_wp2_with fail
  go_ret
  exact ⟨rfl, hB7⟩
end Go.Proofs.YtpacapcloggbkaaDoor.CodeMem
