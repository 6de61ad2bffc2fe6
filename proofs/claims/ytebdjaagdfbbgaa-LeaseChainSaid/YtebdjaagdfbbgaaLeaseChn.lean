/- Plain facts of agency that goes on and on among eight leases. -/
import Derived.Test.YtebdjaagdfbbgaaLeaseFwd
namespace Go.Proofs.Ytebdjaagdfbbgaa.LeaseChn
open LeaseSpec LeaseFwd

/-- The lease of 'at' is held, of the epoch ep; no other one is, and none has a later epoch. -/
def Ok (ls : Nat → L) (at_ : Nat) (ep : Int) : Prop := ∀ k, k < 8 → if k = at_ then ls k = ⟨ep, 1, 0⟩ else rightB (ls k).e (ls k).s (ls k).t = true ∧ (ls k).s ≠ 1 ∧ (ls k).e ≤ ep

def upd (ls : Nat → L) (i : Nat) (x : L) : Nat → L := fun k => if k = i then x else ls k

theorem ok_held {ls : Nat → L} {a : Nat} {ep : Int} (h : Ok ls a ep) (ha : a < 8) : ls a = ⟨ep, 1, 0⟩ := by
  have := h a ha; simpa using this

theorem give_ok {ep : Int} {nx : Nat} (h1 : 1 ≤ ep) (h2 : ep ≤ 200) (hn : nx < 8) : give ep 1 0 nx = (⟨ep, 2, nx⟩, 0) := by
  have hr : rightB ep 1 0 = true := right_held ⟨h1, by omega⟩
  unfold give
  rw [hr, if_neg (by simp), if_neg (by omega), if_pos rfl, if_neg (by omega)]

theorem take_ok {ls : Nat → L} {a nx : Nat} {ep : Int} (h : Ok ls a ep) (h1 : 1 ≤ ep) (h2 : ep ≤ 200) (hn : nx < 8) (hne : nx ≠ a) :
    take (ls nx).e (ls nx).s (ls nx).t (ep + 1) = (⟨ep + 1, 1, 0⟩, 0) := by
  have := h nx hn
  rw [if_neg hne] at this
  obtain ⟨hr, hs, he⟩ := this
  have h3 : epochB (ep + 1) = true := by simp [epochB]; omega
  have h4 : speaksB (ls nx).e (ls nx).s (ls nx).t (ep + 1) = false := by simp [speaksB, hs]
  simp [take, hr, h3, h4]; omega

theorem ok_step {ls : Nat → L} {a nx : Nat} {ep : Int} (h : Ok ls a ep) (h1 : 1 ≤ ep) (h2 : ep ≤ 200) (ha : a < 8) (hn : nx < 8) (hne : nx ≠ a) :
    Ok (upd (upd ls a ⟨ep, 2, nx⟩) nx ⟨ep + 1, 1, 0⟩) nx (ep + 1) := by
  intro k hk
  by_cases hkn : k = nx
  · simp [upd, hkn]
  · rw [if_neg hkn]
    by_cases hka : k = a
    · subst hka
      simp [upd, hkn]
      exact ⟨right_gone ⟨h1, by omega⟩ (by omega), by omega⟩
    · have := h k hk
      rw [if_neg hka] at this
      simp [upd, hkn, hka]
      exact ⟨this.1, this.2.1, by omega⟩

theorem ok_start : Ok (upd (fun _ => ⟨0, 0, 0⟩) 0 ⟨1, 1, 0⟩) 0 1 := by
  intro k hk
  by_cases h : k = 0
  · simp [upd, h]
  · simp [upd, h]; decide

theorem ok_speaks {ls : Nat → L} {a k : Nat} {ep : Int} (h : Ok ls a ep) (h1 : 1 ≤ ep) (h2 : ep ≤ 200) (hk : k < 8) :
    ((ls k).s == 1) = decide (k = a) ∧ speaksB (ls k).e (ls k).s (ls k).t ep = decide (k = a) := by
  have := h k hk
  by_cases hka : k = a
  · rw [if_pos hka] at this
    rw [this]
    have hr : rightB ep 1 0 = true := right_held ⟨h1, by omega⟩
    simp [speaksB, hr, hka]
  · rw [if_neg hka] at this
    obtain ⟨hr, hs, he⟩ := this
    simp [speaksB, hs, hka]
end Go.Proofs.Ytebdjaagdfbbgaa.LeaseChn
