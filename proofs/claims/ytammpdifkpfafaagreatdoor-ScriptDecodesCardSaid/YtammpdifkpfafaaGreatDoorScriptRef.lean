/- What the reference's size, told and Decode answer. -/
import Derived.Test.YtammpdifkpfafaaGreatDoorScriptDec
namespace Go.Proofs.YtammpdifkpfafaaGreatDoor.Script
open Go.RowKit Flat ByteMem ScriptSpec
set_option linter.unusedSimpArgs false
set_option linter.unusedVariables false
set_option maxRecDepth 100000

set_option maxHeartbeats 4000000 in
theorem size_any (what : Nat) (h : what < 15) (h0 : what ≠ 0) (w : World) : Calls Tryz.prog 23 #[.int .i64 (what : Int)] w fun r w' => r = .returned (.int .i64 ((fds what).length : Int)) ∧ w' = w := by
  rcases what_cases h h0 with rfl | rfl | rfl | rfl | rfl | rfl | rfl | rfl | rfl | rfl | rfl | rfl | rfl | rfl
  all_goals
    go_enter Tryz.func23, Tryz.ntmps23
    go_wp2_with fail
    go_ret
    exact ⟨by rfl, rfl⟩
def ToldPost (w : World) (s : St) (r : Ending) (w' : World) : Prop := r = .returned (.agg #[.int .i64 s.what, .int .i64 s.tx, .int .u8 s.a, .int .u8 s.b, .int .i64 s.kind, .int .u8 s.key, .int .i64 s.n]) ∧ Below w.heap.size w w'
set_option maxHeartbeats 4000000 in
theorem told_1 (c0 c1 c2 c3 : UInt8) (l : List UInt8) (w : World) (a : Option Addr) (n cap : Nat) (hn : n = 4) (hc : n ≤ cap) (hm : cap ≤ maxLen) (hb : IsB w w.heap.size a (c0 :: c1 :: c2 :: c3 :: l)) : Calls Tryz.prog 24 #[.int .i64 1, .slice a n cap] w (ToldPost w (puts (start0 1) (fds 1) (c0 :: c1 :: c2 :: c3 :: l))) := by
  subst hn
  obtain ⟨b, off, rfl, hlt, hd⟩ := hb (by simp)
  have q0 := hd 0 (by simp)
  have u0 := c0.toNat_lt
  have q1 := hd 1 (by simp)
  have u1 := c1.toNat_lt
  have q2 := hd 2 (by simp)
  have u2 := c2.toNat_lt
  have q3 := hd 3 (by simp)
  have u3 := c3.toNat_lt
  simp only [List.getElem_cons_zero, List.getElem_cons_succ, Nat.add_zero] at q0 q1 q2 q3
  clear hd hb
  go_enter Tryz.func24, Tryz.ntmps24
  go_wp2_with fail
  simp [bodyPost, results, Tryz.results24, go_sem, *]
  refine ⟨by first | rfl | (simp [puts, put, start0, fds]; done), ?_⟩
  repeat (first | (with_reducible exact Below.refl _ _) | (with_reducible assumption) | (with_reducible refine bw_alloc ?_) | (with_reducible refine bw_drew ?_) | (with_reducible refine bw_drewN ?_) | (with_reducible refine bw_set ?_ (by first | (simp; done) | (dsimp only; omega))) | (with_reducible refine bw_via (by assumption) ?_))
set_option maxHeartbeats 4000000 in
theorem told_2 (c0 c1 c2 c3 c4 : UInt8) (l : List UInt8) (w : World) (a : Option Addr) (n cap : Nat) (hn : n = 5) (hc : n ≤ cap) (hm : cap ≤ maxLen) (hb : IsB w w.heap.size a (c0 :: c1 :: c2 :: c3 :: c4 :: l)) : Calls Tryz.prog 24 #[.int .i64 2, .slice a n cap] w (ToldPost w (puts (start0 2) (fds 2) (c0 :: c1 :: c2 :: c3 :: c4 :: l))) := by
  subst hn
  obtain ⟨b, off, rfl, hlt, hd⟩ := hb (by simp)
  have q0 := hd 0 (by simp)
  have u0 := c0.toNat_lt
  have q1 := hd 1 (by simp)
  have u1 := c1.toNat_lt
  have q2 := hd 2 (by simp)
  have u2 := c2.toNat_lt
  have q3 := hd 3 (by simp)
  have u3 := c3.toNat_lt
  have q4 := hd 4 (by simp)
  have u4 := c4.toNat_lt
  simp only [List.getElem_cons_zero, List.getElem_cons_succ, Nat.add_zero] at q0 q1 q2 q3 q4
  clear hd hb
  go_enter Tryz.func24, Tryz.ntmps24
  go_wp2_with fail
  simp [bodyPost, results, Tryz.results24, go_sem, *]
  refine ⟨by first | rfl | (simp [puts, put, start0, fds]; done), ?_⟩
  repeat (first | (with_reducible exact Below.refl _ _) | (with_reducible assumption) | (with_reducible refine bw_alloc ?_) | (with_reducible refine bw_drew ?_) | (with_reducible refine bw_drewN ?_) | (with_reducible refine bw_set ?_ (by first | (simp; done) | (dsimp only; omega))) | (with_reducible refine bw_via (by assumption) ?_))
set_option maxHeartbeats 4000000 in
theorem told_3 (c0 c1 c2 : UInt8) (l : List UInt8) (w : World) (a : Option Addr) (n cap : Nat) (hn : n = 3) (hc : n ≤ cap) (hm : cap ≤ maxLen) (hb : IsB w w.heap.size a (c0 :: c1 :: c2 :: l)) : Calls Tryz.prog 24 #[.int .i64 3, .slice a n cap] w (ToldPost w (puts (start0 3) (fds 3) (c0 :: c1 :: c2 :: l))) := by
  subst hn
  obtain ⟨b, off, rfl, hlt, hd⟩ := hb (by simp)
  have q0 := hd 0 (by simp)
  have u0 := c0.toNat_lt
  have q1 := hd 1 (by simp)
  have u1 := c1.toNat_lt
  have q2 := hd 2 (by simp)
  have u2 := c2.toNat_lt
  simp only [List.getElem_cons_zero, List.getElem_cons_succ, Nat.add_zero] at q0 q1 q2
  clear hd hb
  go_enter Tryz.func24, Tryz.ntmps24
  go_wp2_with fail
  simp [bodyPost, results, Tryz.results24, go_sem, *]
  refine ⟨by first | rfl | (simp [puts, put, start0, fds]; done), ?_⟩
  repeat (first | (with_reducible exact Below.refl _ _) | (with_reducible assumption) | (with_reducible refine bw_alloc ?_) | (with_reducible refine bw_drew ?_) | (with_reducible refine bw_drewN ?_) | (with_reducible refine bw_set ?_ (by first | (simp; done) | (dsimp only; omega))) | (with_reducible refine bw_via (by assumption) ?_))
set_option maxHeartbeats 4000000 in
theorem told_4 (c0 c1 : UInt8) (l : List UInt8) (w : World) (a : Option Addr) (n cap : Nat) (hn : n = 2) (hc : n ≤ cap) (hm : cap ≤ maxLen) (hb : IsB w w.heap.size a (c0 :: c1 :: l)) : Calls Tryz.prog 24 #[.int .i64 4, .slice a n cap] w (ToldPost w (puts (start0 4) (fds 4) (c0 :: c1 :: l))) := by
  subst hn
  obtain ⟨b, off, rfl, hlt, hd⟩ := hb (by simp)
  have q0 := hd 0 (by simp)
  have u0 := c0.toNat_lt
  have q1 := hd 1 (by simp)
  have u1 := c1.toNat_lt
  simp only [List.getElem_cons_zero, List.getElem_cons_succ, Nat.add_zero] at q0 q1
  clear hd hb
  go_enter Tryz.func24, Tryz.ntmps24
  go_wp2_with fail
  simp [bodyPost, results, Tryz.results24, go_sem, *]
  refine ⟨by first | rfl | (simp [puts, put, start0, fds]; done), ?_⟩
  repeat (first | (with_reducible exact Below.refl _ _) | (with_reducible assumption) | (with_reducible refine bw_alloc ?_) | (with_reducible refine bw_drew ?_) | (with_reducible refine bw_drewN ?_) | (with_reducible refine bw_set ?_ (by first | (simp; done) | (dsimp only; omega))) | (with_reducible refine bw_via (by assumption) ?_))
set_option maxHeartbeats 4000000 in
theorem told_5 (c0 c1 c2 : UInt8) (l : List UInt8) (w : World) (a : Option Addr) (n cap : Nat) (hn : n = 3) (hc : n ≤ cap) (hm : cap ≤ maxLen) (hb : IsB w w.heap.size a (c0 :: c1 :: c2 :: l)) : Calls Tryz.prog 24 #[.int .i64 5, .slice a n cap] w (ToldPost w (puts (start0 5) (fds 5) (c0 :: c1 :: c2 :: l))) := by
  subst hn
  obtain ⟨b, off, rfl, hlt, hd⟩ := hb (by simp)
  have q0 := hd 0 (by simp)
  have u0 := c0.toNat_lt
  have q1 := hd 1 (by simp)
  have u1 := c1.toNat_lt
  have q2 := hd 2 (by simp)
  have u2 := c2.toNat_lt
  simp only [List.getElem_cons_zero, List.getElem_cons_succ, Nat.add_zero] at q0 q1 q2
  clear hd hb
  go_enter Tryz.func24, Tryz.ntmps24
  go_wp2_with fail
  simp [bodyPost, results, Tryz.results24, go_sem, *]
  refine ⟨by first | rfl | (simp [puts, put, start0, fds]; done), ?_⟩
  repeat (first | (with_reducible exact Below.refl _ _) | (with_reducible assumption) | (with_reducible refine bw_alloc ?_) | (with_reducible refine bw_drew ?_) | (with_reducible refine bw_drewN ?_) | (with_reducible refine bw_set ?_ (by first | (simp; done) | (dsimp only; omega))) | (with_reducible refine bw_via (by assumption) ?_))
set_option maxHeartbeats 4000000 in
theorem told_6 (c0 c1 : UInt8) (l : List UInt8) (w : World) (a : Option Addr) (n cap : Nat) (hn : n = 2) (hc : n ≤ cap) (hm : cap ≤ maxLen) (hb : IsB w w.heap.size a (c0 :: c1 :: l)) : Calls Tryz.prog 24 #[.int .i64 6, .slice a n cap] w (ToldPost w (puts (start0 6) (fds 6) (c0 :: c1 :: l))) := by
  subst hn
  obtain ⟨b, off, rfl, hlt, hd⟩ := hb (by simp)
  have q0 := hd 0 (by simp)
  have u0 := c0.toNat_lt
  have q1 := hd 1 (by simp)
  have u1 := c1.toNat_lt
  simp only [List.getElem_cons_zero, List.getElem_cons_succ, Nat.add_zero] at q0 q1
  clear hd hb
  go_enter Tryz.func24, Tryz.ntmps24
  go_wp2_with fail
  simp [bodyPost, results, Tryz.results24, go_sem, *]
  refine ⟨by first | rfl | (simp [puts, put, start0, fds]; done), ?_⟩
  repeat (first | (with_reducible exact Below.refl _ _) | (with_reducible assumption) | (with_reducible refine bw_alloc ?_) | (with_reducible refine bw_drew ?_) | (with_reducible refine bw_drewN ?_) | (with_reducible refine bw_set ?_ (by first | (simp; done) | (dsimp only; omega))) | (with_reducible refine bw_via (by assumption) ?_))
set_option maxHeartbeats 4000000 in
theorem told_7 (c0 c1 : UInt8) (l : List UInt8) (w : World) (a : Option Addr) (n cap : Nat) (hn : n = 2) (hc : n ≤ cap) (hm : cap ≤ maxLen) (hb : IsB w w.heap.size a (c0 :: c1 :: l)) : Calls Tryz.prog 24 #[.int .i64 7, .slice a n cap] w (ToldPost w (puts (start0 7) (fds 7) (c0 :: c1 :: l))) := by
  subst hn
  obtain ⟨b, off, rfl, hlt, hd⟩ := hb (by simp)
  have q0 := hd 0 (by simp)
  have u0 := c0.toNat_lt
  have q1 := hd 1 (by simp)
  have u1 := c1.toNat_lt
  simp only [List.getElem_cons_zero, List.getElem_cons_succ, Nat.add_zero] at q0 q1
  clear hd hb
  go_enter Tryz.func24, Tryz.ntmps24
  go_wp2_with fail
  simp [bodyPost, results, Tryz.results24, go_sem, *]
  refine ⟨by first | rfl | (simp [puts, put, start0, fds]; done), ?_⟩
  repeat (first | (with_reducible exact Below.refl _ _) | (with_reducible assumption) | (with_reducible refine bw_alloc ?_) | (with_reducible refine bw_drew ?_) | (with_reducible refine bw_drewN ?_) | (with_reducible refine bw_set ?_ (by first | (simp; done) | (dsimp only; omega))) | (with_reducible refine bw_via (by assumption) ?_))
set_option maxHeartbeats 4000000 in
theorem told_8 (c0 c1 : UInt8) (l : List UInt8) (w : World) (a : Option Addr) (n cap : Nat) (hn : n = 2) (hc : n ≤ cap) (hm : cap ≤ maxLen) (hb : IsB w w.heap.size a (c0 :: c1 :: l)) : Calls Tryz.prog 24 #[.int .i64 8, .slice a n cap] w (ToldPost w (puts (start0 8) (fds 8) (c0 :: c1 :: l))) := by
  subst hn
  obtain ⟨b, off, rfl, hlt, hd⟩ := hb (by simp)
  have q0 := hd 0 (by simp)
  have u0 := c0.toNat_lt
  have q1 := hd 1 (by simp)
  have u1 := c1.toNat_lt
  simp only [List.getElem_cons_zero, List.getElem_cons_succ, Nat.add_zero] at q0 q1
  clear hd hb
  go_enter Tryz.func24, Tryz.ntmps24
  go_wp2_with fail
  simp [bodyPost, results, Tryz.results24, go_sem, *]
  refine ⟨by first | rfl | (simp [puts, put, start0, fds]; done), ?_⟩
  repeat (first | (with_reducible exact Below.refl _ _) | (with_reducible assumption) | (with_reducible refine bw_alloc ?_) | (with_reducible refine bw_drew ?_) | (with_reducible refine bw_drewN ?_) | (with_reducible refine bw_set ?_ (by first | (simp; done) | (dsimp only; omega))) | (with_reducible refine bw_via (by assumption) ?_))
set_option maxHeartbeats 4000000 in
theorem told_9 (c0 c1 : UInt8) (l : List UInt8) (w : World) (a : Option Addr) (n cap : Nat) (hn : n = 2) (hc : n ≤ cap) (hm : cap ≤ maxLen) (hb : IsB w w.heap.size a (c0 :: c1 :: l)) : Calls Tryz.prog 24 #[.int .i64 9, .slice a n cap] w (ToldPost w (puts (start0 9) (fds 9) (c0 :: c1 :: l))) := by
  subst hn
  obtain ⟨b, off, rfl, hlt, hd⟩ := hb (by simp)
  have q0 := hd 0 (by simp)
  have u0 := c0.toNat_lt
  have q1 := hd 1 (by simp)
  have u1 := c1.toNat_lt
  simp only [List.getElem_cons_zero, List.getElem_cons_succ, Nat.add_zero] at q0 q1
  clear hd hb
  go_enter Tryz.func24, Tryz.ntmps24
  go_wp2_with fail
  simp [bodyPost, results, Tryz.results24, go_sem, *]
  refine ⟨by first | rfl | (simp [puts, put, start0, fds]; done), ?_⟩
  repeat (first | (with_reducible exact Below.refl _ _) | (with_reducible assumption) | (with_reducible refine bw_alloc ?_) | (with_reducible refine bw_drew ?_) | (with_reducible refine bw_drewN ?_) | (with_reducible refine bw_set ?_ (by first | (simp; done) | (dsimp only; omega))) | (with_reducible refine bw_via (by assumption) ?_))
set_option maxHeartbeats 4000000 in
theorem told_10 (c0 c1 : UInt8) (l : List UInt8) (w : World) (a : Option Addr) (n cap : Nat) (hn : n = 2) (hc : n ≤ cap) (hm : cap ≤ maxLen) (hb : IsB w w.heap.size a (c0 :: c1 :: l)) : Calls Tryz.prog 24 #[.int .i64 10, .slice a n cap] w (ToldPost w (puts (start0 10) (fds 10) (c0 :: c1 :: l))) := by
  subst hn
  obtain ⟨b, off, rfl, hlt, hd⟩ := hb (by simp)
  have q0 := hd 0 (by simp)
  have u0 := c0.toNat_lt
  have q1 := hd 1 (by simp)
  have u1 := c1.toNat_lt
  simp only [List.getElem_cons_zero, List.getElem_cons_succ, Nat.add_zero] at q0 q1
  clear hd hb
  go_enter Tryz.func24, Tryz.ntmps24
  go_wp2_with fail
  simp [bodyPost, results, Tryz.results24, go_sem, *]
  refine ⟨by first | rfl | (simp [puts, put, start0, fds]; done), ?_⟩
  repeat (first | (with_reducible exact Below.refl _ _) | (with_reducible assumption) | (with_reducible refine bw_alloc ?_) | (with_reducible refine bw_drew ?_) | (with_reducible refine bw_drewN ?_) | (with_reducible refine bw_set ?_ (by first | (simp; done) | (dsimp only; omega))) | (with_reducible refine bw_via (by assumption) ?_))
set_option maxHeartbeats 4000000 in
theorem told_11 (c0 : UInt8) (l : List UInt8) (w : World) (a : Option Addr) (n cap : Nat) (hn : n = 1) (hc : n ≤ cap) (hm : cap ≤ maxLen) (hb : IsB w w.heap.size a (c0 :: l)) : Calls Tryz.prog 24 #[.int .i64 11, .slice a n cap] w (ToldPost w (puts (start0 11) (fds 11) (c0 :: l))) := by
  subst hn
  obtain ⟨b, off, rfl, hlt, hd⟩ := hb (by simp)
  have q0 := hd 0 (by simp)
  have u0 := c0.toNat_lt
  simp only [List.getElem_cons_zero, List.getElem_cons_succ, Nat.add_zero] at q0
  clear hd hb
  go_enter Tryz.func24, Tryz.ntmps24
  go_wp2_with fail
  simp [bodyPost, results, Tryz.results24, go_sem, *]
  refine ⟨by first | rfl | (simp [puts, put, start0, fds]; done), ?_⟩
  repeat (first | (with_reducible exact Below.refl _ _) | (with_reducible assumption) | (with_reducible refine bw_alloc ?_) | (with_reducible refine bw_drew ?_) | (with_reducible refine bw_drewN ?_) | (with_reducible refine bw_set ?_ (by first | (simp; done) | (dsimp only; omega))) | (with_reducible refine bw_via (by assumption) ?_))
set_option maxHeartbeats 4000000 in
theorem told_12 (c0 c1 : UInt8) (l : List UInt8) (w : World) (a : Option Addr) (n cap : Nat) (hn : n = 2) (hc : n ≤ cap) (hm : cap ≤ maxLen) (hb : IsB w w.heap.size a (c0 :: c1 :: l)) : Calls Tryz.prog 24 #[.int .i64 12, .slice a n cap] w (ToldPost w (puts (start0 12) (fds 12) (c0 :: c1 :: l))) := by
  subst hn
  obtain ⟨b, off, rfl, hlt, hd⟩ := hb (by simp)
  have q0 := hd 0 (by simp)
  have u0 := c0.toNat_lt
  have q1 := hd 1 (by simp)
  have u1 := c1.toNat_lt
  simp only [List.getElem_cons_zero, List.getElem_cons_succ, Nat.add_zero] at q0 q1
  clear hd hb
  go_enter Tryz.func24, Tryz.ntmps24
  go_wp2_with fail
  simp [bodyPost, results, Tryz.results24, go_sem, *]
  refine ⟨by first | rfl | (simp [puts, put, start0, fds]; done), ?_⟩
  repeat (first | (with_reducible exact Below.refl _ _) | (with_reducible assumption) | (with_reducible refine bw_alloc ?_) | (with_reducible refine bw_drew ?_) | (with_reducible refine bw_drewN ?_) | (with_reducible refine bw_set ?_ (by first | (simp; done) | (dsimp only; omega))) | (with_reducible refine bw_via (by assumption) ?_))
set_option maxHeartbeats 4000000 in
theorem told_13 (c0 c1 : UInt8) (l : List UInt8) (w : World) (a : Option Addr) (n cap : Nat) (hn : n = 2) (hc : n ≤ cap) (hm : cap ≤ maxLen) (hb : IsB w w.heap.size a (c0 :: c1 :: l)) : Calls Tryz.prog 24 #[.int .i64 13, .slice a n cap] w (ToldPost w (puts (start0 13) (fds 13) (c0 :: c1 :: l))) := by
  subst hn
  obtain ⟨b, off, rfl, hlt, hd⟩ := hb (by simp)
  have q0 := hd 0 (by simp)
  have u0 := c0.toNat_lt
  have q1 := hd 1 (by simp)
  have u1 := c1.toNat_lt
  simp only [List.getElem_cons_zero, List.getElem_cons_succ, Nat.add_zero] at q0 q1
  clear hd hb
  go_enter Tryz.func24, Tryz.ntmps24
  go_wp2_with fail
  simp [bodyPost, results, Tryz.results24, go_sem, *]
  refine ⟨by first | rfl | (simp [puts, put, start0, fds]; done), ?_⟩
  repeat (first | (with_reducible exact Below.refl _ _) | (with_reducible assumption) | (with_reducible refine bw_alloc ?_) | (with_reducible refine bw_drew ?_) | (with_reducible refine bw_drewN ?_) | (with_reducible refine bw_set ?_ (by first | (simp; done) | (dsimp only; omega))) | (with_reducible refine bw_via (by assumption) ?_))
set_option maxHeartbeats 4000000 in
theorem told_14 (l : List UInt8) (w : World) (a : Option Addr) (n cap : Nat) (hn : n = 0) (hc : n ≤ cap) (hm : cap ≤ maxLen) (hb : IsB w w.heap.size a (l)) : Calls Tryz.prog 24 #[.int .i64 14, .slice a n cap] w (ToldPost w (puts (start0 14) (fds 14) (l))) := by
  subst hn
  clear hb
  go_enter Tryz.func24, Tryz.ntmps24
  go_wp2_with fail
  simp [bodyPost, results, Tryz.results24, go_sem, *]
  refine ⟨by first | rfl | (simp [puts, put, start0, fds]; done), ?_⟩
  repeat (first | (with_reducible exact Below.refl _ _) | (with_reducible assumption) | (with_reducible refine bw_alloc ?_) | (with_reducible refine bw_drew ?_) | (with_reducible refine bw_drewN ?_) | (with_reducible refine bw_set ?_ (by first | (simp; done) | (dsimp only; omega))) | (with_reducible refine bw_via (by assumption) ?_))
end Go.Proofs.YtammpdifkpfafaaGreatDoor.Script
