/- What was set, or dropped, ahead of a Sync outlives any crash, and what was behind it is undone: for every row of calls and every moment the statement's call returns true. -/
import Derived.Test.YtcenfolmajegeaaCellMem
namespace Go.Proofs.Ytcenfolmajegeaa.LCellsSafe
open Go.RowKit Go.Maps CellMap Cells CellAlive Flat CellMem
set_option linter.unusedSimpArgs false
set_option linter.unusedVariables false

/-- The arrays while they are filled: below j they tell f. -/
structure ArrU (w : World) (bl bh : Nat) (f : Int → Option Int) (m : Nat) : Prop where
  l : ∀ j : Nat, j < 256 → ∃ v, w.cell? ⟨bl, j, none⟩ = some v ∧ (j < m → v = .int .i64 ((f j).getD 0))
  h : ∀ j : Nat, j < 256 → ∃ v, w.cell? ⟨bh, j, none⟩ = some v ∧ (j < m → v = .bool (f j).isSome)
  fl : ∀ j : Nat, w.frozen? ⟨bl, j, none⟩ = false
  fh : ∀ j : Nat, w.frozen? ⟨bh, j, none⟩ = false
  ne : bl ≠ bh
theorem ArrU.start {w : World} {bl bh : Nat} {f f' : Int → Option Int} (h : Arr w bl bh f') : ArrU w bl bh f 0 :=
  ⟨fun j hj => ⟨_, h.l j hj, fun h => absurd h (by omega)⟩, fun j hj => ⟨_, h.h j hj, fun h => absurd h (by omega)⟩, h.fl, h.fh, h.ne⟩
theorem ArrU.full {w : World} {bl bh : Nat} {f : Int → Option Int} (h : ArrU w bl bh f 256) : Arr w bl bh f :=
  ⟨fun j hj => by obtain ⟨v, h1, h2⟩ := h.l j hj; rw [h1, h2 hj], fun j hj => by obtain ⟨v, h1, h2⟩ := h.h j hj; rw [h1, h2 hj], h.fl, h.fh, h.ne⟩
theorem ArrU.step {w : World} {bl bh m : Nat} {f : Int → Option Int} (h : ArrU w bl bh f m) (hm : m < 256) :
    ArrU ((w.setCell ⟨bl, m, none⟩ (.int .i64 ((f m).getD 0))).setCell ⟨bh, m, none⟩ (.bool (f m).isSome)) bl bh f (m + 1) := by
  have hne := h.ne
  refine ⟨fun j hj => ?_, fun j hj => ?_, fun j => by simp [h.fl j], fun j => by simp [h.fh j], hne⟩
  · obtain ⟨v, h1, h2⟩ := h.l j hj
    rw [World.cell?_setCell_other _ _ _ _ (by simp [hne.symm])]
    by_cases e : j = m
    · subst e; exact ⟨_, World.cell?_setCell_same _ _ _ h1, fun _ => rfl⟩
    · exact ⟨v, (World.cell?_setCell_other _ _ _ _ (by simp [Ne.symm e])).trans h1, fun hlt => h2 (by omega)⟩
  · obtain ⟨v, h1, h2⟩ := h.h j hj
    have h1' := (World.cell?_setCell_other w ⟨bl, m, none⟩ ⟨bh, j, none⟩ (.int .i64 ((f m).getD 0)) (by simp [hne])).trans h1
    by_cases e : j = m
    · subst e; exact ⟨_, World.cell?_setCell_same _ _ _ h1', fun _ => rfl⟩
    · exact ⟨v, (World.cell?_setCell_other _ _ _ _ (by simp [Ne.symm e])).trans h1', fun hlt => h2 (by omega)⟩

/-- The cells, at a moment; all that is written lies behind B. -/
structure St (w wr : World) (B g bn bs bl bh : Nat) (f : Int → Option Int) (c : Nat) (fs : Int → Option Int) (cs : Nat) : Prop where
  box : Box wr g 300 bn bs f c fs cs
  bel : Below B w wr
  sz : B ≤ wr.heap.size
  nbl : bs ≠ bl
  nbh : bs ≠ bh
  lo : B ≤ bs

def Rel (w : World) (len B g bn bl bh : Nat) (i : Value) (wr : World) : Prop :=
  ∃ (k : Nat) (f : Int → Option Int) (c : Nat) (fs : Int → Option Int) (cs bs : Nat), k ≤ len ∧ i = .int .i64 k ∧ c ≤ k ∧ St w wr B g bn bs bl bh f c fs cs ∧ Arr wr bl bh fs

/-- Behind the test for the moment. -/
def Cut (w : World) (B g bn bl bh A : Nat) (f : Int → Option Int) (c t key : Nat) (v : Int) (wx : World) : Prop :=
  ∃ (fs : Int → Option Int) (cs bs : Nat), St w wx B g bn bs bl bh f c fs cs ∧ Arr wx bl bh fs ∧ A < wx.heap.size ∧
    wx.cell? ⟨A, 0, none⟩ = some (.int .u8 t) ∧ wx.cell? ⟨A, 1, none⟩ = some (.int .u8 key) ∧ wx.cell? ⟨A, 2, none⟩ = some (.int .i64 v)
/-- The inner loop. -/
def Rel2 (w : World) (B g bn bs bl bh A : Nat) (f : Int → Option Int) (c t key : Nat) (v : Int) (i : Value) (wx : World) : Prop :=
  ∃ j : Nat, j ≤ 256 ∧ i = .int .i64 j ∧ St w wx B g bn bs bl bh f c f c ∧ ArrU wx bl bh f j ∧ A < wx.heap.size ∧
    wx.cell? ⟨A, 0, none⟩ = some (.int .u8 t) ∧ wx.cell? ⟨A, 1, none⟩ = some (.int .u8 key) ∧ wx.cell? ⟨A, 2, none⟩ = some (.int .i64 v)

theorem dropC_le (f : Int → Option Int) (c : Nat) (k : Int) : dropC f c k ≤ c := by unfold dropC; split <;> omega

set_option maxRecDepth 100000 in
set_option maxHeartbeats 4000000 in
theorem walk (a0 : Option Addr) (len0 cap0 : Nat) (r0 : List (List Value)) (a1 : Int) (w : World) (w0 : IsRows [.int .u8, .int .u8, .int .i64] w a0 len0 cap0 r0) (w1 : (Lit.int .u8 a1).wf = true) :
    Calls Try.prog 4 #[.slice a0 len0 cap0, .int .u8 a1] w fun e w' => e = .returned (.bool true) ∧ Below w.heap.size w w' := by
  have hmax : len0 ≤ maxLen := Nat.le_trans w0.2.1 w0.2.2.1
  unfold maxLen at hmax
  obtain ⟨at_, rfl, hat⟩ := u8_nat w1
  by_cases hlen : 100 < len0
  · have hlenI : (100 : Int) < (len0 : Int) := by omega
    go_enter Try.func4, Try.ntmps4
    go_wp2_with fail
    refine (alive_any _).mono ?_
    rintro r v1 ⟨rfl, hb1⟩
    go_wp2_with fail
    refine (new_any 300 _ (by omega) (by omega)).mono ?_
    rintro e v2 ⟨g, bn, bs, rfl, hb, hB, hg, hn, hs⟩
    go_wp2_with fail
    go_ret
    exact ⟨rfl, hb1.trans (hB.mono hb1.size)⟩
  · have hlenI : ¬ (100 : Int) < (len0 : Int) := by omega
    go_enter Try.func4, Try.ntmps4
    go_wp2_with fail
    refine (alive_any _).mono ?_
    rintro r v1 ⟨rfl, hb1⟩
    go_wp2_with fail
    refine (new_any 300 _ (by omega) (by omega)).mono ?_
    rintro e v2 ⟨g, bn, bs, rfl, hb, hB, hg, hn, hs⟩
    go_wp2_with fail
    have z3 : v2.heap.size ≤ ((v2.alloc (.cells Try.zeroCells26 26)).alloc (.cells Try.zeroCells27 27)).heap.size := by simp; omega
    have B3 : Below w.heap.size w ((v2.alloc (.cells Try.zeroCells26 26)).alloc (.cells Try.zeroCells27 27)) := by
      have q := hb1.trans (hB.mono hb1.size)
      exact (q.alloc q.size _).alloc (Nat.le_trans q.size (by simp)) _
    have hb3 : Box ((v2.alloc (.cells Try.zeroCells26 26)).alloc (.cells Try.zeroCells27 27)) g 300 bn bs none_ 0 none_ 0 := (hb.alloc _).alloc _
    have ha3 : Arr ((v2.alloc (.cells Try.zeroCells26 26)).alloc (.cells Try.zeroCells27 27)) v2.heap.size (v2.heap.size + 1) none_ := arr_made v2
    have hq := hb.lt
    have hgl : g ≠ v2.heap.size ∧ g ≠ v2.heap.size + 1 ∧ bn ≠ v2.heap.size ∧ bn ≠ v2.heap.size + 1 ∧ bs ≠ v2.heap.size ∧ bs ≠ v2.heap.size + 1 := by omega
    have hLo : w.heap.size ≤ g ∧ w.heap.size ≤ bn ∧ w.heap.size ≤ bs ∧ w.heap.size ≤ v2.heap.size ∧ w.heap.size ≤ v2.heap.size + 1 := by
      have := hb1.size
      have := hB.size
      omega
    generalize World.alloc (World.alloc v2 _) _ = v3 at z3 B3 hb3 ha3 ⊢
    generalize hbl : v2.heap.size = bl at *
    generalize hbh : bl + 1 = bh at *
    clear hb hB
    generalize (at_ : Int) % ((len0 : Int) + 1) = K
    go_loopw [37] (fun i wr => Rel w len0 w.heap.size g bn bl bh i wr) (fun i wr => len0 - (intOf i).toNat)
    case atStart => exact ⟨0, none_, 0, none_, 0, bs, Nat.zero_le _, rfl, Nat.le_refl _, ⟨hb3, B3, B3.size, by omega, by omega, by omega⟩, ha3⟩
    case round =>
      obtain ⟨wo, h_wo⟩ : ∃ v : World, v = wr := ⟨_, rfl⟩; subst h_wo
      obtain ⟨g1, g2, g3, g4, _, _⟩ := hgl
      obtain ⟨o1, o2, _, o4, o5⟩ := hLo
      clear hb3 ha3 B3 hq hs z3
      obtain ⟨k, f, c, fs, cs, bs, hk, rfl, hc, hst, ha⟩ := hrel
      by_cases hkl : k < len0
      · obtain ⟨b, off, hab, hbw, hcells⟩ := rows_cells w0 (by omega)
        subst hab
        obtain ⟨t, key, v, ht, hkey, hv, d0, d1, d2⟩ := hcells k hkl
        rw [← hst.bel.cell (p := ⟨b, _, none⟩) hbw] at d0 d1 d2
        clear hcells
        have hkI : (k : Int) < (len0 : Int) := by omega
        have hbr : b < wo.heap.size := Nat.lt_of_lt_of_le hbw hst.sz
        go_upto_if 44 with (fail)
        generalize h4 : World.alloc wo _ = w4
        have hb4 : Box w4 g 300 bn bs f c fs cs := by rw [← h4]; exact hst.box.alloc _
        have ha4 : Arr w4 bl bh fs := by rw [← h4]; exact ha.kept (World.grownBy_alloc wo _ none) (by simp) (by simp)
        obtain ⟨B4, z4, k4⟩ := alloc_facts h4
        have hst4 : St w w4 w.heap.size g bn bs bl bh f c fs cs := ⟨hb4, hst.bel.trans (B4.mono hst.sz), Nat.le_trans hst.sz B4.size, hst.nbl, hst.nbh, hst.lo⟩
        have q0 := k4 0
        have q1 := k4 1
        have q2 := k4 2
        have hlo := ha.lt
        have hlb := hst.box.lt
        clear h4 k4 hst ha hb4 d0 d1 d2 B4
        generalize wo.heap.size = A at *
        go_cut [47] (fun _ wx => Cut w w.heap.size g bn bl bh A f c t key v wx)
        case first =>
          by_cases hkk : (k : Int) = K
          · have hkb : ((k : Int) == K) = true := by simpa using hkk
            clear hkk
            go_wp2_with fail
            refine (sync_any _ hst4.box).mono ?_
            rintro e w5 ⟨rfl, hb5, hg5⟩
            have hsz4 := hst4.sz
            have hst5 : St w w5 w.heap.size g bn w4.heap.size bl bh f c f c :=
              ⟨hb5, hst4.bel.grown hg5 hst4.sz (fun j hj => by cases hj; omega), Nat.le_trans hst4.sz hg5.size, by omega, by omega, hst4.sz⟩
            have ha5 : ArrU w5 bl bh f 0 := ArrU.start (ha4.kept hg5 (by simp; omega) (by simp; omega))
            have p0 := (hg5.cell_far ⟨A, 0, none⟩ z4 (by simp; omega)).trans q0
            have p1 := (hg5.cell_far ⟨A, 1, none⟩ z4 (by simp; omega)).trans q1
            have p2 := (hg5.cell_far ⟨A, 2, none⟩ z4 (by simp; omega)).trans q2
            have z5 := Nat.lt_of_lt_of_le z4 hg5.size
            clear q0 q1 q2 hst4 ha4 hg5 hb5 
            generalize w4.heap.size = bs5 at *
            go_wp2_with fail
            go_loopw [47] (fun i wx => Rel2 w w.heap.size g bn bs5 bl bh A f c t key v i wx) (fun i wx => (256 - intOf i).toNat)
            case atStart => exact ⟨0, by omega, rfl, hst5, ha5, z5, p0, p1, p2⟩
            case round =>
              obtain ⟨wi, h_wi⟩ : ∃ v : World, v = wr := ⟨_, rfl⟩; subst h_wi
              clear hst5 ha5 z5 p0 p1 p2
              obtain ⟨j, hj, rfl, hst6, ha6, z6, p0, p1, p2⟩ := hrel
              by_cases hjl : j < 256
              · have HG := get_any (k := j) _ hst6.box (Go.WalkArith.wf_u8 (by omega))
                obtain ⟨x1, e1, _⟩ := ha6.l j hjl
                obtain ⟨x2, e2, _⟩ := ha6.h j hjl
                have e3 := ha6.fl j
                have e4 := ha6.fh j
                have e5 := ha6.ne
                have hjI : (j : Int) < 256 := by omega
                have hlb6 := hst6.box.lt
                have hS := ha6.step hjl
                have n1 := hst6.nbl
                have n2 := hst6.nbh
                have hB7 : Below w.heap.size w ((wi.setCell ⟨bl, j, none⟩ (.int .i64 ((f j).getD 0))).setCell ⟨bh, j, none⟩ (.bool (f j).isSome)) :=
                  (hst6.bel.setCell (by show _ ≤ bl; omega) _).setCell (by show _ ≤ bh; omega) _
                have hst7 : St w ((wi.setCell ⟨bl, j, none⟩ (.int .i64 ((f j).getD 0))).setCell ⟨bh, j, none⟩ (.bool (f j).isSome)) w.heap.size g bn bs5 bl bh f c f c :=
                  ⟨(hst6.box.stored (by dsimp only; omega) (by dsimp only; omega) (by dsimp only; omega)).stored (by dsimp only; omega) (by dsimp only; omega) (by dsimp only; omega), hB7, by simp; exact hst6.sz, n1, n2, hst6.lo⟩
                cases hf : f (j : Int) with
                | none =>
                  rw [hf] at HG hS hst7
                  simp only [Option.isSome_none, Bool.false_eq_true, if_false, Option.getD_none] at HG hS hst7
                  clear hf hB7
                  go_wp2_with (go_at_call 12; refine HG.mono ?_; rintro e w' ⟨rfl, rfl⟩)
                  go_roundw
                  case rel =>
                    exact ⟨j + 1, by omega, by go_num, hst7, hS, by simpa using z6, (World.cell?_setCell_other _ _ _ _ (by simp <;> omega)).trans ((World.cell?_setCell_other _ _ _ _ (by simp <;> omega)).trans p0), (World.cell?_setCell_other _ _ _ _ (by simp <;> omega)).trans ((World.cell?_setCell_other _ _ _ _ (by simp <;> omega)).trans p1), (World.cell?_setCell_other _ _ _ _ (by simp <;> omega)).trans ((World.cell?_setCell_other _ _ _ _ (by simp <;> omega)).trans p2)⟩
                  case measure => simp [intOf]; omega
                | some x =>
                  rw [hf] at HG hS hst7
                  simp only [Option.isSome_some, if_true, Option.getD_some] at HG hS hst7
                  clear hf hB7
                  go_wp2_with (go_at_call 12; refine HG.mono ?_; rintro e w' ⟨rfl, rfl⟩)
                  go_roundw
                  case rel =>
                    exact ⟨j + 1, by omega, by go_num, hst7, hS, by simpa using z6, (World.cell?_setCell_other _ _ _ _ (by simp <;> omega)).trans ((World.cell?_setCell_other _ _ _ _ (by simp <;> omega)).trans p0), (World.cell?_setCell_other _ _ _ _ (by simp <;> omega)).trans ((World.cell?_setCell_other _ _ _ _ (by simp <;> omega)).trans p1), (World.cell?_setCell_other _ _ _ _ (by simp <;> omega)).trans ((World.cell?_setCell_other _ _ _ _ (by simp <;> omega)).trans p2)⟩
                  case measure => simp [intOf]; omega
              · obtain rfl : j = 256 := by omega
                go_wp2_with fail
                go_meet
                exact ⟨f, c, bs5, hst6, ha6.full, z6, p0, p1, p2⟩
          · have hkb : ((k : Int) == K) = false := by simpa using hkk
            clear hkk
            go_wp2_with fail
            go_meet
            exact ⟨fs, cs, bs, hst4, ha4, z4, q0, q1, q2⟩
        case rest =>
          obtain ⟨wi, h_wi⟩ : ∃ v : World, v = wc := ⟨_, rfl⟩; subst h_wi
          clear hst4 ha4 z4 q0 q1 q2
          obtain ⟨fs, cs, bs, hst, ha, z6, p0, p1, p2⟩ := hcut
          have n1 := hst.nbl
          have n2 := hst.nbh
          have hpar : t % 2 = 0 ∨ t % 2 = 1 := by omega
          rcases hpar with hpar | hpar
          · have hpI : ((t : Int) % 2 == 0) = true := by simp; omega
            go_wp2_with fail
            refine (set_fits (k := key) (v := v) _ hst.box (by exact Go.WalkArith.wf_u8 (by omega)) hv (Or.inr (by omega))).mono ?_
            rintro e w5 ⟨rfl, hb5, hg5⟩
            go_wp2_with fail
            go_roundw
            case rel =>
              exact ⟨k + 1, CellMap.set f key v, setC f c key, fs, cs, bs, by omega, by go_num, by unfold setC; split <;> omega,
                ⟨hb5, hst.bel.grown hg5 hst.sz (fun j hj => by cases hj; omega), Nat.le_trans hst.sz hg5.size, n1, n2, hst.lo⟩, ha.kept hg5 (by simp; omega) (by simp; omega)⟩
            case measure => simp [intOf]; omega
          · have hpI : ((t : Int) % 2 == 0) = false := by simp; omega
            go_wp2_with fail
            refine (drop_any (k := key) _ hst.box (by exact Go.WalkArith.wf_u8 (by omega))).mono ?_
            rintro e w5 ⟨rfl, hb5, hg5⟩
            have hdc := dropC_le f c key
            go_wp2_with fail
            go_roundw
            case rel =>
              exact ⟨k + 1, drop f key, dropC f c key, fs, cs, bs, by omega, by go_num, by omega,
                ⟨hb5, hst.bel.grown hg5 hst.sz (fun j hj => by cases hj; omega), Nat.le_trans hst.sz hg5.size, n1, n2, hst.lo⟩, ha.kept hg5 (by simp; omega) (by simp; omega)⟩
            case measure => simp [intOf]; omega
      · have hkI : ¬ (k : Int) < (len0 : Int) := by omega
        go_wp2_with fail
        refine (crash_any _ hst.box).mono ?_
        rintro e w5 ⟨rfl, hb5, hg5⟩
        have ha5 : Arr w5 bl bh fs := ha.kept hg5 (by simp; omega) (by simp; omega)
        have B5 : Below w.heap.size w w5 := hst.bel.grown hg5 hst.sz (fun j hj => by cases hj; omega)
        clear hg5 hst ha
        generalize wo.heap.size = bn5 at hb5
        go_wp2_with fail
        go_loop [83] (fun i => ∃ j : Nat, j ≤ 256 ∧ i = .int .i64 j) (fun i => (256 - intOf i).toNat)
        case atStart => exact ⟨0, by omega, rfl⟩
        case round =>
          obtain ⟨j, hj, rfl⟩ := hrel
          by_cases hjl : j < 256
          · have HG := get_any (k := j) _ hb5 (Go.WalkArith.wf_u8 (by omega))
            have a1 := ha5.l j hjl
            have a2 := ha5.h j hjl
            have hj2 : (j : Int) < 256 := by omega
            cases hf : fs (j : Int) with
            | none =>
              rw [hf] at HG a1 a2
              simp only [Option.isSome_none, Bool.false_eq_true, if_false, Option.getD_none] at HG a1 a2
              clear hf
              go_wp2_with (go_at_call 12; refine HG.mono ?_; rintro e w' ⟨rfl, rfl⟩)
              go_round
              case rel => exact ⟨j + 1, by omega, by go_num⟩
              case measure => simp [intOf]; omega
            | some x =>
              rw [hf] at HG a1 a2
              simp only [Option.isSome_some, if_true, Option.getD_some] at HG a1 a2
              clear hf
              go_wp2_with (go_at_call 12; refine HG.mono ?_; rintro e w' ⟨rfl, rfl⟩)
              go_round
              case rel => exact ⟨j + 1, by omega, by go_num⟩
              case measure => simp [intOf]; omega
          · obtain rfl : j = 256 := by omega
            go_wp2_with fail
            go_ret
            exact ⟨rfl, B5⟩
end Go.Proofs.Ytcenfolmajegeaa.LCellsSafe
