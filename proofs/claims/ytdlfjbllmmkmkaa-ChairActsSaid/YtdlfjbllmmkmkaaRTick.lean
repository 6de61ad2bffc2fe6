/- What the document's tick answers: all that is over is aborted, in a new row. -/
import Derived.Test.YtdlfjbllmmkmkaaRCopy
import Derived.Test.YtdlfjbllmmkmkaaRPlain
namespace Go.Proofs.Ytdlfjbllmmkmkaa.Chair
open Go.RowKit Flat ChairSpec News Go.Proofs.YtdlfjbllmmkmkaaW.PrintLast
set_option linter.unusedSimpArgs false
set_option linter.unusedVariables false
set_option maxRecDepth 100000
/-! ### rows of deals in a block -/
def rowsAt (w : World) (g : Nat) (E : List (Int × De)) : Prop := ∀ j (h : j < E.length), w.rangeAt g (j * 30) (rdc E[j].1 E[j].2)
theorem rowsAt.below {w w' : World} {g : Nat} {E : List (Int × De)} (h : rowsAt w g E) (hb : Below w.heap.size w w') : rowsAt w' g E := fun j hj i v hv => by
  have hc := h j hj i v hv
  exact (hb.cell (p := ⟨g, _, none⟩) (Flat.cell_lt hc)).trans hc
theorem rowsAt.set {w w' : World} {g k : Nat} {E : List (Int × De)} {x : Int × De} (h : rowsAt w g E) (ht : w.there g 0 (E.length * 30)) (hk : k < E.length) (e : w.setCells g (k * 30) (rdc x.1 x.2).toArray.toList = w') : rowsAt w' g (E.set k x) := fun j hj => by
  rw [List.length_set] at hj
  rw [← e]
  by_cases hjk : j = k
  · subst hjk
    rw [List.getElem_set_self]
    exact World.rangeAt_setCells_same _ _ _ (rdc x.1 x.2) (by rw [rdc_len]; exact there_at ht (by omega))
  · rw [List.getElem_set_ne (Ne.symm hjk)]
    refine World.rangeAt_setCells_apart (h j hj) _ _ _ ?_
    rw [rdc_len]
    show g ≠ g ∨ _ ∨ k * 30 + (rdc x.1 x.2).length ≤ _
    rw [rdc_len]
    omega
theorem own_parts {w : World} {base size n : Nat} {e : TypeId} {v : Value} {xs : List Value} (h : w.ownsRow base e size v n xs) : ∃ a cap, v = .slice a n cap ∧ n ≤ cap ∧ cap ≤ maxLen ∧ (0 < n → ∃ g, a = some ⟨g, 0, none⟩ ∧ base ≤ g ∧ g < w.heap.size ∧ w.rangeAt g 0 xs ∧ w.there g 0 (n * size)) := by
  rcases h.2 with ⟨h1, h2⟩ | ⟨g, cap, cur, h1, h2, h3, h4, h5, h6, h7⟩
  · subst h2; exact ⟨none, 0, h1, Nat.le_refl _, Nat.zero_le _, fun h => absurd h (Nat.lt_irrefl _)⟩
  · subst h1
    refine ⟨_, cap, rfl, h4, h5, fun _ => ⟨g, rfl, h2, (h.lt g rfl).2, fun j u hu => by rw [← Addr.add_mid]; exact h.cells rfl j u hu, fun j hj => ?_⟩⟩
    have hl : j < cur.size := by rw [h6]; exact Nat.lt_of_lt_of_le hj (Nat.mul_le_mul_right _ h4)
    rw [Nat.zero_add]
    refine ⟨?_, ?_⟩
    · simp [World.cell?, h3, hl]
    · simp [World.frozen?, h3]
/-- What a tick makes of the first k. -/
def part (now : Int) (D : List (Int × De)) (k : Nat) : List (Int × De) := (D.take k).map (tk now) ++ D.drop k
theorem part_len (now : Int) (D : List (Int × De)) (k : Nat) : (part now D k).length = D.length := by simp [part]; omega
theorem part_zero (now : Int) (D : List (Int × De)) : part now D 0 = D := by simp [part]
theorem part_all (now : Int) (D : List (Int × De)) : part now D D.length = D.map (tk now) := by simp [part]
theorem part_at (now : Int) (D : List (Int × De)) (k : Nat) (hk : k < D.length) : (part now D k)[k]'(by rw [part_len]; exact hk) = D[k] := by
  simp [part, List.getElem_append, List.length_take, Nat.min_eq_left (Nat.le_of_lt hk)]
theorem part_set (now : Int) (D : List (Int × De)) (k : Nat) (hk : k < D.length) : (part now D k).set k (tk now D[k]) = part now D (k + 1) := by
  apply List.ext_getElem
  · simp [part_len]
  · intro i h1 h2
    rw [List.length_set, part_len] at h1
    by_cases hi : i = k
    · subst hi
      rw [List.getElem_set_self]
      have h3 : i < min (i + 1) D.length := by omega
      simp [part, List.getElem_append, h1, h3]
    · rw [List.getElem_set_ne (Ne.symm hi)]
      by_cases hik : i < k
      · simp only [part, List.getElem_append, List.length_map, List.length_take, List.getElem_map, List.getElem_take, List.getElem_drop]
        rw [dif_pos (by omega), dif_pos (by omega)]
      · simp only [part, List.getElem_append, List.length_map, List.length_take, List.getElem_map, List.getElem_take, List.getElem_drop]
        rw [dif_neg (by omega), dif_neg (by omega)]
        congr 1
        omega
theorem part_same (now : Int) (D : List (Int × De)) (k : Nat) (hk : k < D.length) (h : tickD now D[k].2 = D[k].2) : part now D (k + 1) = part now D k := by
  rw [← part_set now D k hk, show tk now D[k] = (part now D k)[k]'(by rw [part_len]; exact hk) by rw [part_at now D k hk, tk, h]]
  exact List.set_getElem_self _
/-! ### the chair in its box, and the result -/
structure Chr (w0 w : World) (dv lv : Value) : Prop where
  bel : Below w0.heap.size w0 w
  big : w0.heap.size + 1 < w.heap.size
  c0 : w.cell? ⟨w0.heap.size, 0, none⟩ = some dv
  c1 : w.cell? ⟨w0.heap.size, 1, none⟩ = some lv
  own : w.there w0.heap.size 0 2
  res : w.there (w0.heap.size + 1) 0 2
theorem Chr.below {w0 w w' : World} {dv lv : Value} (h : Chr w0 w dv lv) (hb : Below w.heap.size w w') : Chr w0 w' dv lv :=
  ⟨h.bel.trans (hb.mono (by have := h.big; omega)), Nat.lt_of_lt_of_le h.big hb.size, (hb.cell (p := ⟨w0.heap.size, 0, none⟩) (Flat.cell_lt h.c0)).trans h.c0, (hb.cell (p := ⟨w0.heap.size, 1, none⟩) (Flat.cell_lt h.c0)).trans h.c1, there_below h.own hb, there_below h.res hb⟩
theorem Chr.apart {w0 w w' : World} {dv lv : Value} {g o : Nat} {vs : List Value} (h : Chr w0 w dv lv) (hg : w0.heap.size + 1 < g) (e : w.setCells g o vs = w') : Chr w0 w' dv lv :=
  ⟨below_cells _ _ _ h.bel (by omega) e, Nat.lt_of_lt_of_le h.big (below_cells _ _ _ (Below.refl w0.heap.size w) (by omega) e).size, (cells_apart e (by omega)).trans h.c0, (cells_apart e (by omega)).trans h.c1, there_cells h.own e, there_cells h.res e⟩
theorem there_newN (v : World) (B : Array Value) (t : TypeId) (n : Nat) (hB : B.size = n) : (v.alloc (.cells B t)).there v.heap.size 0 n := fun j hj => by
  refine ⟨?_, World.frozen?_alloc_at _ _ _ _ rfl⟩
  rw [Nat.zero_add, World.cell?_alloc_new, Array.getElem?_eq_getElem (by omega)]; rfl
theorem chr_new (w v1 v2 : World) (dv lv : Value) (t1 t2 : TypeId) (Z : Array Value) (hZ : Z.size = 2) (h1 : World.alloc w (.cells #[dv, lv] t1) = v1) (h2 : World.alloc v1 (.cells Z t2) = v2) : Chr w v2 dv lv := by
  obtain ⟨b1, z1, k1⟩ := alloc_facts h1
  obtain ⟨b2, z2, k2⟩ := alloc_facts h2
  have e1 : v1.heap.size = w.heap.size + 1 := by rw [← h1]; simp
  have e2 : v2.heap.size = w.heap.size + 1 + 1 := by rw [← h2]; simp [e1]
  have o1 : v1.there w.heap.size 0 2 := by rw [← h1]; exact there_newN w _ _ 2 rfl
  have o2 : v2.there v1.heap.size 0 2 := by rw [← h2]; exact there_newN v1 _ _ 2 hZ
  rw [e1] at o2
  exact ⟨b1.trans (b2.mono (by omega)), by omega, (b2.cell (p := ⟨w.heap.size, 0, none⟩) z1).trans (k1 0), (b2.cell (p := ⟨w.heap.size, 1, none⟩) z1).trans (k1 1), there_below o1 b2, o2⟩
theorem new_cells {v w5 : World} {B : Array Value} {ty : TypeId} {xs : List Value} {n : Nat} (hB : B.size = n) (hx : xs.length = n) (hn : 0 < n) (e : (v.alloc (.cells B ty)).setCells v.heap.size 0 xs.toArray.toList = w5) : Below v.heap.size v w5 ∧ v.heap.size < w5.heap.size ∧ w5.rangeAt v.heap.size 0 xs ∧ w5.there v.heap.size 0 n := by
  have ht := there_newN v B ty n hB
  have hb := below_cells _ _ _ ((Below.refl v.heap.size v).alloc (Nat.le_refl _) (.cells B ty)) (Nat.le_refl _) e
  have h1 : w5.rangeAt v.heap.size 0 xs := by rw [← e]; exact World.rangeAt_setCells_same _ _ 0 xs (by rw [hx]; exact ht)
  refine ⟨hb, ?_, h1, by rw [← e]; exact World.there_setCells ht _ _ _⟩
  cases xs with
  | nil => simp at hx; omega
  | cons x r => exact Flat.cell_lt (h1 0 x rfl)
theorem RDeAt.out {w w' : World} {b : Nat} {tx : Int} {d : De} (h : RDeAt w b tx d) (o : Int) (e : w.setCell ⟨b, 29, none⟩ (.int .i64 o) = w') : RDeAt w' b tx ⟨d.ta, d.te, o⟩ := by
  obtain ⟨p0, p1, p2, p3⟩ := h.parts
  refine rde_join ?_ (fun j v hv => ?_) (fun j v hv => ?_) ?_
  · rw [← e]; exact (World.cell?_setCell_other _ _ _ _ (by first | (simp; done) | (simp; omega))).trans p0
  · have hj : j < 24 := (List.getElem?_eq_some_iff.1 hv).1
    rw [← e]; exact (World.cell?_setCell_other _ _ _ _ (by first | (simp; done) | (simp; omega))).trans (p1 j v hv)
  · have hj : j < 4 := (List.getElem?_eq_some_iff.1 hv).1
    rw [← e]; exact (World.cell?_setCell_other _ _ _ _ (by first | (simp; done) | (simp; omega))).trans (p2 j v hv)
  · rw [← e]; exact World.cell?_setCell_same _ _ _ p3
theorem rangeAt_far {w w' : World} {b c o i : Nat} {x : Value} {xs : List Value} (h : w.rangeAt b o xs) (hne : b ≠ c) (e : w.setCell ⟨c, i, none⟩ x = w') : w'.rangeAt b o xs := fun j v hv => by
  rw [← e]; exact (World.cell?_setCell_other _ _ _ _ (by intro h; exact hne (congrArg Addr.block h).symm)).trans (h j v hv)
theorem Chr.one {w0 w w' : World} {dv lv x : Value} {g o : Nat} (h : Chr w0 w dv lv) (hg : w0.heap.size + 1 < g) (e : w.setCell ⟨g, o, none⟩ x = w') : Chr w0 w' dv lv := h.apart hg (vs := [x]) e
theorem infoRC : (Try.prog.info? 28).map (·.size) = some 2 := by kernel_rfl
def chc (dv lv : Value) : List Value := [dv, lv]
theorem chc_one {dv lv : Value} (h1 : dv.oneCell' = true) (h2 : lv.oneCell' = true) : ∀ u ∈ chc dv lv, u.oneCell' = true := by
  intro u hu
  simp only [chc, List.mem_cons, List.not_mem_nil, or_false] at hu
  rcases hu with rfl | rfl <;> assumption
theorem Chr.row {w0 w : World} {dv lv : Value} (h : Chr w0 w dv lv) : w.rangeAt w0.heap.size 0 (chc dv lv) := fun j v hv => by
  match j, hv with
  | 0, hv => cases hv; exact h.c0
  | 1, hv => cases hv; exact h.c1
  | j + 2, hv => simp [chc] at hv
theorem Chr.field0 {w0 w w' : World} {dv lv v : Value} (h : Chr w0 w dv lv) (e : w.setCell ⟨w0.heap.size, 0, none⟩ v = w') : Chr w0 w' v lv :=
  ⟨by rw [← e]; exact h.bel.setCell (p := ⟨w0.heap.size, 0, none⟩) (Nat.le_refl _) _, by rw [← e]; simpa using h.big, by rw [← e]; exact World.cell?_setCell_same _ _ _ h.c0,
    by rw [← e]; exact (World.cell?_setCell_other _ _ _ _ (by simp)).trans h.c1, by rw [← e]; exact there_set h.own, by rw [← e]; exact there_set h.res⟩
theorem fin_rc {fn : Func} {p u : Tmp} (h : fn.results = #[.cell p 28, .tmp u]) (tmps : Array Value) (w : World) (b : Nat) (hp : tmps.getD p undef = .pointer (some ⟨b, 0, none⟩)) (dv lv : Value) (hd : w.rangeAt b 0 (chc dv lv)) :
    (results fn tmps).run Try.prog w = .ok (.tuple #[.agg #[dv, lv], tmps.getD u undef]) w := by
  have hl := run_loadVar_mid (P := Try.prog) w b 0 28 (chc dv lv) _ hd Try.underlying28 rfl infoRC
  rw [results_cell_tmp h, hp]
  simp [asAddr, hl, chc]
theorem Chr.done {w0 w w' : World} {dv lv : Value} (h : Chr w0 w dv lv) (e : w.setCells (w0.heap.size + 1) 0 (chc dv lv).toArray.toList = w') : w'.rangeAt (w0.heap.size + 1) 0 (chc dv lv) ∧ Below w0.heap.size w0 w' :=
  ⟨by rw [← e]; exact World.rangeAt_setCells_same _ _ _ _ h.res, below_cells _ _ _ h.bel (Nat.le_succ _) e⟩
def TickRel (w wr : World) (dv lv : Value) (D : Ds) (now : Int) (a : Option Addr) (B : Nat) (n i : Value) : Prop :=
  ∃ k, k ≤ D.length ∧ n = .int .i64 (cntR now D k : Nat) ∧ i = .int .i64 (k : Nat) ∧ Chr w wr dv lv ∧
    (0 < D.length → ∃ g, a = some ⟨g, 0, none⟩ ∧ B ≤ g ∧ g < wr.heap.size ∧ rowsAt wr g (part now D k) ∧ wr.there g 0 ((part now D k).length * 30))
set_option maxHeartbeats 8000000 in
theorem rtick_any (dv lv : Value) (D : List (Int × De)) (now : Int) (w : World) (hd : IsDeals w dv D) (hlen : D.length ≤ 1000) (hlv : lv.oneCell' = true) : Calls Try.prog 36 #[.agg #[dv, lv], .int .i64 now] w fun e w' => ∃ v', e = .returned (.tuple #[.agg #[v', lv], .int .i64 (cntR now D D.length : Nat)]) ∧ IsDeals w' v' (D.map (tk now)) ∧ Below w.heap.size w w' ∧ (v' = dv ∨ ∀ k, v'.ownBlock = some k → w.heap.size ≤ k) := by
  obtain ⟨i, z, hi, hz, hs, hb, hzs⟩ := info_zero infoRD zcellsRD
  have HD := Lib.hid hd
  have HI := Lib.hid hi
  have HZ := Lib.hid hz
  have HS := Lib.hid hs
  have HBY := Lib.hid hb
  have HZS := Lib.hid hzs
  have HN := Lib.hid (fun v1 v2 t1 t2 Z hZ h1 h2 => chr_new w v1 v2 dv lv t1 t2 Z hZ h1 h2)
  have HLV := Lib.hid hlv
  clear hi hz hs hb hzs hd hlv
  go_enter Try.func36, Try.ntmps36
  go_upto_region 2 with fail
  generalize hv1 : World.alloc w _ = v1
  generalize hv2 : World.alloc v1 _ = v2
  have HC := Lib.hid (HN.out v1 v2 _ _ _ rfl hv1 hv2)
  have hn2 : v2.heap.size = w.heap.size + 1 + 1 := by rw [← hv2, ← hv1]; simp
  clear hv1 hv2 HN
  obtain ⟨c0, c1⟩ := And.intro HC.out.c0 HC.out.c1
  have HC2 := HC
  have HD2 := Lib.hid (HD.out.below (HC.out.bel))
  clear HC
  have HB2 := HC2.out.big
  have HOW := Lib.hid (show World.ownsRow (v2.alloc (.cells #[] 75)) v2.heap.size 75 30 (.slice (some ⟨w.heap.size + 1 + 1, 0, none⟩) 0 0) 0 [] by rw [← hn2]; exact World.ownsRow_made v2 #[] 0 (Nat.le_refl _) (Nat.zero_le _) rfl)
  go_upto_region 3 with (at_builtin; refine wpList_copy rfl _ _ 26 rfl (v2.heap.size) 75 i z 30 184 Try.underlying26 HI.out HZ.out HS.out HBY.out HZS.out (by decide) _ rfl HOW.out _ D.length (dcl D) rfl (HD2.out.sl.below ((Below.refl _ _).alloc (Nat.le_refl _) _)) (dcl_len D) (dcl_one D) (by omega) (by simp) ?_; intro v' v3 ho' hb')
  have hbv : Below v2.heap.size v2 v3 := ((Below.refl v2.heap.size v2).alloc (Nat.le_refl _) _).trans hb'
  have HC3 := Lib.hid (HC2.out.below hbv)
  have hol := ho'.lt
  obtain ⟨a, cap, rfl, hlc, hcm, hparts⟩ := own_parts ho'
  have HLO := Lib.hid (fun k (hk : Value.ownBlock (.slice a D.length cap) = some k) => show w.heap.size ≤ k from by have := (hol k hk).1; omega)
  clear hol
  unfold maxLen at hcm
  have HP := Lib.hid hparts
  clear ho' hb' hbv hparts HC2 HOW HD2 HI HZ HS HBY HZS c0 c1
  go_wp2_with fail
  go_loopw [6, 8] (fun n i wr => TickRel w wr dv lv D now a v2.heap.size n i) (fun _ i _ => D.length - (intOf i).toNat)
  case atStart => exact ⟨0, Nat.zero_le _, rfl, rfl, HC3.out, fun h => by
    obtain ⟨g, e1, e2, e3, e4, e5⟩ := HP.out h
    refine ⟨g, e1, by omega, e3, ?_, by rw [part_len]; exact e5⟩
    rw [part_zero]
    intro j hj
    have := flat_split rd1 30 (fun _ => rfl) D 0 e4 j hj
    rw [Nat.zero_add] at this
    exact this⟩
  case round =>
    obtain ⟨k, hk, rfl, rfl, hC, hrow⟩ := hrel
    have HC := Lib.hid hC
    have hcn := cnt_le now D k
    by_cases hkl : k < D.length
    · have hkI : (k : Int) < (D.length : Int) := by omega
      have hk0 : (0 : Int) ≤ (k : Int) := by omega
      obtain ⟨g, rfl, hgb, hgw, hrows, hth⟩ := hrow (by omega)
      have HR := Lib.hid hrows
      have HT := Lib.hid hth
      obtain ⟨tx, d, hx⟩ : ∃ tx d, D[k] = (tx, d) := ⟨_, _, rfl⟩
      have hpl : k < (part now D k).length := by rw [part_len]; exact hkl
      have HK := Lib.hid (show wr.rangeAt g (k * 30) (rdc tx d) by
        have := HR.out k hpl
        rw [part_at now D k hkl, hx] at this
        exact this)
      have HCS := Lib.hid (show cntR now D (k + 1) = cntR now D k + (if hitD now d then 1 else 0) by rw [cnt_step now D k hkl, hx])
      have HPS := Lib.hid (show (part now D k).set k (tx, tickD now d) = part now D (k + 1) by rw [← part_set now D k hkl, hx]; rfl)
      have HPK := Lib.hid (show tickD now d = d → part now D (k + 1) = part now D k from fun e => part_same now D k hkl (by rw [hx]; exact e))
      have HL : Hid ((rdc tx d).toArray.size = 30) := Lib.hid (by simp [rdc_len])
      clear hrow hrows hth hx hpl
      go_upto_region 6 with fail
      have HNEW := Lib.hid (fun B hB => there_newN wr B 75 30 hB)
      go_upto_region 7 with (first
        | (refine wpList_load_mid rfl 75 _ rfl g _ rfl (rdc tx d) _ HK.out Try.underlying75 rfl infoRDe ?_)
        | (refine wpList_store_mid rfl 75 _ _ rfl (wr.heap.size) 0 (rdc tx d).toArray rfl rfl (HNEW.out _ rfl) infoRDe (all_oneCell_toArray (rdc_one _ _)) ?_; generalize hw5 : World.setCells _ _ _ _ = w5))
      obtain ⟨hb5, hz5, hD5, ht5⟩ := new_cells rfl (rdc_len tx d) (by decide) hw5
      have HC5 := Lib.hid (HC.out.below hb5)
      have HR5 := Lib.hid (HR.out.below hb5)
      have HT5 := Lib.hid (there_below HT.out hb5)
      have HD5 := Lib.hid (show RDeAt w5 wr.heap.size tx d from hD5)
      have HO5 := Lib.hid ht5
      have hwb : w.heap.size + 1 < wr.heap.size := HC.out.big
      have hz5' : wr.heap.size < w5.heap.size := hz5
      clear hw5 hb5 hD5 ht5 HC HR HT HK HNEW hC hz5 HP HC3 HD
      generalize wr.heap.size = b5 at *
      obtain ⟨_, _, _, p3⟩ := HD5.out.parts
      by_cases ho : d.out = 0
      · have P2 := HD5.out.parts.2.2.1
        have r0 := P2 0 _ rfl
        have r1 := P2 1 _ rfl
        have r2 := P2 2 _ rfl
        have r3 := P2 3 _ rfl
        have HOV := Lib.hid (fun W => rover_te d.te now W)
        clear P2
        go_wp2_with fail
        refine (HOV.out _).mono ?_
        rintro q v6 ⟨rfl, hb6⟩
        have HC6 := Lib.hid (HC5.out.below hb6)
        have HR6 := Lib.hid (HR5.out.below hb6)
        have HT6 := Lib.hid (there_below HT5.out hb6)
        have HD6 := Lib.hid (HD5.out.below hb6)
        have HO6 := Lib.hid (there_below HO5.out hb6)
        have hz6 : b5 < v6.heap.size := Nat.lt_of_lt_of_le hz5' hb6.size
        clear HC5 HR5 HT5 HD5 HO5 hb6 r0 r1 r2 r3 p3 HOV
        cases hov : overTe d.te now with
        | false =>
          have hh : hitD now d = false := by rw [hitD, hov, Bool.and_false]
          have ht : tickD now d = d := by rw [tickD, if_neg (by rw [hov]; simp)]
          rw [hh] at HCS
          have HPQ := Lib.hid (HPK.out ht)
          clear hh ht HPK HPS
          go_wp2_with fail
          exact ⟨⟨k + 1, hkl, by rw [HCS.out]; simp, by go_num, HC6.out, fun _ => ⟨g, rfl, hgb, by omega, by rw [HPQ.out]; exact HR6.out, by rw [HPQ.out]; exact HT6.out⟩⟩, by simp [intOf]; omega⟩
        | true =>
          have hh : hitD now d = true := by rw [hitD, hov, ho]; rfl
          have ht : tickD now d = ⟨d.ta, d.te, 2⟩ := by rw [tickD, if_pos ⟨ho, hov⟩]
          rw [hh] at HCS
          rw [ht] at HPS
          clear hh ht HPK
          obtain ⟨_, _, _, p3⟩ := HD6.out.parts
          have pf := (HO6.out 29 (by decide)).2
          rw [Nat.zero_add] at pf
          go_upto_region 9 with fail
          generalize hw7 : World.setCell v6 _ _ = w7
          have hne : g ≠ b5 := by omega
          have HD7 := Lib.hid (HD6.out.out 2 hw7)
          have HC7 := Lib.hid (HC6.out.one hwb hw7)
          have HR7 := Lib.hid (show rowsAt w7 g (part now D k) from fun j hj => rangeAt_far (HR6.out j hj) hne hw7)
          have HT7 := Lib.hid (show w7.there g 0 ((part now D k).length * 30) by rw [← hw7]; exact there_set HT6.out)
          have hz7 : b5 < w7.heap.size := by rw [← hw7]; simpa using hz6
          clear hw7 HD6 HC6 HR6 HT6 HO6 p3 pf
          go_upto_region 10 with (first
            | (refine wpList_load_mid rfl 75 _ rfl b5 0 rfl (rdc tx ⟨d.ta, d.te, 2⟩) _ HD7.out Try.underlying75 rfl infoRDe ?_)
            | (refine wpList_store_mid rfl 75 _ _ rfl g (k * 30) (rdc tx ⟨d.ta, d.te, 2⟩).toArray rfl rfl (there_at (o := k * 30) (m := 30) HT7.out (by rw [part_len]; omega)) infoRDe (all_oneCell_toArray (rdc_one _ _)) ?_; generalize hw8 : World.setCells w7 _ _ _ = w8))
          have HR8 := Lib.hid (show rowsAt w8 g (part now D (k + 1)) by
            have := rowsAt.set (x := (tx, ⟨d.ta, d.te, 2⟩)) HR7.out HT7.out (by rw [part_len]; exact hkl) hw8
            rw [HPS.out] at this
            exact this)
          have HC8 := Lib.hid (HC7.out.apart (by omega) hw8)
          have HT8 := Lib.hid (show w8.there g 0 ((part now D (k + 1)).length * 30) by have := there_cells HT7.out hw8; rw [part_len] at this ⊢; exact this)
          have hz8 : b5 < w8.heap.size := by
            have := (below_cells _ _ _ (Below.refl 0 w7) (Nat.zero_le _) hw8).size
            omega
          clear hw8 HR7 HC7 HT7 HD7 HPS
          go_wp2_with fail
          exact ⟨⟨k + 1, hkl, by rw [HCS.out]; go_num, by go_num, HC8.out, fun _ => ⟨g, rfl, hgb, by omega, HR8.out, HT8.out⟩⟩, by simp [intOf]; omega⟩
      · have hob : (d.out == 0) = false := beq_eq_false_iff_ne.2 ho
        have hh : hitD now d = false := by rw [hitD, decide_eq_false ho, Bool.false_and]
        have ht : tickD now d = d := by rw [tickD, if_neg (fun h => ho h.1)]
        rw [hh] at HCS
        have HPQ := Lib.hid (HPK.out ht)
        clear hh ht HPK HPS
        go_wp2_with fail
        exact ⟨⟨k + 1, hkl, by rw [HCS.out]; simp, by go_num, HC5.out, fun _ => ⟨g, rfl, hgb, by omega, by rw [HPQ.out]; exact HR5.out, by rw [HPQ.out]; exact HT5.out⟩⟩, by simp [intOf]; omega⟩
    · obtain rfl : k = D.length := by omega
      have hkI : ¬ (D.length : Int) < (D.length : Int) := by omega
      have c0 := HC.out.c0
      have c1 := HC.out.c1
      have f0 := (HC.out.own 0 (by decide)).2
      rw [Nat.zero_add] at f0
      have HROW := Lib.hid hrow
      clear hrow hC HP HC3 HD
      go_upto_region 11 with fail
      go_upto_region 12 with fail
      generalize hw7 : World.setCell wr _ _ = w7
      have HC7 := Lib.hid (HC.out.field0 hw7)
      have HR7 := Lib.hid (show 0 < D.length → ∃ g, a = some ⟨g, 0, none⟩ ∧ v2.heap.size ≤ g ∧ g < w7.heap.size ∧ rowsAt w7 g (D.map (tk now)) from fun h => by
        obtain ⟨g, e1, e2, e3, e4, e5⟩ := HROW.out h
        rw [part_all] at e4
        exact ⟨g, e1, e2, by rw [← hw7]; simpa using e3, fun j hj => rangeAt_far (e4 j hj) (by omega) hw7⟩)
      clear hw7 HC HROW c0 c1 f0
      go_wp2_with (first
        | (refine wpList_load_mid rfl 28 _ rfl w.heap.size 0 rfl (chc (.slice a D.length cap) lv) _ HC7.out.row Try.underlying28 rfl infoRC ?_)
        | (refine wpList_store_mid rfl 28 _ _ rfl (w.heap.size + 1) 0 (chc (.slice a D.length cap) lv).toArray rfl rfl HC7.out.res infoRC (all_oneCell_toArray (chc_one rfl HLV.out)) ?_; generalize hw8 : World.setCells w7 _ _ _ = w8))
      obtain ⟨hr8, hb8⟩ := HC7.out.done hw8
      have hd8 : IsDeals w8 (.slice a D.length cap) (D.map (tk now)) := ⟨a, cap, by rw [List.length_map], by rw [List.length_map]; exact hlc, by unfold maxLen; exact hcm, fun h => by
        rw [List.length_map] at h
        obtain ⟨g, e1, e2, e3, e4⟩ := HR7.out h
        refine ⟨g, 0, e1, Nat.lt_of_lt_of_le e3 (below_cells _ _ _ (Below.refl 0 w7) (Nat.zero_le _) hw8).size, fun j hj => ?_⟩
        rw [Nat.zero_add]
        exact fun i u hu => (cells_apart hw8 (by omega)).trans (e4 j hj i u hu)⟩
      refine bodyPost_ret (fin_rc rfl _ _ _ rfl _ _ hr8) rfl ?_
      exact ⟨_, rfl, hd8, hb8, .inr HLO.out⟩
end Go.Proofs.Ytdlfjbllmmkmkaa.Chair
