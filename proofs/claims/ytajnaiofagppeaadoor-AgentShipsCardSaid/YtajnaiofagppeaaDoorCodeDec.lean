/- What the program's Decode answers. -/
import Derived.Test.YtajnaiofagppeaaDoorCodeTake
namespace Go.Proofs.YtajnaiofagppeaaDoor.CodeMem
open Go.RowKit CodeSpec Flat
set_option linter.unusedSimpArgs false
set_option linter.unusedVariables false
set_option maxRecDepth 100000

def vcells (l : List V) : List Value := l.flatMap fun x => [.int .u64 (x.n : Int), .string x.s]
theorem vcells_length (l : List V) : (vcells l).length = l.length * 2 := by
  induction l with
  | nil => rfl
  | cons x l ih =>
    have e : vcells (x :: l) = [.int .u64 (x.n : Int), .string x.s] ++ vcells l := rfl
    rw [e, List.length_append, ih, List.length_cons]
    simp only [List.length_cons, List.length_nil]
    omega
theorem vcells_append (a b : List V) : vcells (a ++ b) = vcells a ++ vcells b := by simp [vcells]
/-- v is a row of values of the call's own, behind block B. -/
def OwnV (w : World) (B : Nat) (v : Value) (l : List V) : Prop := w.ownsRow B 80 2 v l.length (vcells l)
theorem info48 : (Tryd.prog.info? 80).map (fun i => (i.zero, i.size, i.bytes)) = some (some (.agg #[.int .u64 0, .string ⟨#[]⟩]), 2, 24) := by kernel_rfl

theorem conv_bytes {w : World} {B : Nat} {a : Option Addr} {l : List UInt8} (cap : Nat) (h : IsB w B a l) :
    ∀ dst, Tryd.prog.underlying dst = some .string → (convert 81 dst (.slice a l.length cap)).run Tryd.prog w = .ok (.string ⟨l.toArray⟩) w := by
  intro dst hd
  cases hl : l with
  | nil =>
    show (convert 81 dst (.slice a 0 cap)).run Tryd.prog w = _
    rw [run_convert_bytes_string w 81 dst 5 a 0 cap Tryd.underlying81 Tryd.underlying5 hd]
    cases a with
    | none =>
      simp [Conv.bytesToString, ByteArray.empty, ByteArray.emptyWithCapacity]
      rfl
    | some x =>
      simp [Conv.bytesToString, loadCells, loadCellsFrom, ByteArray.empty, ByteArray.emptyWithCapacity]
      rfl
  | cons c r =>
    obtain ⟨b, off, rfl, _, hc⟩ := h (by rw [hl]; simp)
    rw [← hl]
    have := run_convert_bytes_arg (P := Tryd.prog) w 81 5 Tryd.underlying81 Tryd.underlying5 b off l.length cap (l.map fun c => (c.toNat : Int)) (by simp) (fun i hi => by
      rw [hc i hi]
      simp [List.getD, List.getElem?_eq_getElem hi]) dst hd
    rw [this]
    congr 2
    have e : strOfNums (l.map fun c => (c.toNat : Int)) = ⟨((l.map fun c => (c.toNat : Int)).map fun n => UInt8.ofNat n.toNat).toArray⟩ := by
      simp [strOfNums]
    rw [e, List.map_map]
    congr 2
    have : ((fun n : Int => UInt8.ofNat n.toNat) ∘ fun c : UInt8 => (c.toNat : Int)) = id := by funext c; simp
    rw [this, List.map_id]

/-- A number, or none: what the reader holds behind it. -/
def NumPost (w : World) (B r : Nat) (l : List UInt8) (short : Bool) (n : Nat) (e : Ending) (w' : World) : Prop :=
  ∃ (x : Nat) (l' : List UInt8) (short' : Bool), e = .returned (.int .u64 (x : Int)) ∧ x < 18446744073709551616 ∧ Rd w' B r l' short' ∧ w.grownBy w' (some r) ∧
    (short' = false → short = false ∧ n ≤ l.length ∧ x = val (l.take n) ∧ l' = l.drop n) ∧ (short' = true → x = 0 ∧ (short = true ∨ l.length < n))
theorem rd_number (w : World) (B r : Nat) (l : List UInt8) (n : Nat) (ni : Int) (hni : ni = n) (short : Bool) (hr : Rd w B r l short) (h8 : n ≤ 8) :
    Calls Tryd.prog 63 #[.pointer (some ⟨r, 0, none⟩), .int .i64 ni] w (NumPost w B r l short n) := by
  by_cases h : short = true ∨ l.length < n
  · refine (rd_number_short w B r l n ni hni short hr h (by omega)).mono ?_
    rintro e w' ⟨rfl, h1, h2⟩
    exact ⟨0, l, true, rfl, by decide, h1, h2, (fun h => by cases h), fun _ => ⟨rfl, h⟩⟩
  · have hs : short = false := by cases short <;> simp_all
    subst hs
    have hn : n ≤ l.length := by simp at h; exact h
    refine (rd_number_ok w B r l n ni hni hr hn h8).mono ?_
    rintro e w' ⟨rfl, h1, h2⟩
    refine ⟨_, _, false, rfl, ?_, h1, h2, fun _ => ⟨rfl, hn, rfl, rfl⟩, fun h => by cases h⟩
    have hv := val_lt (l.take n)
    have hp : 256 ^ (l.take n).length ≤ 256 ^ 8 := Nat.pow_le_pow_right (by decide) (by rw [List.length_take]; omega)
    exact Nat.lt_of_lt_of_le hv hp
def TextPost (w : World) (B r : Nat) (l : List UInt8) (short : Bool) (n : Nat) (e : Ending) (w' : World) : Prop :=
  ∃ (a : Option Addr) (cap : Nat) (tk l' : List UInt8) (short' : Bool), e = .returned (.slice a tk.length cap) ∧ IsB w' B a tk ∧ tk.length ≤ n ∧ Rd w' B r l' short' ∧ w.grownBy w' (some r) ∧
    (short' = false → short = false ∧ n ≤ l.length ∧ tk = l.take n ∧ l' = l.drop n) ∧ (short' = true → (short = true ∨ l.length < n))
theorem rd_take (w : World) (B r : Nat) (l : List UInt8) (n : Nat) (ni : Int) (hni : ni = n) (short : Bool) (hr : Rd w B r l short) (hn : n < 100000) :
    Calls Tryd.prog 64 #[.pointer (some ⟨r, 0, none⟩), .int .i64 ni] w (TextPost w B r l short n) := by
  by_cases h : short = true ∨ l.length < n
  · refine (take_short w B r l n ni hni short hr h hn).mono ?_
    rintro e w' ⟨rfl, h1, h2⟩
    exact ⟨none, 0, [], l, true, rfl, IsB.nil _ _ _, by simp, h1, h2, (fun h => by cases h), fun _ => h⟩
  · have hs : short = false := by cases short <;> simp_all
    subst hs
    have hle : n ≤ l.length := by simp at h; exact h
    refine (take_ok w B r l n ni hni hr hle).mono ?_
    rintro e w' ⟨a, cap, rfl, h0, h1, h2⟩
    have hl : (l.take n).length = n := by rw [List.length_take]; omega
    refine ⟨a, cap, l.take n, l.drop n, false, by rw [hl], h0, by omega, h1, h2, fun _ => ⟨rfl, hle, rfl, rfl⟩, fun h => by cases h⟩

/-- What has been read, and what is still to come. -/
def Inv (sh b : List UInt8) (k : Nat) (rest : List UInt8) (short : Bool) (vs : List V) : Prop :=
  vs.length = k ∧ (short = false → parse sh b = (parse (sh.drop k) rest).map fun x => (vs ++ x.1, x.2)) ∧ (short = true → parse sh b = none)
theorem inv_start (sh b : List UInt8) : Inv sh b 0 b false [] := ⟨rfl, fun _ => by cases h : parse sh b <;> simp [h], fun h => by cases h⟩
theorem inv_num {sh b : List UInt8} {k : Nat} {rest l' : List UInt8} {short short' : Bool} {vs : List V} {x : Nat} (h : Inv sh b k rest short vs) (hk : k < sh.length) (hc : sh[k] ≠ 116)
    (h1 : short' = false → short = false ∧ wd sh[k] ≤ rest.length ∧ x = val (rest.take (wd sh[k])) ∧ l' = rest.drop (wd sh[k])) (h2 : short' = true → x = 0 ∧ (short = true ∨ rest.length < wd sh[k])) :
    Inv sh b (k + 1) l' short' (vs ++ [⟨x, noS⟩]) := by
  obtain ⟨hl, ha, hb⟩ := h
  refine ⟨by simp [hl], fun hs => ?_, fun hs => ?_⟩
  · obtain ⟨e1, e2, e3, e4⟩ := h1 hs
    rw [ha e1, List.drop_eq_getElem_cons hk, parse, if_neg hc, if_neg (by omega), ← e3, ← e4]
    cases parse (sh.drop (k + 1)) l' <;> simp
  · rcases (h2 hs).2 with e | e
    · exact hb e
    · cases short with
      | true => exact hb rfl
      | false => rw [ha rfl, List.drop_eq_getElem_cons hk, parse, if_neg hc, if_pos e]; rfl
theorem inv_big {sh b : List UInt8} {k : Nat} {rest l' : List UInt8} {short short' : Bool} {vs : List V} {x : Nat} (h : Inv sh b k rest short vs) (hk : k < sh.length) (hc : sh[k] = 116)
    (h1 : short' = false → short = false ∧ 2 ≤ rest.length ∧ x = val (rest.take 2) ∧ l' = rest.drop 2) (h2 : short' = true → x = 0 ∧ (short = true ∨ rest.length < 2)) (hx : 2000 < x) : parse sh b = none := by
  obtain ⟨hl, ha, hb⟩ := h
  cases short' with
  | true => have := (h2 rfl).1; omega
  | false =>
    obtain ⟨e1, e2, e3, e4⟩ := h1 rfl
    rw [ha e1, List.drop_eq_getElem_cons hk, parse, if_pos hc, if_neg (by omega), if_pos (by omega)]; rfl
theorem inv_text {sh b : List UInt8} {k : Nat} {rest l' l'' tk : List UInt8} {short short' short'' : Bool} {vs : List V} {x : Nat} (h : Inv sh b k rest short vs) (hk : k < sh.length) (hc : sh[k] = 116)
    (h1 : short' = false → short = false ∧ 2 ≤ rest.length ∧ x = val (rest.take 2) ∧ l' = rest.drop 2) (h2 : short' = true → x = 0 ∧ (short = true ∨ rest.length < 2)) (hx : ¬ 2000 < x)
    (g1 : short'' = false → short' = false ∧ x ≤ l'.length ∧ tk = l'.take x ∧ l'' = l'.drop x) (g2 : short'' = true → (short' = true ∨ l'.length < x)) :
    Inv sh b (k + 1) l'' short'' (vs ++ [⟨0, ⟨tk.toArray⟩⟩]) := by
  obtain ⟨hl, ha, hb⟩ := h
  refine ⟨by simp [hl], fun hs => ?_, fun hs => ?_⟩
  · obtain ⟨f1, f2, f3, f4⟩ := g1 hs
    obtain ⟨e1, e2, e3, e4⟩ := h1 f1
    subst e4
    rw [List.length_drop] at f2
    rw [ha e1, List.drop_eq_getElem_cons hk, parse, if_pos hc, if_neg (by omega), ← e3, if_neg hx, if_neg (by omega), f3, f4, List.drop_drop]
    cases parse (sh.drop (k + 1)) (rest.drop (2 + x)) <;> simp
  · have key : short' = true → parse sh b = none := fun e => by
      rcases (h2 e).2 with e | e
      · exact hb e
      · cases short with
        | true => exact hb rfl
        | false => rw [ha rfl, List.drop_eq_getElem_cons hk, parse, if_pos hc, if_pos e]; rfl
    rcases g2 hs with e | e
    · exact key e
    · cases short' with
      | true => exact key rfl
      | false =>
        obtain ⟨e1, e2, e3, e4⟩ := h1 rfl
        subst e4
        rw [List.length_drop] at e
        rw [ha e1, List.drop_eq_getElem_cons hk, parse, if_pos hc, if_neg (by omega), ← e3, if_neg hx, if_pos (by omega)]; rfl

theorem cell_two_new (w : World) (x y : Value) (t : TypeId) : ∀ j u, [x, y][j]? = some u → (w.alloc (.cells #[x, y] t)).cell? ((⟨w.heap.size, 0, none⟩ : Addr).add j) = some u := by
  intro j u hj
  match j, hj with
  | 0, hj => simp at hj; subst hj; simp [Addr.add]
  | 1, hj => simp at hj; subst hj; simp [Addr.add]
theorem two_one (n : Int) (s : ByteArray) : ∀ u ∈ [Value.int .u64 n, .string s], u.oneCell' = true := by
  intro u hu
  simp at hu
  rcases hu with rfl | rfl <;> rfl

theorem wd_pos' {c : UInt8} (h : c ≠ 116) : 0 < wd c := by
  unfold wd
  rw [if_neg h]
  (repeat' split) <;> decide
def RelD (w : World) (r : Nat) (sh b : List UInt8) (v i : Value) (wr : World) : Prop :=
  ∃ (k : Nat) (rest : List UInt8) (short : Bool) (vs : List V), k ≤ sh.length ∧ i = .int .i64 k ∧ OwnV wr w.heap.size v vs ∧ Below w.heap.size w wr ∧ Rd wr w.heap.size r rest short ∧ v.ownBlock ≠ some r ∧ Inv sh b k rest short vs
def DecPost (T : List V × Int) (w : World) (e : Ending) (w' : World) : Prop := ∃ v, e = .returned (.tuple #[v, .int .i64 T.2]) ∧ OwnV w' w.heap.size v T.1 ∧ Below w.heap.size w w'
theorem ownv_nil (w : World) (B : Nat) : OwnV w B (.slice none 0 0) [] := World.ownsRow_nil w B _ 2
theorem ownv_lo {w : World} {B : Nat} {v : Value} {l : List V} (h : OwnV w B v l) : ∀ j, v.ownBlock = some j → B ≤ j := fun j hj => (h.lt j hj).1

set_option maxRecDepth 100000 in
set_option maxHeartbeats 2000000 in
theorem decode_any (s : ByteArray) (a : Option Addr) (l : List UInt8) (cap : Nat) (w : World) (hs : s.size ≤ maxLen) (hib : IsB w w.heap.size a l) (hlc : l.length ≤ cap) (hcm : cap ≤ maxLen) :
    Calls Tryd.prog 33 #[.string s, .slice a l.length cap] w (DecPost (dec s.data.toList l) w) := by
  have hsz := size_toList s
  have hcm2 := hcm
  unfold maxLen at hcm2
  have hsm := hs
  unfold maxLen at hsm
  cases hsh : shapeB s.data.toList with
  | false =>
    have hT : dec s.data.toList l = ([], 2) := by simp [dec, hsh]
    rw [hT]
    clear hT
    go_enter Tryd.func33, Tryd.ntmps33
    go_wp2_with fail
    refine (shaped_any s _ hs).mono ?_
    rw [hsh]
    rintro e w1 ⟨rfl, hb1⟩
    go_wp2_with fail
    go_ret2
    exact ⟨_, rfl, ownv_nil _ _, hb1⟩
  | true =>
    obtain ⟨i0, hi, hz0, hz1, hz2⟩ := info_parts info48
    have H100 : s.size ≤ 100 := by
      unfold shapeB at hsh
      simp only [Bool.and_eq_true, decide_eq_true_eq] at hsh
      omega
    have HLET : ∀ k (h : k < s.data.toList.length), letter (s.data.toList[k]) = true := fun k h => by
      unfold shapeB at hsh
      simp only [Bool.and_eq_true, List.all_eq_true] at hsh
      exact hsh.1 _ (List.getElem_mem _)
    have HL := Lib.hid HLET
    have HSZ := Lib.hid hsz
    clear HLET hsz
    go_enter Tryd.func33, Tryd.ntmps33
    go_wp2_with fail
    refine (shaped_any s _ hs).mono ?_
    rw [hsh]
    rintro e w1 ⟨rfl, hb1⟩
    go_wp2_with fail
    generalize h4 : World.alloc w1 _ = w4
    obtain ⟨B4, z4, k4⟩ := alloc_facts h4
    have f4 : ∀ o, w4.frozen? ⟨w1.heap.size, o, none⟩ = false := fun o => by rw [← h4]; exact World.frozen?_alloc_at _ _ _ _ rfl
    have hB4 : Below w.heap.size w w4 := hb1.trans (B4.mono hb1.size)
    have hr4 : Rd w4 w.heap.size w1.heap.size l false :=
      ⟨⟨a, cap, k4 0, hlc, hcm, hib.kept fun b o hb => hB4.cell (p := ⟨b, o, none⟩) hb⟩, k4 1, f4 0, f4 1, hb1.size⟩
    clear h4 k4 f4 B4 hb1 z4
    generalize w1.heap.size = r at *
    go_loopw [8, 22] (fun v i wr => RelD w r s.data.toList l v i wr) (fun _ i _ => s.size - (intOf i).toNat)
    case atStart => exact ⟨0, l, false, [], Nat.zero_le _, rfl, ownv_nil _ _, hB4, hr4, by simp [Value.ownBlock], inv_start _ _⟩
    case round =>
      obtain ⟨wo, h_wo⟩ : ∃ v : World, v = wr := ⟨_, rfl⟩; subst h_wo
      clear hr4 hB4
      obtain ⟨k, rest, short, vs, hk, rfl, hob, hB, hr, hne, hinv⟩ := hrel
      have hks : k ≤ s.size := by rw [HSZ.out] at hk; exact hk
      clear hk
      by_cases hkl : k < s.size
      · have hkI : (k : Int) < (s.size : Int) := by omega
        have hkt : k < s.data.toList.length := by rw [HSZ.out]; exact hkl
        have hlet := HL.out k hkt
        have hck : s.data.toList[k] = s[k] := rfl
        have hw8 : wd s[k] ≤ 8 := by
          unfold wd
          (repeat' split) <;> decide
        have HW := width_any s[k]
        rw [hck] at hlet
        have hvl := hinv.1
        have HINV := Lib.hid hinv
        clear hinv
        by_cases h6 : s[k] = 116
        · have HH6 : Hid (s.data.toList[k]'hkt = 116) := Lib.hid h6
          clear hlet HW
          go_wp2_with (first | (go_at_call 51; refine (width_116 _).mono ?_; rintro e w' ⟨rfl, rfl⟩) | fail)
          clear h6 hw8
          refine (rd_number _ w.heap.size r rest 2 2 rfl short hr (by omega)).mono ?_
          rintro e w5 ⟨x, l5, short5, rfl, hx, hr5, hg5, h1, h2⟩
          have hx2 : x < 65536 := by
            cases short5 with
            | true => have := (h2 rfl).1; omega
            | false =>
              obtain ⟨_, e2, e3, _⟩ := h1 rfl
              have hv := val_lt (rest.take 2)
              rw [show (rest.take 2).length = 2 by rw [List.length_take]; omega] at hv
              rw [e3]; exact hv
          have H1 := Lib.hid h1
          have H2 := Lib.hid h2
          clear h1 h2
          by_cases hbig : 2000 < x
          · have hbI : (2000 : Int) < (x : Int) := by omega
            have hnone := inv_big HINV.out hkt HH6.out H1.out H2.out hbig
            have hT : dec s.data.toList l = ([], 4) := by
              unfold dec
              rw [if_neg (by simp [hsh]), hnone]
            have HT := Lib.hid hT
            clear hT hnone
            go_wp2_with fail
            go_ret2
            rw [HT.out]
            exact ⟨_, rfl, ownv_nil _ _, hB.grown hg5 hB.size (fun j hj => by cases hj; exact hr.lo)⟩
          · have hbI : ¬ (2000 : Int) < (x : Int) := by omega
            go_wp2_with fail
            refine (rd_take _ w.heap.size r l5 x _ rfl short5 hr5 (by omega)).mono ?_
            rintro e w6 ⟨a6, cap6, tk, l6, short6, rfl, hib6, htk, hr6, hg6, g1, g2⟩
            have G1 := Lib.hid g1
            have G2 := Lib.hid g2
            clear g1 g2
            have kc := conv_bytes cap6 hib6 9 Tryd.underlying9
            go_wp2_with (first | (at_builtin; refine wpList_append_own_at _ rfl _ _ 77 rfl w.heap.size 80 i0 _ 2 24 Tryd.underlying77 hi hz0 hz1 hz2 rfl (by decide) _ _ _ rfl (World.ownsRow.alloc (World.ownsRow.kept (World.ownsRow.kept hob hg5 (.inr hne)) hg6 (.inr hne)) _) ⟨w6.heap.size, 0, none⟩ 1 1 [.int .u64 0, .string ⟨tk.toArray⟩] rfl rfl (cell_two_new _ _ _ _) (two_one _ _) (by unfold maxLen; omega) (by omega) (Nat.le_trans ((hB.grown hg5 hB.size (fun j hj => by cases hj; exact hr.lo)).grown hg6 (Nat.le_trans hB.size hg5.size) (fun j hj => by cases hj; exact hr.lo)).size (by simp)) ?_; intro v7 w7 hob7 hg7 hnil7 hloc7) | fail)
            go_roundw
            case rel =>
              have hBn : Below w.heap.size w w6 := (hB.grown hg5 hB.size (fun j hj => by cases hj; exact hr.lo)).grown hg6 (Nat.le_trans hB.size hg5.size) (fun j hj => by cases hj; exact hr.lo)
              refine ⟨k + 1, _, _, vs ++ [⟨0, ⟨tk.toArray⟩⟩], by rw [HSZ.out]; omega, by go_num, ?_, (hBn.alloc hBn.size _).grown hg7 (Nat.le_trans hBn.size (by simp)) (ownv_lo hob),
                (hr6.kept (row := none) (World.grownBy_alloc _ _ none) (by simp) (fun _ h => by cases h)).kept hg7 (fun h => hne h.symm) (ownv_lo hob), ?_, inv_text HINV.out hkt HH6.out H1.out H2.out hbig G1.out G2.out⟩
              · rw [OwnV, vcells_append, List.length_append]
                exact hob7
              · have hlt := hr6.lt
                rcases hloc7 with h | h
                · rw [h]; exact hne
                · rw [h]; simp; omega
            case measure => simp [intOf]; omega
        · have hwp := wd_pos' h6
          have HH6 : Hid (s.data.toList[k]'hkt ≠ 116) := Lib.hid h6
          have HLT := Lib.hid hlet
          clear h6 hlet
          have hwpI : (0 : Int) < (wd s[k] : Int) := by omega
          go_wp2_with (first | (go_at_call 51; refine (HW _ HLT.out).mono ?_; rintro e w' ⟨rfl, rfl⟩) | fail)
          refine (rd_number _ w.heap.size r rest (wd s[k]) _ rfl short hr hw8).mono ?_
          rintro e w5 ⟨x, l5, short5, rfl, hx, hr5, hg5, h1, h2⟩
          have H1 := Lib.hid h1
          have H2 := Lib.hid h2
          clear h1 h2
          go_wp2_with (first | (at_builtin; refine wpList_append_own_at _ rfl _ _ 77 rfl w.heap.size 80 i0 _ 2 24 Tryd.underlying77 hi hz0 hz1 hz2 rfl (by decide) _ _ _ rfl (World.ownsRow.alloc (World.ownsRow.kept hob hg5 (.inr hne)) _) ⟨w5.heap.size, 0, none⟩ 1 1 [.int .u64 (x : Int), .string ⟨#[]⟩] rfl rfl (cell_two_new _ _ _ _) (two_one _ _) (by unfold maxLen; omega) (by omega) (Nat.le_trans (hB.grown hg5 hB.size (fun j hj => by cases hj; exact hr.lo)).size (by simp)) ?_; intro v7 w7 hob7 hg7 hnil7 hloc7) | fail)
          go_roundw
          case rel =>
            have hBn : Below w.heap.size w w5 := hB.grown hg5 hB.size (fun j hj => by cases hj; exact hr.lo)
            refine ⟨k + 1, _, _, vs ++ [⟨x, noS⟩], by rw [HSZ.out]; omega, by go_num, ?_, (hBn.alloc hBn.size _).grown hg7 (Nat.le_trans hBn.size (by simp)) (ownv_lo hob),
              (hr5.kept (row := none) (World.grownBy_alloc _ _ none) (by simp) (fun _ h => by cases h)).kept hg7 (fun h => hne h.symm) (ownv_lo hob), ?_, inv_num HINV.out hkt HH6.out H1.out H2.out⟩
            · rw [OwnV, vcells_append, List.length_append]
              exact hob7
            · have hlt := hr5.lt
              rcases hloc7 with h | h
              · rw [h]; exact hne
              · rw [h]; simp; omega
          case measure => simp [intOf]; omega
      · have hkI : ¬ (k : Int) < (s.size : Int) := by omega
        obtain rfl : k = s.size := by omega
        obtain ⟨a1, cap1, c0, hlc1, hcm1, _⟩ := hr.c0
        have c1 := hr.c1
        have hcm1' := hcm1
        unfold maxLen at hcm1'
        have hp1 := hinv.2.1
        have hp2 := hinv.2.2
        rw [List.drop_of_length_le (by rw [HSZ.out]; exact Nat.le_refl _)] at hp1
        clear hinv hr
        cases short with
        | true =>
          have hT : dec s.data.toList l = ([], 4) := by
            unfold dec
            rw [if_neg (by simp [hsh]), hp2 rfl]
          have HT := Lib.hid hT
          clear hT hp1 hp2
          go_wp2_with fail
          go_ret2
          rw [HT.out]
          exact ⟨_, rfl, ownv_nil _ _, hB⟩
        | false =>
          have hp := hp1 rfl
          rw [parse, Option.map_some] at hp
          simp only [List.append_nil] at hp
          clear hp1 hp2
          cases rest with
          | cons c rest =>
            have hT : dec s.data.toList l = ([], 4) := by
              unfold dec
              rw [if_neg (by simp [hsh]), hp]
            have HT := Lib.hid hT
            have hrI : (0 : Int) < ((c :: rest).length : Int) := by simp <;> omega
            clear hT hp
            generalize (c :: rest).length = rl at *
            go_wp2_with fail
            go_ret2
            rw [HT.out]
            exact ⟨_, rfl, ownv_nil _ _, hB⟩
          | nil =>
            by_cases h4 : 4000 < l.length
            · have hT : dec s.data.toList l = ([], 4) := by
                unfold dec
                rw [if_neg (by simp [hsh]), hp]
                simp only
                rw [if_pos h4]
              have HT := Lib.hid hT
              have hrI : (4000 : Int) < (l.length : Int) := by omega
              clear hT hp
              go_wp2_with fail
              go_ret2
              rw [HT.out]
              exact ⟨_, rfl, ownv_nil _ _, hB⟩
            · have hT : dec s.data.toList l = (vs, 0) := by
                unfold dec
                rw [if_neg (by simp [hsh]), hp]
                simp only
                rw [if_neg h4]
              have HT := Lib.hid hT
              have hrI : ¬ (4000 : Int) < (l.length : Int) := by omega
              clear hT hp
              go_wp2_with fail
              go_ret2
              rw [HT.out]
              exact ⟨_, rfl, hob, hB⟩
end Go.Proofs.YtajnaiofagppeaaDoor.CodeMem
