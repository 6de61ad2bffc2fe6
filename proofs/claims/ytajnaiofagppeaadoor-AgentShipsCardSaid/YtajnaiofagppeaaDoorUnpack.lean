/- What Unpack of package agent answers; held. -/
import Derived.Test.YtajnaiofagppeaaDoorPack
namespace Go.Proofs.YtajnaiofagppeaaDoor.Pack
open Go Go.RowKit Go.Shelf CodeSpec AgentSpec Flat CodeMem Ballot SeqOver Collect Pairs Go.Proofs.YtajnaiofagppeaaDoorW.PrintLast
set_option linter.unusedSimpArgs false
set_option linter.unusedVariables false
set_option maxRecDepth 100000
def OwnL (w : World) (B : Nat) (v : Value) (l : List Ba) : Prop := w.ownsRow B 49 2 v l.length (bcl l)
theorem ownl_nil (w : World) (B : Nat) : OwnL w B (.slice none 0 0) [] := World.ownsRow_nil w B _ 2
theorem eg_pairs (g : Nat) (args : Array Value) (w : World) (h : g = 66) : (callFunc g args).run Tryd.prog w = .ok (.enter g args) w := by
  subst h
  exact (enters_of Tryd.func66 (by kernel_rfl) rfl) args w
/-- pairs, collected. -/
theorem collect_pairs (B b off N cap : Nat) (a : Option Addr) (vs : List V) (w : World) (ha : 0 < N → a = some ⟨b, off, none⟩) (hN : N ≤ 50) (hvs : vs.length = 2 * N) (hcap : 2 * N ≤ cap) (hcm : cap ≤ maxLen) (hsm : ∀ x ∈ vs, x.n < 9223372036854775808)
    (hB : w.cell? ⟨B, 0, none⟩ = some (.slice a (2 * N) cap)) (hbw : b < w.heap.size) (hcc : ∀ i (h : i < vs.length), w.cell? ⟨b, off + i * 2, none⟩ = some (.int .u64 (vs[i].n : Int))) :
    Calls Tryd.prog 34 #[.func (.func 66) #[] #[.pointer (some ⟨B, 0, none⟩)]] w fun e w' => ∃ v, e = .returned v ∧ OwnL w' w.heap.size v (pairsV vs) ∧ Below w.heap.size w w' := by
  have hseq := pairs1_any 11 (by omega) a B b off N cap ha vs w (by omega) hvs hcap hcm hsm hB hbw hcc
  have HC := append_seq (g := 66) (lb := #[.pointer (some ⟨B, 0, none⟩)]) w (show N ≤ 1000 by omega) (fun args w => eg_pairs _ args w rfl) hseq (fun h k => Eq.trans k h) (fun W W' _ h2 => h2 b hbw)
  go_enter Tryd.func34, Tryd.ntmps34
  go_wp2_with fail
  refine HC.mono ?_
  rintro e w1 ⟨v, xs, rfl, rfl, _, ho, hb⟩
  go_wp2_with fail
  go_ret
  exact ⟨_, rfl, ho, hb⟩
theorem vals_lt {l : List V} {s : List UInt8} (h : l = valsL (threes s)) : ∀ x ∈ l, x.n < 9223372036854775808 := by
  subst h
  have key : ∀ (n : Nat) (s : List UInt8), s.length ≤ n → ∀ b ∈ threes s, 0 ≤ b.tx ∧ b.tx < 65536 ∧ 0 ≤ b.vote ∧ b.vote < 65536 := by
    intro n
    induction n with
    | zero =>
      intro s hs
      have : s = [] := List.length_eq_zero_iff.1 (by omega)
      subst this
      intro b hb
      simp [threes] at hb
    | succ n ih =>
      intro s hs b hb
      match s, hs, hb with
      | [], _, hb => simp [threes] at hb
      | [_], _, hb => simp [threes] at hb
      | [_, _], _, hb => simp [threes] at hb
      | x :: y :: z :: s, hs, hb =>
        rw [threes, List.mem_cons] at hb
        rcases hb with rfl | hb
        · have h1 := val_lt [x, y]
          have h2 := val_lt [z]
          simp only [List.length_cons, List.length_nil] at h1 h2
          dsimp only
          omega
        · exact ih s (by simp only [List.length_cons] at hs; omega) b hb
  intro x hx
  rw [valsL, List.mem_flatMap] at hx
  obtain ⟨b, hb, hx⟩ := hx
  have k := key s.length s (Nat.le_refl _) b hb
  simp only [List.mem_cons, List.not_mem_nil, or_false] at hx
  rcases hx with rfl | rfl
  · dsimp only; omega
  · dsimp only; omega
theorem threes_nat (s : List UInt8) : (threes s).all (fun b => decide (0 ≤ b.tx ∧ 0 ≤ b.vote)) = true := by
  fun_induction threes s with
  | case1 a b c l ih => simp only [List.all_cons, ih, Bool.and_true, decide_eq_true_eq]; omega
  | case2 s h => rfl
theorem ownv_slice {w : World} {B : Nat} {v : Value} {l : List V} (h : OwnV w B v l) :
    ∃ a cap, v = .slice a l.length cap ∧ l.length ≤ cap ∧ cap ≤ maxLen ∧ (0 < l.length → ∃ b, a = some ⟨b, 0, none⟩ ∧ b < w.heap.size ∧ ∀ i (h : i < l.length), w.cell? ⟨b, 0 + i * 2, none⟩ = some (.int .u64 (l[i].n : Int))) := by
  by_cases hl : 0 < l.length
  · obtain ⟨g, cap, hv, h1, h2, h3, h4⟩ := ownv_read h hl
    have hcm : cap ≤ maxLen := by
      rcases h.2 with ⟨e, _⟩ | ⟨g', cap', cur, e, _, _, _, e4, _⟩
      · rw [e] at hv; cases hv
      · rw [hv] at e; cases e; exact e4
    exact ⟨_, cap, hv, h1, hcm, fun _ => ⟨g, rfl, h3, fun i hi => by rw [Nat.zero_add]; exact (h4 i hi).1⟩⟩
  · rcases h.2 with ⟨e, e2⟩ | ⟨g', cap', cur, e, _, _, e3, e4, _⟩
    · exact ⟨none, 0, by rw [e, e2], by omega, Nat.zero_le _, fun h => absurd h hl⟩
    · exact ⟨_, cap', e, e3, e4, fun h => absurd h hl⟩
def UnpackPost (T : List Ba × Int) (w : World) (e : Ending) (w' : World) : Prop := ∃ v, e = .returned (.tuple #[v, .int .i64 T.2]) ∧ OwnL w' w.heap.size v T.1 ∧ Below w.heap.size w w'
theorem bytes_is (w : World) (s : ByteArray) : IsB (Go.Lib.bytesWorld w 5 s) (Go.Lib.bytesWorld w 5 s).heap.size (some ⟨w.heap.size, 0, none⟩) s.data.toList := by
  intro hl
  refine ⟨w.heap.size, 0, rfl, by rw [Go.Lib.bytesWorld_size]; omega, fun i hi => ?_⟩
  have k := bytes_news w s i (.int .u8 ((s.data.toList[i]).toNat : Int)) (by rw [bcells, List.getElem?_map, List.getElem?_eq_getElem hi]; rfl)
  rw [show ((⟨w.heap.size, 0, none⟩ : Addr).add i) = ⟨w.heap.size, 0 + i, none⟩ by unfold Addr.add; split <;> simp_all] at k
  exact k
set_option maxHeartbeats 2000000 in
theorem unpack_any (s : ByteArray) (hs : s.size ≤ maxLen) (w : World) : Calls Tryd.prog 13 #[.string s] w (UnpackPost (unpackL s.data.toList) w) := by
  have hsz := size_toList s
  have hs2 := hs
  unfold maxLen at hs2
  by_cases hbig : 150 < s.size
  · have hT : unpackL s.data.toList = ([], 4) := by rw [unpackL, if_pos (by rw [hsz]; exact hbig)]
    rw [hT]
    have hbI : (150 : Int) < (s.size : Int) := by omega
    clear hT hsz
    go_enter Tryd.func13, Tryd.ntmps13
    go_wp2_with fail
    go_ret2
    exact ⟨_, rfl, ownl_nil _ _, Below.refl _ _⟩
  · have hbI : ¬ (150 : Int) < (s.size : Int) := by omega
    have hq : (s.size : Int).tdiv 3 = ((s.size / 3 : Nat) : Int) := by rw [Int.tdiv_eq_ediv_of_nonneg (by omega)]; omega
    have hq2 : IntKind.i64.wrap ((s.size / 3 : Nat) : Int) = ((s.size / 3 : Nat) : Int) := by rw [IntKind.wrap_i64]; omega
    obtain ⟨n3, hn3⟩ : ∃ n3, s.size / 3 = n3 := ⟨_, rfl⟩
    have hn50 : n3 ≤ 50 := by omega
    rw [hn3] at hq hq2
    have HN3 := Lib.hid hn3
    have HSZ := Lib.hid hsz
    have HD := Lib.hid (dec_cargo s.data.toList (by omega))
    have hT : unpackL s.data.toList = if s.size % 3 = 0 ∧ rightL (threes s.data.toList) = true then (threes s.data.toList, 0) else ([], 4) := by rw [unpackL, if_neg (by rw [hsz]; exact hbig), hsz]
    have HT := Lib.hid hT
    clear hT hsz hn3
    go_enter Tryd.func13, Tryd.ntmps13
    go_wp2_with fail
    refine (repeat_ba n3 (by omega) _).mono ?_
    rintro e w1 ⟨sh, rfl, hsh, hb1⟩
    have HSH := Lib.hid hsh
    have hss := size_shape hsh
    clear hsh
    have kc := fun w => Go.Lib.run_convert_string_bytes (P := Tryd.prog) w 9 81 5 s Tryd.underlying9 Tryd.underlying81 Tryd.underlying5
    go_wp2_with fail
    have HDX := decode_any sh (some ⟨w1.heap.size, 0, none⟩) s.data.toList (grownCap w1 s.size 0 5) (Go.Lib.bytesWorld w1 5 s) (by rw [hss]; unfold maxLen; omega) (bytes_is w1 s) (by rw [HSZ.out]; exact grownCap_ge _ _ _ _) (grownCap_le_maxLen _ _ _ _ hs)
    rw [HSZ.out, HSH.out, ← HN3.out, ← HSZ.out, HD.out, HSZ.out] at HDX
    by_cases h3 : s.size % 3 = 0
    · rw [if_pos h3] at HDX
      refine HDX.mono ?_
      clear HDX
      rintro e w2 ⟨v, rfl, ho, hb2⟩
      have hb12 := bytes_below w1 5 s
      have hB2 : Below w.heap.size w w2 := (hb1.trans (hb12.mono hb1.size)).trans (hb2.mono (Nat.le_trans hb1.size hb12.size))
      have hN : (threes s.data.toList).length = s.size / 3 := by rw [threes_len, HSZ.out]
      have hvl : (valsL (threes s.data.toList)).length = 2 * n3 := by rw [vals_len, hN, HN3.out]
      have HVL := Lib.hid hvl
      obtain ⟨a, cap, rfl, hlc, hcm, hav⟩ := ownv_slice ho
      have HAV := Lib.hid hav
      rw [hvl] at hlc ⊢
      have HV := Lib.hid (vals_lt (l := valsL (threes s.data.toList)) rfl)
      have HPV := Lib.hid (pairs_vals _ (threes_nat s.data.toList))
      have H3 := Lib.hid h3
      clear hav ho kc hq hq2 h3 hN hvl hb2 hb12 hb1
      go_wp2_with fail
      refine (pairs_any _ _ _ w2).mono ?_
      rintro e w3 ⟨g, rfl, hg, hb3⟩
      have hB3 := hB2.trans (hb3.mono hB2.size)
      have HVL3 := HVL.out
      obtain ⟨b, off, ha, hbw, hcc⟩ : ∃ b off, (0 < n3 → a = some ⟨b, off, none⟩) ∧ b < w3.heap.size ∧ ∀ i (h : i < (valsL (threes s.data.toList)).length), w3.cell? ⟨b, off + i * 2, none⟩ = some (.int .u64 ((valsL (threes s.data.toList))[i].n : Int)) := by
        by_cases h0 : 0 < n3
        · obtain ⟨b, e1, e2, e3⟩ := HAV.out (by omega)
          exact ⟨b, 0, fun _ => e1, Nat.lt_of_lt_of_le e2 hb3.size, fun i hi => (hb3.cell (p := ⟨b, _, none⟩) e2).trans (e3 i hi)⟩
        · exact ⟨g, 0, fun h => absurd h h0, Flat.cell_lt hg, fun i hi => by omega⟩
      have HCP := collect_pairs g b off n3 cap a _ w3 ha hn50 HVL.out hlc hcm HV.out hg hbw hcc
      have HXC := Lib.hid (And.intro ha hcc)
      clear ha hcc hbw hg HVL3
      go_wp2_with fail
      refine HCP.mono ?_
      clear HCP
      rintro e w4 ⟨v4, rfl, ho4, hb4⟩
      rw [HPV.out] at ho4
      have hB4 := hB3.trans (hb4.mono hB3.size)
      have HO4 := Lib.hid ho4
      have HR := right_any v4 (threes s.data.toList) w4 (own_bal ho4)
      clear ho4
      cases hr : rightL (threes s.data.toList) with
      | true =>
        rw [hr] at HR
        go_wp2_with fail
        refine HR.mono ?_
        rintro e w5 ⟨rfl, hb5⟩
        go_wp2_with fail
        go_ret2
        rw [HT.out, if_pos ⟨H3.out, hr⟩]
        exact ⟨_, rfl, own_mono (own_kept HO4.out hb5) hB3.size, hB4.trans (hb5.mono hB4.size)⟩
      | false =>
        rw [hr] at HR
        go_wp2_with fail
        refine HR.mono ?_
        rintro e w5 ⟨rfl, hb5⟩
        go_wp2_with fail
        go_ret2
        rw [HT.out, if_neg (by rw [hr]; simp)]
        exact ⟨_, rfl, ownl_nil _ _, hB4.trans (hb5.mono hB4.size)⟩
    · rw [if_neg h3] at HDX
      refine HDX.mono ?_
      clear HDX
      rintro e w2 ⟨v, rfl, ho, hb2⟩
      have hb12 := bytes_below w1 5 s
      have hB2 : Below w.heap.size w w2 := (hb1.trans (hb12.mono hb1.size)).trans (hb2.mono (Nat.le_trans hb1.size hb12.size))
      obtain ⟨a, cap, rfl, hlc, hcm, _⟩ := ownv_slice ho
      have H3 := Lib.hid h3
      simp only [List.length_nil] at hlc ⊢
      clear ho kc hq hq2 h3 hb2 hb12 hb1
      go_wp2_with fail
      refine (pairs_any _ _ _ w2).mono ?_
      rintro e w3 ⟨g, rfl, hg, hb3⟩
      have hB3 := hB2.trans (hb3.mono hB2.size)
      have HCP := collect_pairs g g 0 0 cap a [] w3 (fun h => absurd h (Nat.lt_irrefl _)) (by omega) rfl (by omega) hcm (fun x h => by simp at h) hg (Flat.cell_lt hg) (fun i h => by simp at h)
      clear hg
      go_wp2_with fail
      refine HCP.mono ?_
      clear HCP
      rintro e w4 ⟨v4, rfl, ho4, hb4⟩
      have hB4 := hB3.trans (hb4.mono hB3.size)
      clear ho4
      go_wp2_with fail
      go_ret2
      rw [HT.out, if_neg (fun h => H3.out h.1)]
      exact ⟨_, rfl, ownl_nil _ _, hB4⟩
end Go.Proofs.YtajnaiofagppeaaDoor.Pack
