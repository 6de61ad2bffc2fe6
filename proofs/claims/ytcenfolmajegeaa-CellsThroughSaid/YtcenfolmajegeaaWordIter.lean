/- All of cells of texts: an iterator over an iterator. -/
import Derived.Test.YtcenfolmajegeaaSeq
import Derived.Test.YtcenfolmajegeaaWordCells
import Derived.Shelf.SlIterI.Nil
import Derived.Shelf.SortM.Plain
import Derived.Shelf.SortM.SortNone
import Derived.Ground.GgzProg
import Derived.Ground.SlgmProg
import Derived.Lib.SlKeysI
import Derived.OwnWalkIn
import Derived.TacticsInMore
import Derived.LoopNIn
import Derived.LoopIn
namespace Go.Proofs
open Go.RowKit Go.Maps Go.Sort Go.Shelf
set_option linter.unusedSimpArgs false
set_option linter.unusedVariables false
shelf_lay_g SlLaysZI.n7 Ggz 7 at Try 43 as Try.keysW
shelf_lay_g SlLaysZI.n6 Ggz 6 at Try 42 as Try.sortedW
shelf_lay_g SlLaysM.n5 Slgm 5 at Try 57 as Try.sortW
theorem Try.sortsW (m : Nat) : AnyZI.SortsIn Try.prog Try.sortedW_ren Fence.wide m :=
  ⟨fun blk off cap ss W hH hblk hsz => callsIn_wide.2 (AnyM.slices_Sort_int Try.sortW blk off cap ss W hH hblk hsz),
   fun p cap W => callsIn_wide.2 (AnyM.slices_Sort_int_none Try.sortW p cap W)⟩
end Go.Proofs
namespace Go.Proofs.Ytcenfolmajegeaa.WordIter
open Go Go.RowKit Go.Maps Go.Shelf Flat SeqOver WordCells
set_option linter.unusedSimpArgs false
set_option linter.unusedVariables false
set_option maxRecDepth 100000
attribute [local go_sem] Oper.semAt_some
abbrev I64 := { x : Int // (Lit.int .i64 x).wf = true }
/-- Keys that rise. -/
def Rises (zs : List I64) : Prop := zs.Pairwise fun a b => a.1 < b.1
theorem keys_facts {w : World} {b c : Nat} {D : DataW Value} (hown : w.ownsMap Try.prog KT MapV.RV b c D) : (intKeys D).Nodup ∧ (∀ x ∈ intKeys D, Maps.has D (.int .i64 x) = true ∧ (Lit.int .i64 x).wf = true) ∧ (intKeys D).length = Maps.size D := by
  have hwf := intKeys_wf hown Try.underlying2
  obtain ⟨es, hD, hpw, _⟩ := hown.entries keyed
  obtain ⟨es', hD', hko⟩ := hown.keysOf
  obtain rfl : es = es' := by rw [hD] at hD'; simpa using hD'
  subst hD
  have hk : ∀ p ∈ es, ∃ x, p.1 = Lit.int .i64 x := fun p hp => by
    obtain ⟨v, hv⟩ := hko p hp
    obtain ⟨x, _, hx, _⟩ := Maps.keyOf_i64 Try.underlying2 hv
    exact ⟨x, hx⟩
  refine ⟨?_, fun x hx => ⟨?_, hwf x hx⟩, by simp [intKeys, Maps.size]⟩
  · show (es.map fun p => Go.intOf p.1).Nodup
    refine List.pairwise_map.2 (hpw.imp_of_mem fun {p q} hp hq hne e => hne ?_)
    obtain ⟨a, ha⟩ := hk p hp
    obtain ⟨b, hb⟩ := hk q hq
    rw [ha, hb] at e ⊢
    exact congrArg _ e
  · obtain ⟨p, hp, rfl⟩ := List.mem_map.1 hx
    obtain ⟨a, ha⟩ := hk p hp
    rw [has_eq, List.any_eq_true]
    exact ⟨p, hp, by rw [ha]; simp [Lit.sameKey, Go.intOf]⟩
theorem lift64 (l : List Int) (h : ∀ x ∈ l, (Lit.int .i64 x).wf = true) : ∃ zs : List I64, zs.map (fun z => z.1) = l :=
  ⟨l.attach.map fun i => ⟨i.1, h i.1 i.2⟩, by simp [Function.comp_def]⟩
theorem rises_of {l : List Int} {zs : List I64} (hz : zs.map (fun z => z.1) = l.mergeSort leI) (hn : l.Nodup) : Rises zs := by
  have tr : ∀ a b c : Int, leI a b = true → leI b c = true → leI a c = true := fun a b c h1 h2 => by simp only [leI, decide_eq_true_eq] at *; omega
  have tot : ∀ a b : Int, (leI a b || leI b a) = true := fun a b => by simp only [leI, Bool.or_eq_true, decide_eq_true_eq]; omega
  have h1 : (zs.map (fun z => z.1)).Pairwise (fun a b => leI a b = true) := by rw [hz]; exact List.pairwise_mergeSort tr tot l
  have h2 : (zs.map (fun z => z.1)).Nodup := by rw [hz]; exact (List.mergeSort_perm l leI).nodup_iff.2 hn
  rw [List.pairwise_map] at h1
  rw [List.nodup_iff_pairwise_ne, List.pairwise_map] at h2
  exact (h1.and h2).imp fun {a b} h => by
    have := h.1
    have := h.2
    simp only [leI, decide_eq_true_eq] at *
    omega
/-- Numbers in a slice of a block of one's own. -/
def Holds (w : World) (B : Nat) (v : Value) (zs : List I64) : Prop :=
  (v = .slice none 0 0 ∧ zs = []) ∨ ∃ b cap, v = .slice (some ⟨b, 0, none⟩) zs.length cap ∧ B ≤ b ∧ b < w.heap.size ∧ ∀ j (h : j < zs.length), w.cell? ⟨b, j, none⟩ = some (.int .i64 zs[j].1)
theorem Holds.below {w w' : World} {B : Nat} {v : Value} {zs : List I64} (h : Holds w B v zs) (hb : Below w.heap.size w w') : Holds w' B v zs := by
  rcases h with h | ⟨b, cap, h1, h2, h3, h4⟩
  · exact .inl h
  · exact .inr ⟨b, cap, h1, h2, Nat.lt_of_lt_of_le h3 hb.size, fun j hj => (hb.cell (p := ⟨b, j, none⟩) h3).trans (h4 j hj)⟩
theorem keys_any (mb : Option Nat) (W : World) : Calls Try.prog 43 #[.map mb] W fun e w' => ∃ g, e = .returned (.func (.func 58) #[] #[.pointer (some ⟨g, 0, none⟩)]) ∧ w'.cell? ⟨g, 0, none⟩ = some (.map mb) ∧ Below W.heap.size W w' := by
  refine (callsIn_wide.1 (AnyZI.keys_in Try.keysW Fence.wide 5 trivial rfl mb W)).mono ?_
  rintro e w' ⟨rfl, rfl⟩
  exact ⟨W.heap.size, rfl, by simp, (Below.refl _ W).alloc (Nat.le_refl _) _⟩
set_option maxHeartbeats 2000000 in
theorem sorted_any {f : Int → Option Value} {c mb : Nat} (g : Nat) (w : World) (h : w.cell? ⟨g, 0, none⟩ = some (.map (some mb))) (ho : WordCells.Own w mb f c) (hc : c ≤ 1000) :
    Calls Try.prog 42 #[.func (.func 58) #[] #[.pointer (some ⟨g, 0, none⟩)]] w fun e w' => ∃ v zs, e = .returned v ∧ Rises zs ∧ zs.length = c ∧ (∀ z ∈ zs, (f z.1).isSome = true) ∧ Holds w' w.heap.size v zs ∧ Below w.heap.size w w' := by
  obtain ⟨D, hown, hD⟩ := ho
  obtain ⟨kn, km, kl⟩ := keys_facts hown
  have hsz := hD.1
  have hseq : SeqGives Fence.wide 2 Try.prog 58 #[.pointer (some ⟨g, 0, none⟩)] encZ (fun ss => ss.Perm (intKeys D)) (Maps.size D) w :=
    AnyZI.keys_gives (ρ := Try.keysW_ren) { Try.keysW with } Fence.wide _ trivial rfl (by omega) g mb c D _ (Flat.cell_lt h) h hown
  refine (callsIn_wide.1 (AnyZI.sorted_in Try.sortedW Fence.wide 5 trivial trivial trivial trivial rfl (by omega) (Try.sortsW _) (enters_of Try.func57 (by kernel_rfl) rfl) 58 #[.pointer (some ⟨g, 0, none⟩)] trivial (enters_of Try.func58 (by kernel_rfl) rfl) _ _ (by unfold maxLen; omega) (by omega) _ hseq)).mono ?_
  rintro e w' ⟨v, ss, rfl, hp, hrow, hnil, hb⟩
  have hp2 := (List.mergeSort_perm ss leI).trans hp
  obtain ⟨zs, hz⟩ := lift64 (ss.mergeSort leI) (fun x hx => (km x (hp2.mem_iff.1 hx)).2)
  have hlen : zs.length = ss.length := by rw [← List.length_map (f := fun z : I64 => z.1), hz, List.length_mergeSort]
  refine ⟨v, zs, rfl, rises_of hz (hp.nodup_iff.2 kn), by rw [hlen, hp.length_eq, kl, hsz], fun z hz2 => ?_, ?_, hb⟩
  · rw [← (hD.2 z.1).1]
    exact (km z.1 (hp2.mem_iff.1 (by rw [← hz]; exact List.mem_map.2 ⟨z, hz2, rfl⟩))).1
  · rcases hrow.2 with ⟨h1, h2⟩ | ⟨b, cap, cur, h1, h2, h3, h4, h5, _⟩
    · exact .inl ⟨h1, List.length_eq_zero_iff.1 (by omega)⟩
    · subst h1
      refine .inr ⟨b, cap, by rw [hlen], h2, (hrow.lt b rfl).2, fun j hj => ?_⟩
      have k := World.ownsRow.cellAt hrow j (by omega)
      rw [k]
      have e : (ss.mergeSort leI)[j]? = some zs[j].1 := by rw [← hz, List.getElem?_map, List.getElem?_eq_getElem hj]; rfl
      rw [List.getElem?_map, e]
      rfl
theorem values_any (a : Option Addr) (len cap : Nat) (w : World) : Calls Try.prog 41 #[.slice a len cap] w fun e w' => ∃ g, e = .returned (.func (.func 55) #[] #[.pointer (some ⟨g, 0, none⟩)]) ∧ w'.cell? ⟨g, 0, none⟩ = some (.slice a len cap) ∧ w.heap.size ≤ g ∧ Below w.heap.size w w' := by
  go_enter Try.func41, Try.ntmps41
  go_wp2_with fail
  go_ret
  exact ⟨w.heap.size, rfl, by simp, Nat.le_refl _, (Below.refl _ w).alloc (Nat.le_refl _) _⟩
/-- What a round must leave alone: a block. -/
def Same (b : Nat) (W W' : World) : Prop := W'.heap[b]? = W.heap[b]?
set_option maxHeartbeats 2000000 in
theorem vals_any (n : Nat) (hn : 1 ≤ n) (B b cap : Nat) (zs : List I64) (w : World) (hcap : zs.length ≤ 1000) (hB : w.cell? ⟨B, 0, none⟩ = some (.slice (some ⟨b, 0, none⟩) zs.length cap)) (hb : b < w.heap.size) (hc : ∀ j (h : j < zs.length), w.cell? ⟨b, j, none⟩ = some (.int .i64 zs[j].1)) :
    SeqO Fence.wide n Try.prog 55 #[.pointer (some ⟨B, 0, none⟩)] (fun z : I64 => #[.int .i64 z.1]) (Same b) (fun xs => xs = zs) (fun pre => pre <+: zs) zs.length w := fun l J Jx row W hW hJ hJx hlt hY h0 => by
  have hB := (hW.cell (p := ⟨B, 0, none⟩) (Flat.cell_lt hB)).trans hB
  refine callsIn_of_wp Try.func55 rfl trivial ?_ rfl
  simp only [Try.ntmps55, List.size_toArray, List.length_cons, List.length_nil, Nat.reduceAdd, Nat.reduceSub, Array.replicate_succ, Array.replicate_zero, List.push_toArray, List.append_toArray, List.nil_append, List.cons_append]
  gi_wp2
  gi_loopw [7] (fun i wr => ∃ (k : Nat) (row : Option Nat), k ≤ zs.length ∧ i = .int .i64 (k : Int) ∧ J (zs.take k) row wr ∧ Same b W wr) (fun i _ => zs.length - (intOf i).toNat)
  case atStart => exact ⟨0, row, Nat.zero_le _, rfl, h0, rfl⟩
  case round =>
    obtain ⟨k, row, hk, rfl, hJs, hs⟩ := hrel
    by_cases hlt : k < zs.length
    · have hcx := (World.cell?_of_block (a := ⟨b, k, none⟩) hs).trans ((hW.cell (p := ⟨b, k, none⟩) hb).trans (hc k hlt))
      obtain ⟨fn, tmps, assign, body, hy, hR⟩ := hY _ row zs[k] wr hJs (by rw [List.length_take]; omega)
      have htk : zs.take (k + 1) = zs.take k ++ [zs[k]] := List.take_succ_eq_append_getElem hlt
      have hkI : (k : Int) < (zs.length : Int) := by omega
      generalize zs[k] = z at *
      obtain ⟨z, hz⟩ := z
      dsimp only at hy hcx
      gi_wp2
      refine hR.mono ?_
      rintro e W3 ⟨row', hnx, hkp, (⟨rfl, hJ3, hk3⟩ | ⟨rfl, hJx3⟩)⟩
      · gi_wp2
        go_roundw
        case rel => exact ⟨k + 1, row', by omega, by simp, by rw [htk]; exact hJ3, hk3.trans hs⟩
        case measure => simp [intOf]; omega
      · gi_wp2
        refine bodyPost_ret (results_none rfl _ _ _) rfl ?_
        exact ⟨⟨_, rfl⟩, row', .inr ⟨_, by rw [← htk]; exact List.take_prefix _ _, hJx3⟩⟩
    · obtain rfl : k = zs.length := by omega
      gi_wp2
      go_end0
      exact ⟨⟨_, rfl⟩, row, .inl ⟨zs, rfl, by rw [List.take_length] at hJs; exact hJs⟩⟩
set_option maxHeartbeats 1000000 in
theorem vals_nil (n : Nat) (hn : 1 ≤ n) (B b : Nat) (w : World) (hB : w.cell? ⟨B, 0, none⟩ = some (.slice none 0 0)) :
    SeqO Fence.wide n Try.prog 55 #[.pointer (some ⟨B, 0, none⟩)] (fun z : I64 => #[.int .i64 z.1]) (Same b) (fun xs => xs = []) (fun pre => pre <+: []) 0 w := fun l J Jx row W hW hJ hJx hlt hY h0 => by
  have hB := (hW.cell (p := ⟨B, 0, none⟩) (Flat.cell_lt hB)).trans hB
  refine callsIn_of_wp Try.func55 rfl trivial ?_ rfl
  simp only [Try.ntmps55, List.size_toArray, List.length_cons, List.length_nil, Nat.reduceAdd, Nat.reduceSub, Array.replicate_succ, Array.replicate_zero, List.push_toArray, List.append_toArray, List.nil_append, List.cons_append]
  gi_wp2
  refine wpIn_loop_rounds 1 ?_
  rw [roundsIn_succ]
  gi_wp2
  go_end0
  exact ⟨⟨_, rfl⟩, row, .inl ⟨[], rfl, h0⟩⟩
theorem vals_holds (n : Nat) (hn : 1 ≤ n) (B B0 : Nat) (v : Value) (zs : List I64) (w : World) (hcap : zs.length ≤ 1000) (hB : w.cell? ⟨B, 0, none⟩ = some v) (hBB : B0 ≤ B) (h : Holds w B0 v zs) :
    ∃ b, B0 ≤ b ∧ b < w.heap.size ∧ SeqO Fence.wide n Try.prog 55 #[.pointer (some ⟨B, 0, none⟩)] (fun z : I64 => #[.int .i64 z.1]) (Same b) (fun xs => xs = zs) (fun pre => pre <+: zs) zs.length w := by
  rcases h with ⟨rfl, rfl⟩ | ⟨b, cap, rfl, h1, h2, h3⟩
  · exact ⟨B, hBB, Flat.cell_lt hB, vals_nil n hn B B w hB⟩
  · exact ⟨b, h1, h2, vals_any n hn B b cap zs w hcap hB h2 h3⟩
theorem Holds.slice {w : World} {B : Nat} {v : Value} {zs : List I64} (h : Holds w B v zs) : ∃ a len cap, v = .slice a len cap := by
  rcases h with ⟨rfl, _⟩ | ⟨b, cap, rfl, _⟩
  · exact ⟨_, _, _, rfl⟩
  · exact ⟨_, _, _, rfl⟩
theorem grown_below {v w : World} (h : Below v.heap.size v w) (row : Option Nat) : v.grownBy w row := ⟨h.os, h.tape, h.output, h.size, fun i hi _ => h.block i hi⟩
theorem round_in {m m' l l' : Nat} {P : Program} {f : FuncId} {t : Array Value} {a b : Code} {w : World} {R : Ending → World → Prop} (h : RoundIn Fence.wide m P l f t a b w R) : RoundIn (Fence.wide.inRound l') m' P l f t a b w R :=
  ⟨h.1, fun c cs _ => h.2 c cs (room_wide _)⟩
/-- What All hands out at a key. -/
def pr (f : Int → Option Value) (X : ByteArray) (z : I64) : I64 × ByteArray := (z, if (f z.1).isSome then X else ⟨#[]⟩)
structure Keys (f : Int → Option Value) (c : Nat) (zs : List I64) : Prop where
  rises : Rises zs
  len : zs.length = c
  there : ∀ z ∈ zs, (f z.1).isSome = true
set_option maxHeartbeats 8000000 in
theorem all1_any {f : Int → Option Value} {c mb : Nat} (X : ByteArray) (hX : ∀ k v, f k = some v → v = .string X) (n : Nat) (hn : 4 ≤ n) (B : Nat) (w : World) (hc : c ≤ 1000) (hB : w.cell? ⟨B, 0, none⟩ = some (.map (some mb))) (ho : WordCells.Own w mb f c) :
    SeqO Fence.wide n Try.prog 40 #[.pointer (some ⟨B, 0, none⟩)] (fun x : I64 × ByteArray => #[.int .i64 x.1.1, .string x.2]) (fun W W' => Same B W W' ∧ Same mb W W') (fun xs => ∃ zs, Keys f c zs ∧ xs = zs.map (pr f X)) (fun pre => ∃ zs, Keys f c zs ∧ pre <+: zs.map (pr f X)) c w := fun l J Jx row W hW hJ hJx hlt hY h0 => by
  have hb := (hW.cell (p := ⟨B, 0, none⟩) (Flat.cell_lt hB)).trans hB
  have hoW : WordCells.Own W mb f c := MapV.Own.below ho hW (MapV.Own.lt ho)
  have h1 : 1 ≤ n := by omega
  have hBl := Flat.cell_lt hb
  have hml := MapV.Own.lt hoW
  have hfK : Fence.wide.fn 43 := trivial
  have hfS : Fence.wide.fn 42 := trivial
  have hfV : Fence.wide.fn 41 := trivial
  refine callsIn_of_wp_marks Try.func40 rfl trivial ?_ rfl
  simp only [Try.ntmps40, List.size_toArray, List.length_cons, List.length_nil, Nat.reduceAdd, Nat.reduceSub, Array.replicate_succ, Array.replicate_zero, List.push_toArray, List.append_toArray, List.nil_append, List.cons_append]
  have hba := fun o => (((Below.refl W.heap.size W).alloc (Nat.le_refl _) o).cell (p := ⟨B, 0, none⟩) hBl).trans hb
  gi_wp2_with fail
  generalize hv1 : World.alloc W _ = v1
  obtain ⟨hb1, hz1, hy1⟩ := alloc_facts hv1
  have hy1 := hy1 0
  clear hv1 hba
  have ho1 : WordCells.Own v1 mb f c := MapV.Own.below hoW hb1 hml
  refine (callsIn_wide.2 (keys_any (some mb) v1)).mono ?_
  rintro e v2 ⟨g2, rfl, hc2, hb2⟩
  have ho2 : WordCells.Own v2 mb f c := MapV.Own.below ho1 hb2 (by omega)
  gi_wp2_with fail
  refine (callsIn_wide.2 (sorted_any g2 v2 hc2 ho2 hc)).mono ?_
  rintro e v3 ⟨v, zs, rfl, hri, hlz, hth, hho, hb3⟩
  obtain ⟨sa, sl, sc, rfl⟩ := hho.slice
  gi_wp2_with fail
  refine (callsIn_wide.2 (values_any sa sl sc v3)).mono ?_
  rintro e v4 ⟨g4, rfl, hc4, hg34, hb4⟩
  have s12 := hb2.size
  have s23 := hb3.size
  have s34 := hb4.size
  have hB4 : Below W.heap.size W v4 := hb1.trans (((hb2.mono (Nat.le_of_lt hz1))).trans ((hb3.mono (by omega)).trans (hb4.mono (by omega))))
  have hs4 := hB4.size
  have h04 : J [] row v4 := hJ _ _ W v4 none h0 (grown_below hB4 none) (fun r e => by cases e)
  have yv4 := (hb4.cell (p := ⟨W.heap.size, 0, none⟩) (by show W.heap.size < _; omega)).trans ((hb3.cell (p := ⟨W.heap.size, 0, none⟩) (by show W.heap.size < _; omega)).trans ((hb2.cell (p := ⟨W.heap.size, 0, none⟩) hz1).trans hy1))
  have bv4 := (hB4.cell (p := ⟨B, 0, none⟩) hBl).trans hb
  have ho4 : WordCells.Own v4 mb f c := MapV.Own.below hoW hB4 hml
  obtain ⟨b, hb0, hbl4, hseq⟩ := vals_holds (n - 1) (by omega) g4 v2.heap.size _ zs v4 (by omega) hc4 (by omega) (hho.below hb4)
  gi_wp2_with fail
  have HL := fun (W' : World) (h : WordCells.Own W' mb f c) (z : Int) (hz : (Lit.int .i64 z).wf = true) => MapV.Own.look (t := 80) (et := 9) h keyed Try.underlying80 (z := .string ⟨#[]⟩) zeroE (keyw hz)
  have hval : ∀ z : I64, (f z.1).getD (.string ⟨#[]⟩) = .string (pr f X z).2 := fun z => by
    unfold pr
    cases hf : f z.1 with
    | none => rfl
    | some v => rw [hX _ _ hf]; rfl
  have HKS : Keys f c zs := ⟨hri, hlz, hth⟩
  refine range_over (n := n) rfl h1 (gf := 55) (lb := #[.pointer (some ⟨g4, 0, none⟩)]) rfl trivial (enters_of Try.func55 (by kernel_rfl) rfl)
    hseq (fun h k => Eq.trans k h) (fun V V' t hz hg ht => hg.block b (by omega) (fun e => absurd (ht b e.symm) (by omega))) (Below.refl _ _) (fun _ => rfl)
    (fun pre row' V => J (pre.map (pr f X)) row' V ∧ (V.cell? ⟨W.heap.size, 0, none⟩ = some (.func (.yield l) #[] #[]) ∧ V.cell? ⟨B, 0, none⟩ = some (.map (some mb)) ∧ WordCells.Own V mb f c ∧ v4.heap.size ≤ V.heap.size) ∧ row' ≠ some W.heap.size ∧ row' ≠ some b)
    (fun cd pre row' V => cd = .ret ∧ Jx (pre.map (pr f X)) row' V)
    (fun s row' V V' t hs hg ht => ⟨(hJ.mono hs4) _ row' V V' t hs.1 hg ht, ⟨(hg.cell_far ⟨W.heap.size, 0, none⟩ (Flat.cell_lt hs.2.1.1) (fun e => absurd (ht W.heap.size e.symm).1 (by omega))).trans hs.2.1.1, (hg.cell_far ⟨B, 0, none⟩ (Flat.cell_lt hs.2.1.2.1) (fun e => absurd (ht B e.symm).1 (by omega))).trans hs.2.1.2.1, MapV.Own.heap hs.2.1.2.2.1 (hg.block mb (MapV.Own.lt hs.2.1.2.2.1) (fun e => by have := (ht _ e.symm).1; omega)), Nat.le_trans hs.2.1.2.2.2 hg.size⟩, hs.2.2⟩)
    (fun cd s row' V V' t hs hg ht => ⟨hs.1, (hJx.mono hs4) _ row' V V' t hs.2 hg ht⟩)
    (fun s row' V hs => hlt _ row' V hs.1) row (fun r e => Nat.lt_of_lt_of_le (hlt _ _ _ h0 r e) hs4)
    ⟨h04, ⟨yv4, bv4, ho4, Nat.le_refl _⟩, fun e => by have := hlt _ _ _ h0 _ e; omega, fun e => by have := hlt _ _ _ h0 _ e; omega⟩
    (fun z a' V => a' = { tmps := #[.func (.yield l) #[] #[], .pointer (some ⟨B, 0, none⟩), .pointer (some ⟨W.heap.size, 0, none⟩), .int .i64 z.1, .map (some mb), .func (.func 58) #[] #[.pointer (some ⟨g2, 0, none⟩)], .slice sa sl sc, .func (.func 55) #[] #[.pointer (some ⟨g4, 0, none⟩)], .int .i64 z.1, undef, undef, undef, undef, undef, undef, undef], defers := [] })
    (fun _ _ _ _ _ h _ _ => h) ?assign ?body ?done ?stop
  case assign =>
    intro l' pre row' z V K hl hi hK
    gi_wp2
    exact hK _ _ (Keep.refl _ _ _) rfl hi rfl
  case body =>
    rintro l' pre row' z a' V hl ⟨hj, ⟨hy, hcb, how, hsv⟩, hn1, hn2⟩ rfl hlen
    obtain ⟨fn, tmps, assign, body, hyy, hR⟩ := hY (pre.map (pr f X)) row' (pr f X z) V hj (by rw [List.length_map]; omega)
    have hlk := HL V how z.1 z.2
    rw [hval z] at hlk
    have hpx : (pr f X z).1.1 = z.1 := rfl
    rw [hpx] at hyy
    have hR := round_in (m' := n - 1 - 1 - 1) (l' := l') hR
    generalize (pr f X z).2 = vz at *
    have hd1 : 1 ≤ n - 1 - 1 := by omega
    have hyl := Flat.cell_lt hy
    gi_wp2
    refine hR.mono ?_
    rintro e W3 ⟨row3, hnx, hkp, (⟨rfl, hJ3, hk3⟩ | ⟨rfl, hJx3⟩)⟩
    · gi_wp2
      have r1 : row3 ≠ some W.heap.size := by
        rcases hnx with rfl | h
        · exact hn1
        · intro e; have := h _ e; omega
      have r2 : row3 ≠ some b := by
        rcases hnx with rfl | h
        · exact hn2
        · intro e; have := h _ e; omega
      exact ⟨row3, hnx, hkp.mono hs4, hkp.same b (by omega) (by omega) (fun e => hn2 e.symm), by rw [List.map_append]; exact hJ3,
        ⟨(World.cell?_of_block (a := ⟨W.heap.size, 0, none⟩) (hkp.same W.heap.size (Nat.le_refl _) hyl (fun e => hn1 e.symm))).trans hy, (World.cell?_of_block (a := ⟨B, 0, none⟩) hk3.1).trans hcb, MapV.Own.heap how hk3.2, Nat.le_trans hsv hkp.size⟩, r1, r2⟩
    · gi_wp2
      exact ⟨row3, hnx, hkp.mono hs4, rfl, by rw [List.map_append]; exact hJx3⟩
  case done =>
    rintro D xs row' V hD rfl ⟨hj, _, _, _⟩ hne hk
    gi_wp2
    refine ⟨by simp, .inl ⟨_, _, rfl, run_takeDeferred hk, ?_⟩⟩
    exact ⟨_, results_none rfl _ _ _, ⟨_, rfl⟩, row', .inl ⟨_, ⟨xs, HKS, rfl⟩, (hJ.mono hs4).put _ hj hD hne⟩⟩
  case stop =>
    rintro D cd pre row' V hD hpre ⟨rfl, hj⟩ hne hk
    gi_wp2
    refine ⟨by simp, .inl ⟨_, _, rfl, run_takeDeferred hk, ?_⟩⟩
    exact ⟨_, results_none rfl _ _ _, ⟨_, rfl⟩, row', .inr ⟨_, ⟨zs, HKS, hpre.map _⟩, (hJx.mono hs4).put _ hj hD hne⟩⟩
end Go.Proofs.Ytcenfolmajegeaa.WordIter
