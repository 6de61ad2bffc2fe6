/- A store, in a loop over a map, at a key that is there: the loop goes on as it was. -/
import Derived.Test.YtdlfjbllmmkmkaaMapV
import Derived.Maps.RangeWalk
namespace Go.Proofs.Ytdlfjbllmmkmkaa.MapV
open Go.RowKit Go.Maps Go.ChangeMaps Go.MapKept Go.WideShapes Go
open Go.WideElems (Fit rd rg pl rd_key rd_val rg_of other_key rd_mk)
set_option linter.unusedVariables false
set_option linter.unusedSimpArgs false

section
variable {H : Type} {P : Program} {k : TypeId} {R : Value → Option (DataW H × List MemPlace)} {w : World} {b r n : Nat} {D : DataW H} {left : Lit → Bool} {cnt : Nat}

theorem setBlock_eq {w : World} {b c : Nat} {o o' : Obj} {es : Array MapEntry} (hb : w.heap[b]? = some (.map es c)) (h : setBlock w b o = setBlock w b o') : o = o' := by
  have h1 := heap_setBlock_same hb o
  have h2 := heap_setBlock_same hb o'
  rw [h, h2] at h1
  exact (Option.some.inj h1).symm
/-- The law. -/
theorem ranges_set {t e : TypeId} (h : w.ranges P k R b r n D left cnt) (K : Keyed P k) (ht : P.underlying t = some (.map k e)) (hroom : n < maxLen) {key val : Value} {kl : Lit} {y : DataW H × List MemPlace}
    (hkey : keyOf P k key = some kl) (hv : R val = some y) (hhas : Maps.has D kl = true) :
    ∃ w', (Instr.mapUpdate t (.map (some b)) key val).run P w = .ok () w' ∧ w'.ranges P k R b r n (D.put kl y.1) left cnt ∧ w.mapTurned w' b := by
  have hne := h.ne
  obtain ⟨es, clock, since, seen, c0, hb, F, hs, rfl, hr, hold, rfl, hl1, hl2, hsc, hsk⟩ := h
  have hKL := K.key hkey
  -- the key is there
  obtain ⟨p, hp, hpk⟩ := List.any_eq_true.1 hhas
  obtain ⟨x0, hx0, rfl⟩ := List.mem_map.1 (mem_sorted.1 hp)
  have hk0 : (rg P k R x0).1 = kl := WideAt.sameKey_eq hpk
  have hx0k : x0.key = key := by
    obtain ⟨y0, hy0⟩ := F.reads x0 hx0
    rw [rg_of hy0] at hk0
    exact K.inj (hk0 ▸ rd_key hy0) hkey
  rcases K.find w hkey es.toList F.keys with ⟨h1, h2⟩ | ⟨j, e0, h1, h2, h3⟩
  · exact absurd hx0k (h2 x0 hx0)
  · obtain ⟨es1, clock1, hrun1, F1, hput, _, _, _⟩ := Maps.fit_store (R' := R) (t := t) (e := e) K ht hb F (Nat.lt_of_le_of_lt hs hroom) (fun _ _ _ _ hz => hz) hkey hv
    have hj : es[j]? = some e0 := by simpa using h2
    have hjl : j < es.toList.length := (List.getElem?_eq_some_iff.1 h2).1
    have hlist : (es.modify j (fun e' => { e' with key := key, val := val })).toList = es.toList.set j { e0 with key := key, val := val } := by rw [Array.toList_modify, modify_eq_set _ _ _ _ h2]
    have hrun2 : (Instr.mapUpdate t (.map (some b)) key val).run P w = .ok () (setBlock w b (.map (es.modify j (fun e' => { e' with key := key, val := val })) clock)) := by
      simp [Instr.mapUpdate, run_underlying ht, MapKept.run_getObj_map hb, K.check w false hkey, h1, hj, h3, K.stays w hkey, MapKept.run_setObj_map _ hb, Result.andThen, setBlock]
    have hw : setBlock w b (.map es1 clock1) = setBlock w b (.map (es.modify j (fun e' => { e' with key := key, val := val })) clock) := by
      rw [hrun1] at hrun2
      exact (Result.ok.inj hrun2).2
    have hob := setBlock_eq hb hw
    have he1 : es1 = es.modify j (fun e' => { e' with key := key, val := val }) := (Obj.map.inj hob).1
    have hc1 : clock1 = clock := (Obj.map.inj hob).2
    subst hc1
    have hl' : es1.toList = es.toList.set j { e0 with key := key, val := val } := by rw [he1]; exact hlist
    have hem : e0 ∈ es.toList := List.mem_of_getElem? h2
    have hrg0 : (rg P k R e0).1 = kl := by
      obtain ⟨y0, hy0⟩ := F.reads e0 hem
      rw [rg_of hy0]
      have := rd_key hy0
      rw [h3, hkey] at this
      exact (Option.some.inj this).symm
    have hrg1 : (rg P k R { e0 with key := key, val := val }).1 = kl := by rw [rg_of (rd_mk hkey hv)]
    have who : ∀ x ∈ es1.toList, x = { e0 with key := key, val := val } ∨ x ∈ es.toList := by
      intro x hx
      rw [hl'] at hx
      rcases List.mem_or_eq_of_mem_set hx with hx | hx
      · exact .inr hx
      · exact .inl hx
    have hborn : es1.toList.map MapEntry.born = es.toList.map MapEntry.born := by
      rw [hl', List.map_set]
      have e1 : (es.toList.map MapEntry.born)[j]? = some e0.born := by rw [List.getElem?_map, h2]; rfl
      refine List.ext_getElem? fun i => ?_
      rw [List.getElem?_set]
      by_cases hi : j = i
      · subst hi
        rw [if_pos rfl, if_pos (by simpa using hjl), e1]
      · rw [if_neg hi]
    have hcount : ∀ a : Array MapEntry, (leftOf a seen).size = ((a.toList.map MapEntry.born).filter fun x => !seen.contains x).length := fun a => by
      unfold leftOf
      rw [← Array.length_toList, Array.toList_filter, List.filter_map, List.length_map]
      rfl
    refine ⟨_, hrun1, ⟨es1, clock1, since, seen, c0, heap_setBlock_same hb _, F1, ?_, ?_, (heap_setBlock_other hb _ hne).trans hr, fun x hx => ?_, ?_, fun x hx => ?_, fun kl' hkl' => ?_, hsc, hsk⟩, ⟨es, clock1, es1, clock1, hb, rfl⟩⟩
    · have : es1.toList.length = es.toList.length := by rw [hl']; simp
      simp only [Array.length_toList] at this
      omega
    · rw [DataW.put_eq, hput]
    · rcases who x hx with rfl | hx
      · exact hold e0 hem
      · exact hold x hx
    · rw [hcount, hcount, hborn]
    · rcases who x hx with rfl | hx
      · rw [hrg1, ← hrg0]; exact hl1 e0 hem
      · exact hl1 x hx
    · obtain ⟨x, hx, rfl⟩ := hl2 kl' hkl'
      by_cases hxk : x.key = key
      · refine ⟨{ e0 with key := key, val := val }, ?_, ?_⟩
        · rw [hl']
          exact List.mem_iff_getElem.2 ⟨j, by simpa using hjl, by simp⟩
        · rw [hrg1]
          obtain ⟨y0, hy0⟩ := F.reads x hx
          rw [rg_of hy0]
          have := rd_key hy0
          rw [hxk, hkey] at this
          exact Option.some.inj this
      · refine ⟨x, ?_, rfl⟩
        rw [hl']
        obtain ⟨i, hi, rfl⟩ := List.getElem_of_mem hx
        refine List.mem_iff_getElem.2 ⟨i, by simpa using hi, ?_⟩
        rw [List.getElem_set]
        rw [if_neg]
        rintro rfl
        rw [List.getElem?_eq_getElem hi] at h2
        exact hxk (by rw [Option.some.inj h2]; exact h3)
end
end Go.Proofs.Ytdlfjbllmmkmkaa.MapV
