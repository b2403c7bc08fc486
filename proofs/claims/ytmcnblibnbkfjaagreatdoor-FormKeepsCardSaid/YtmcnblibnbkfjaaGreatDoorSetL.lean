/-
  Plain laws of layer 12: a field set into a record, dropped from it. No condition.
-/
import Derived.Test.YtmcnblibnbkfjaaGreatDoorSetA
namespace Go.Proofs.YtmcnblibnbkfjaaGreatDoor.W12
open Go Go.RowKit P12

def setL (f : Fld) (l : List Fld) : List Fld := if has l f.name = true then l.set (findI f.name l).toNat f else insL f l
def dropL (k : By) (l : List Fld) : List Fld := if has l k = true then l.take (findI k l).toNat ++ l.drop ((findI k l).toNat + 1) else l

theorem has_iff {l : List Fld} {k : By} : has l k = true ↔ ∃ g ∈ l, g.name = k := by
  unfold has
  simp
theorem find_place {l : List Fld} {k : By} (h : has l k = true) : ∃ j : Nat, findI k l = (j : Int) ∧ j < l.length ∧ l[j]? = some (getF k l) ∧ (getF k l).name = k := by
  have h1 := findI_ge k l
  have h2 : findI k l ≠ -1 := fun e => by rw [findI_none.1 e] at h; cases h
  have hj : findI k l = ((findI k l).toNat : Int) := by omega
  obtain ⟨h3, h4⟩ := getF_at hj
  exact ⟨_, hj, (List.getElem?_eq_some_iff.1 h3).1, h3, h4⟩
theorem set_hit {l : List Fld} {f : Fld} {j : Nat} (h : has l f.name = true) (hj : findI f.name l = (j : Int)) : setL f l = l.set j f := by
  unfold setL
  rw [if_pos h, hj]
  rfl
theorem set_miss {l : List Fld} {f : Fld} (h : has l f.name = false) : setL f l = insL f l := by
  unfold setL
  rw [if_neg (by rw [h]; decide)]
theorem drop_hit {l : List Fld} {k : By} {j : Nat} (h : has l k = true) (hj : findI k l = (j : Int)) : dropL k l = l.take j ++ l.drop (j + 1) := by
  unfold dropL
  rw [if_pos h, hj]
  rfl
theorem drop_miss {l : List Fld} {k : By} (h : has l k = false) : dropL k l = l := by
  unfold dropL
  rw [if_neg (by rw [h]; decide)]
/-- Where the insertion goes: ahead of the first greater name. -/
theorem insL_idx (f : Fld) : ∀ l : List Fld, (∀ i : Nat, idxL (fun x => decide (f.name < x.name)) l = (i : Int) → insL f l = l.take i ++ f :: l.drop i) ∧ (idxL (fun x => decide (f.name < x.name)) l = -1 → insL f l = l ++ [f])
  | [] => ⟨fun i h => by simp only [idxL] at h; omega, fun _ => rfl⟩
  | g :: l => by
    obtain ⟨ih1, ih2⟩ := insL_idx f l
    have hge := idxL_ge (fun x => decide (f.name < x.name)) l
    unfold idxL insL
    by_cases hp : f.name < g.name
    · have hd : decide (f.name < g.name) = true := by simpa using hp
      simp only [hd, if_true]
      rw [if_neg (not_le'.2 hp)]
      refine ⟨fun i h => ?_, fun h => by omega⟩
      obtain rfl : i = 0 := by omega
      simp
    · have hd : decide (f.name < g.name) = false := by simpa using hp
      simp only [hd, Bool.false_eq_true, if_false]
      have hle : g.name ≤ f.name := by
        rcases le_or_lt g.name f.name with h | h
        · exact h
        · exact absurd h hp
      rw [if_pos hle]
      by_cases e : idxL (fun x => decide (f.name < x.name)) l = -1
      · rw [if_pos e]
        exact ⟨fun i h => by omega, fun _ => by rw [ih2 e]; rfl⟩
      · rw [if_neg e]
        refine ⟨fun i h => ?_, fun h => by omega⟩
        obtain ⟨m, rfl⟩ : ∃ m, i = m + 1 := ⟨i - 1, by omega⟩
        rw [ih1 m (by omega)]
        rfl
theorem set_length (f : Fld) (l : List Fld) : (setL f l).length ≤ l.length + 1 := by
  unfold setL
  split
  · simp
  · rw [insL_length]; exact Nat.le_refl _
theorem drop_length (k : By) (l : List Fld) : (dropL k l).length + (if has l k = true then 1 else 0) = l.length := by
  by_cases h : has l k = true
  · obtain ⟨j, hj, hl, -⟩ := find_place h
    rw [drop_hit h hj, if_pos h]
    simp
    omega
  · rw [drop_miss (by simpa using h), if_neg h]
    rfl

/-! ## Of a record -/
theorem set_mem {f : Fld} {l : List Fld} : f ∈ setL f l := by
  by_cases h : has l f.name = true
  · obtain ⟨j, hj, hl, -⟩ := find_place h
    rw [set_hit h hj]
    exact List.mem_set hl f
  · rw [set_miss (by simpa using h)]
    exact (insL_perm f l).mem_iff.2 (by simp)
theorem set_keeps {f g : Fld} {l : List Fld} (hg : g ∈ l) (hn : g.name ≠ f.name) : g ∈ setL f l := by
  by_cases h : has l f.name = true
  · obtain ⟨j, hj, hl, hat, hnm⟩ := find_place h
    rw [set_hit h hj]
    obtain ⟨i, hi, rfl⟩ := List.getElem_of_mem hg
    have hij : j ≠ i := by
      rintro rfl
      rw [List.getElem?_eq_getElem hi] at hat
      rw [Option.some.inj hat] at hn
      exact hn hnm
    refine List.mem_of_getElem? (i := i) ?_
    rw [List.getElem?_set_ne hij, List.getElem?_eq_getElem hi]
  · rw [set_miss (by simpa using h)]
    exact (insL_perm f l).mem_iff.2 (by simp [hg])
theorem set_from {f g : Fld} {l : List Fld} (hg : g ∈ setL f l) : g = f ∨ g ∈ l := by
  unfold setL at hg
  split at hg
  · rcases List.mem_or_eq_of_mem_set hg with h | h
    · exact .inr h
    · exact .inl h
  · simpa using (insL_perm f l).mem_iff.1 hg
theorem names_set {l : List Fld} {f : Fld} {j : Nat} {g : Fld} (hj : l[j]? = some g) (hn : g.name = f.name) : (l.set j f).map (·.name) = l.map (·.name) := by
  refine List.ext_getElem? fun i => ?_
  rw [List.getElem?_map, List.getElem?_map, List.getElem?_set]
  by_cases e : j = i
  · subst e
    rw [if_pos rfl, hj]
    have := (List.getElem?_eq_some_iff.1 hj).1
    rw [if_pos this]
    simp [hn]
  · rw [if_neg e]
theorem srt_map {l : List Fld} : Srt l ↔ (l.map (·.name)).Pairwise (· < ·) := by rw [List.pairwise_map]
theorem set_srt {f : Fld} {l : List Fld} (h : Srt l) : Srt (setL f l) := by
  by_cases hh : has l f.name = true
  · obtain ⟨j, hj, hl, hat, hnm⟩ := find_place hh
    rw [set_hit hh hj, srt_map, names_set hat hnm, ← srt_map]
    exact h
  · rw [set_miss (by simpa using hh)]
    refine insL_srt h fun g hg e => hh (has_iff.2 ⟨g, hg, e⟩)
theorem getF_mem {l : List Fld} (hd : Dst l) {g : Fld} (hg : g ∈ l) : getF g.name l = g := by
  have hh : has l g.name = true := has_iff.2 ⟨g, hg, rfl⟩
  obtain ⟨j, hj, hl, hat, hnm⟩ := find_place hh
  obtain ⟨i, hi, rfl⟩ := List.getElem_of_mem hg
  obtain ⟨_, hat'⟩ := List.getElem?_eq_some_iff.1 hat
  rw [Dst, List.pairwise_iff_getElem] at hd
  rcases Nat.lt_trichotomy i j with h | h | h
  · exact absurd (by rw [hat', hnm]) (hd i j hi hl h)
  · subst h; exact hat'.symm
  · exact absurd (by rw [hat', hnm]) (hd j i hl hi h)
theorem set_get {f : Fld} {l : List Fld} (h : Srt l) : has (setL f l) f.name = true ∧ getF f.name (setL f l) = f :=
  ⟨has_iff.2 ⟨f, set_mem, rfl⟩, getF_mem (srt_dst (set_srt h)) set_mem⟩
theorem set_other {f g : Fld} {l : List Fld} (h : Srt l) (hg : g ∈ l) : has (setL f l) g.name = true ∧ (g.name ≠ f.name → getF g.name (setL f l) = g) := by
  by_cases hn : g.name = f.name
  · exact ⟨by rw [hn]; exact (set_get h).1, fun h => absurd hn h⟩
  · exact ⟨has_iff.2 ⟨g, set_keeps hg hn, rfl⟩, fun _ => getF_mem (srt_dst (set_srt h)) (set_keeps hg hn)⟩
theorem set_check {f : Fld} {l : List Fld} (h : checkL l = 0) (hf : fieldL f = 0) (hlen : (setL f l).length ≤ 16) : checkL (setL f l) = 0 := by
  obtain ⟨_, h2, h3⟩ := (check_iff l).1 h
  refine (check_iff _).2 ⟨hlen, fun g hg => ?_, set_srt h3⟩
  rcases set_from hg with rfl | hg
  · exact hf
  · exact h2 g hg
theorem drop_gone {k : By} {l : List Fld} (h : Dst l) : has (dropL k l) k = false := by
  by_cases hh : has l k = true
  · obtain ⟨j, hj, hl, hat, hnm⟩ := find_place hh
    obtain ⟨_, hat'⟩ := List.getElem?_eq_some_iff.1 hat
    rw [drop_hit hh hj, Bool.eq_false_iff]
    intro hc
    obtain ⟨g, hg, hgn⟩ := has_iff.1 hc
    rw [Dst, List.pairwise_iff_getElem] at h
    rcases List.mem_append.1 hg with hg | hg
    · obtain ⟨i, hi, rfl⟩ := List.getElem_of_mem hg
      rw [List.length_take] at hi
      rw [List.getElem_take] at hgn
      exact h i j (by omega) hl (by omega) (by rw [hgn, hat', hnm])
    · obtain ⟨i, hi, rfl⟩ := List.getElem_of_mem hg
      rw [List.length_drop] at hi
      rw [List.getElem_drop] at hgn
      exact h j (j + 1 + i) hl (by omega) (by omega) (by rw [hgn, hat', hnm])
  · rw [drop_miss (by simpa using hh)]
    simpa using hh
theorem one_field {f : Fld} (h : checkL [f] = 0) : fieldL f = 0 := ((check_iff _).1 h).2.1 f (by simp)
end Go.Proofs.YtmcnblibnbkfjaaGreatDoor.W12
