/- Plain law: the program's names are the specification's names. -/
import Derived.Test.YtghgkmifoiokjaaDoorIm5
import Derived.Test.YtghgkmifoiokjaaDoorSp4
set_option linter.unusedVariables false
set_option linter.unusedSimpArgs false
namespace Go.Pm
theorem kw_eq (s : ByteArray) : hasWord kwS s = inS kwSpec s := by
  have h1 : ∀ x ∈ kwBytes, x ∈ kwSpecBytes := by decide
  have h2 : ∀ x ∈ kwSpecBytes, x ∈ kwBytes := by decide
  rw [Bool.eq_iff_iff]
  simp only [hasWord, inS, List.any_eq_true, decide_eq_true_eq]
  constructor
  · rintro ⟨x, hx, rfl⟩
    obtain ⟨y, hy, rfl⟩ := List.mem_map.1 hx
    exact ⟨_, List.mem_map.2 ⟨y, h1 y hy, rfl⟩, rfl⟩
  · rintro ⟨x, hx, rfl⟩
    obtain ⟨y, hy, rfl⟩ := List.mem_map.1 hx
    exact ⟨_, List.mem_map.2 ⟨y, h2 y hy, rfl⟩, rfl⟩
theorem name_eq (s : ByteArray) : nameI s = nameS s := by
  have hsz := bs_length s
  unfold nameI nameS plainS freshS
  rw [kw_eq]
  rcases hb : bs s with _ | ⟨c, _ | ⟨d, r⟩⟩
  · rfl
  · simp only [hb, List.length_cons, List.length_nil] at hsz
    by_cases h36 : (c.toNat : Int) = 36
    · have hl : letterI c = false := by simp [letterI, h36]
      simp [h36, hl]
    · by_cases hbig : 40 < (s.size : Int)
      · simp [hbig]
      · simp only [hbig, h36, if_false, List.all_cons, List.all_nil, Bool.or_false, Bool.and_true]
        cases hl : letterI c <;> simp [tailI, hl]
  · simp only [hb, List.length_cons] at hsz
    by_cases hbig : 40 < (s.size : Int)
    · have h10 : 10 < (s.size : Int) := by omega
      simp [hbig, h10]
    · by_cases h36 : (c.toNat : Int) = 36
      · have hl : letterI c = false := by simp [letterI, h36]
        simp [hbig, h36, hl]
      · simp only [hbig, h36, if_false, List.all_cons]
        cases hl : letterI c <;> simp [tailI, hl, h36]
def opOK (x : Itm) : Prop := 1 ≤ x.op ∧ x.op ≤ 24
theorem item_eq (x : Itm) : itemI x = (itemS x && (!decide (x.op = 25)) && decide (1 ≤ x.op ∧ x.op ≤ 24)) := by
  unfold itemI itemS nmI
  rw [name_eq]
  have hns : x.name = ⟨#[]⟩ → nameS x.name = false := fun h => by rw [h]; rfl
  grind
end Go.Pm
