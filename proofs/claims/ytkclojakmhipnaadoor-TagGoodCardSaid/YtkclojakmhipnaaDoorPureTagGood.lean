/- The law TagGood: a series is good just if the reference says so, its text is the reference's, and it is read back from it. -/
import Derived.Test.YtkclojakmhipnaaDoorPureTagReads
namespace Go.Proofs.YtkclojakmhipnaaDoor.H
open Go.RowKit Go.Proofs.YtkclojakmhipnaaDoor.PA Go.Proofs.YtkclojakmhipnaaDoor.PC Go.Proofs.YtkclojakmhipnaaDoorW.PrintWords Go.Proofs.YtkclojakmhipnaaDoorW.PrintLast Go.Proofs.YtkclojakmhipnaaDoorW.PrintMore
set_option linter.unusedVariables false
theorem name_not {s : ByteArray} (h : nameB s = true) {c : UInt8} (hc : okb nmOk c = false) : c ∉ s.data.toList := by
  intro hm
  simp only [nameB, Bool.and_eq_true, List.all_eq_true] at h
  have := h.2 c hm
  rw [hc] at this
  cases this
theorem value_not {s : ByteArray} (h : valueB s = true) {c : UInt8} (hc : okb vlOk c = false) : c ∉ s.data.toList := by
  intro hm
  simp only [valueB, Bool.and_eq_true, List.all_eq_true] at h
  have := h.1.1 c hm
  rw [hc] at this
  cases this
theorem good_parts {m : ByteArray} {l : List S53} (h : goodB m l = true) : nameB m = true ∧ ∀ x ∈ l, nameB x.f0 = true ∧ valueB x.f1 = true := by
  simp only [goodB, Bool.and_eq_true, List.all_eq_true] at h
  refine ⟨h.1.1.1, fun x hx => ?_⟩
  have := h.1.1.2 x hx
  simp only [okS, wordB, Bool.and_eq_true] at this
  exact ⟨this.1.1, this.2⟩
theorem read_text {m : ByteArray} {l : List S53} (h : goodB m l = true) : readB (ba (textL m l)) = (m, l, 0) := by
  obtain ⟨hm, hx⟩ := good_parts h
  have hm123 : (123 : UInt8) ∉ m.data.toList := name_not hm (by decide)
  by_cases hl : l = []
  · subst hl
    have hc := cut_no hm123
    rw [ba_of] at hc
    unfold readB labsB
    rw [text_no, ba_of, hc, if_neg (show ¬ (false = true) by decide), if_pos ⟨h, text_no m⟩]
  · have ht : textL m l = m.data.toList ++ 123 :: (joinC 44 (l.map txtL) ++ [125]) := by
      unfold textL
      rw [if_neg hl, labs_join 123 l hl]
      rfl
    have hc : cutB (ba (textL m l)) 123 = (m, ba (joinC 44 (l.map txtL) ++ [125]), true) := by
      rw [ht, cut_at hm123, ba_of]
    have hp : partsB (ba (joinC 44 (l.map txtL) ++ [125])) = (l.map txtL).map ba := by
      unfold partsB
      rw [trim_snoc, if_pos rfl]
      refine split_join 44 _ (by simpa using hl) (fun z hz => ?_)
      obtain ⟨x, hxl, rfl⟩ := List.mem_map.1 hz
      obtain ⟨h0, h1⟩ := hx x hxl
      unfold txtL
      simp only [List.mem_append, List.mem_cons]
      rintro (h2 | h2 | h2)
      · exact name_not h0 (by decide) h2
      · exact absurd h2 (by decide)
      · exact value_not h1 (by decide) h2
    have hls : labsB (ba (textL m l)) = l := by
      unfold labsB
      rw [hc, if_pos rfl, hp, List.map_map, List.map_map]
      have : ∀ x ∈ l, ((labOf ∘ ba) ∘ txtL) x = x := fun x hxl => lab_of_txt x (name_not (hx x hxl).1 (by decide))
      calc l.map ((labOf ∘ ba) ∘ txtL) = l.map id := List.map_congr_left this
        _ = l := List.map_id l
    unfold readB
    rw [hls, hc, if_pos ⟨h, by rw [ba_data]⟩]
theorem text_size {m : ByteArray} {l : List S53} (h : goodB m l = true) : (ba (textL m l)).size ≤ 60000 := by
  obtain ⟨_, hw, hm, hl⟩ := good_short h
  have h2 := labs_len 123 l (fun x hx => by have := hw x hx; unfold Short; omega)
  have h3 : m.data.toList.length = m.size := by simp
  rw [ba_size]
  unfold textL
  by_cases hz : l = []
  · rw [if_pos hz, List.append_nil]; omega
  · rw [if_neg hz, List.length_append, List.length_append, List.length_singleton]; omega
end Go.Proofs.YtkclojakmhipnaaDoor.H
namespace Go.Proofs.YtkclojakmhipnaaDoor.Pure
open Go.RowKit Go.Proofs.YtkclojakmhipnaaDoor.H Go.Proofs.YtkclojakmhipnaaDoor.PA Go.Proofs.YtkclojakmhipnaaDoor.PC Go.Proofs.YtkclojakmhipnaaDoorW.PrintWords Go.Proofs.YtkclojakmhipnaaDoorW.PrintLast Go.Proofs.YtkclojakmhipnaaDoorW.PrintMore
theorem TagGood (m : ByteArray) (l : List S53) (hm : m.size ≤ 140737488351232) (hW : Within 140737488351232 l) (hl : l.length ≤ 140737488351232) : ∃ k, tidemilllaw02_TagGood.f k m l = some true := by
  refine ⟨1000000000000000 + 1, ?_⟩
  unfold tidemilllaw02_TagGood.f
  rw [awake02, Option.bind_some, if_pos rfl]
  have hfew : tidemilllaw02_few.f m l = some (decide (l.length ≤ 20) && decide (m.size ≤ 200)) := by
    unfold tidemilllaw02_few.f
    have e1 : decide ((m.size : Int) ≤ 200) = decide (m.size ≤ 200) := by rw [decide_eq_decide]; omega
    rw [e1]
    by_cases h : l.length ≤ 20
    · rw [if_pos (by omega), decide_eq_true h, Bool.true_and]
    · rw [if_neg (by omega), decide_eq_false h, Bool.false_and]
  rw [hfew, Option.bind_some]
  simp only [tidemilllaw02_TagGood.j0]
  by_cases h : (decide (l.length ≤ 20) && decide (m.size ≤ 200)) = true
  · rw [h, if_neg (by decide), refGood_eq m l 140737488351232 (by decide) hm (by omega) hW _ (by omega), Option.bind_some, tagGood_eq m l 140737488351232 (by decide) hm (by omega) hW _ (by omega), Option.bind_some]
    by_cases hg : goodB m l = true
    · have hs := good_short hg
      rw [if_neg (by simp), if_pos hg, tagText_good hg, Option.bind_some, tagRead_eq _ 60000 (by decide) (text_size hg) _ (by decide), Option.bind_some, refText_good hg, Option.bind_some, if_pos rfl, read_text hg]
      simp only []
      rw [if_pos trivial, same_self m l (by omega) _ (by omega)]
      rfl
    · rw [if_neg (by simp), if_neg hg]
  · rw [if_pos (by rw [Bool.eq_false_iff.2 h]; rfl), awake02]
    rfl
end Go.Proofs.YtkclojakmhipnaaDoor.Pure
