/- Labels: what Encode writes for a list of the table, Decode reads back. Plain lists, no program in sight. -/
import Derived.Test.YtoihjbiahccaaaaAlUn
import Derived.Test.YtoihjbiahccaaaaAlWd
namespace Go.Proofs.Ytoihjbiahccaaaa
open Go Go.RowKit
set_option linter.unusedVariables false

theorem enc_chars (l : List Int) (hs : l.all Pn.scalar = true) (hc : ∀ c ∈ l, ¬ (65 ≤ c ∧ c ≤ 90)) : ∀ b ∈ Pn.enc l, b.toNat < 128 ∧ ¬ (65 ≤ b.toNat ∧ b.toNat ≤ 90) := by
  intro b hb
  unfold Pn.enc Pn.front at hb
  rw [List.mem_append, List.mem_append] at hb
  rcases hb with (hb | hb) | hb
  · obtain ⟨c, h1, rfl⟩ := List.mem_map.1 hb
    unfold Pn.basics at h1
    rw [List.mem_filter] at h1
    have h2 := of_decide_eq_true h1.2
    have h3 := (Pn.scalar_bd (List.all_eq_true.1 hs c h1.1)).1
    have h4 := Pn.byte_num c h3 (by omega)
    have h5 := hc c h1.1
    omega
  · split at hb
    · cases hb
    · rw [List.mem_singleton.1 hb]; decide
  · obtain ⟨d, h1, rfl⟩ := List.mem_map.1 hb
    obtain ⟨h2, h3⟩ := Pn.tl_bd l l.length 128 0 (Pn.st0 l) (Pn.left_le _ _ _) (Pn.inv_start l) d h1
    have := Pn.dgt_low d h2 h3
    omega
theorem low_same {L : List UInt8} (h : ∀ b ∈ L, ¬ (65 ≤ b.toNat ∧ b.toNat ≤ 90)) : Al.low L = L := by
  unfold Al.low
  conv => rhs; rw [← List.map_id L]
  exact List.map_congr_left (fun b hb => Al.lb_else (h b hb))
theorem ascii_of {L : List UInt8} (h : ∀ b ∈ L, b.toNat < 128) : Pn.ascii L = true := by
  unfold Pn.ascii
  rw [List.all_eq_true]
  intro b hb
  simpa using h b hb
theorem lb_dash {b : UInt8} (h : Al.lb b = 45) : b = 45 := by
  have H : ∀ n : Fin 256, Al.lb (UInt8.ofNat n.1) = 45 → UInt8.ofNat n.1 = 45 := by decide +kernel
  have := H ⟨b.toNat, b.toNat_lt⟩
  simp only [UInt8.ofNat_toNat] at this
  exact this h
theorem isX_nodash {L : List UInt8} (h : (45 : UInt8) ∉ L) : Al.isX L = false := by
  unfold Al.isX
  rw [Bool.and_eq_false_iff]
  right
  apply decide_eq_false
  intro e
  have h45 : (45 : UInt8) ∈ Al.low (L.take 4) := by rw [e]; decide
  unfold Al.low at h45
  obtain ⟨b, hb, hb2⟩ := List.mem_map.1 h45
  exact h (lb_dash hb2 ▸ List.mem_of_mem_take hb)
theorem Al.pts_puny {L : List UInt8} {p : List Int} (h0 : ¬ L.length = 0) (h1 : Pn.ascii L = true) (h2 : ¬ 63 < L.length) (h3 : Al.isX L = true) (hd : Pn.decP (Al.low (L.drop 4)) = (p, 0)) (ha : Al.ascii p = false) (hl : Al.lab p = (Al.low L, 0)) :
    Al.pts L = (p, 0) := by
  unfold Al.pts
  rw [if_neg h0, if_pos h1, if_neg h2, if_pos h3, hd]
  simp only
  rw [if_pos trivial, ha, if_neg (by simp), hl, if_pos ⟨rfl, rfl⟩]
theorem Al.back {p : List Int} (hs : p.all Pn.scalar = true) (hc : ∀ c ∈ p, ¬ (65 ≤ c ∧ c ≤ 90) ∧ c ≠ 45) (h0 : ¬ p.length = 0) (h1 : p.length ≤ 63) :
    Al.lab p = ([], 11) ∨ ∃ L, Al.lab p = (L, 0) ∧ Al.pts L = (p, 0) ∧ 1 ≤ L.length ∧ L.length ≤ 63 := by
  cases ha : Al.ascii p
  · have he : Pn.encP p = (Pn.enc p, 0) := by unfold Pn.encP; rw [if_neg (by omega), if_pos hs]
    have hl := Al.lab_puny h0 ha (by rw [he])
    rw [he] at hl
    have hl' : Al.lab p = if 63 < 4 + (Pn.enc p).length then ([], 11) else ([120, 110, 45, 45] ++ Pn.enc p, 0) := hl
    by_cases h63 : 63 < 4 + (Pn.enc p).length
    · rw [if_pos h63] at hl'; exact .inl hl'
    · rw [if_neg h63] at hl'
      right
      have hch := enc_chars p hs (fun c h => (hc c h).1)
      have hlow : Al.low ([120, 110, 45, 45] ++ Pn.enc p) = [120, 110, 45, 45] ++ Pn.enc p := low_same (fun b hb => by
        rcases List.mem_append.1 hb with h | h
        · simp at h; rcases h with rfl | rfl | rfl <;> decide
        · exact (hch b h).2)
      refine ⟨_, hl', ?_, by simp <;> omega, by simp <;> omega⟩
      refine Al.pts_puny (by simp) (ascii_of (fun b hb => by
        rcases List.mem_append.1 hb with h | h
        · simp at h; rcases h with rfl | rfl | rfl <;> decide
        · exact (hch b h).1)) (by simp <;> omega) (Al.isX_xn _) ?_ ha (by rw [hl', hlow])
      have hdr : ([120, 110, 45, 45] ++ Pn.enc p).drop 4 = Pn.enc p := rfl
      rw [hdr, low_same (fun b hb => (hch b hb).2)]
      exact Pn.decP_back p hs (by omega) (by omega)
  · right
    have hb : Pn.basics p = p := by
      unfold Pn.basics
      rw [List.filter_eq_self]
      intro c hcp
      have := List.all_eq_true.1 ha c hcp
      simp at this ⊢; omega
    have hnf := Pn.nums_front p hs
    rw [hb] at hnf
    refine ⟨p.map Pn.byte, by rw [Al.lab_asc h0 ha, if_neg (by omega)], ?_, by simp <;> omega, by simp <;> omega⟩
    unfold Al.pts
    rw [if_neg (by simpa using h0), if_pos hnf.2, if_neg (by simp <;> omega), isX_nodash, if_neg (by simp), hnf.1]
    intro hm
    obtain ⟨c, h2, h3⟩ := List.mem_map.1 hm
    have h4 := List.all_eq_true.1 ha c h2
    simp at h4
    have h5 := Pn.byte_num c h4.1 (by omega)
    rw [h3] at h5
    exact (hc c h2).2 (by rw [← h5]; rfl)
theorem wt_ok : ∀ u ∈ Al.wt, Pn.scalar u = true ∧ ¬ (65 ≤ u ∧ u ≤ 90) ∧ u ≠ 45 := by decide +kernel
end Go.Proofs.Ytoihjbiahccaaaa
