/- A machine's Step: read. -/
import Derived.Test.YtddieenjdaociaaGreatDoorM17
import Derived.Deep.AppendLies
import Derived.Deep.RegionLaw
namespace Go.Proofs.YtddieenjdaociaaGreatDoor
open Go Go.RowKit Go.Shelf
set_option linter.unusedVariables false

theorem step_app_rc {ops : Array Oper} {o : Oper} {a : Act} {w : World} {K : Act → World → Prop} {Q : Exit → Act → World → Prop} {E : Prop} (hgd : o.guard = none) (s x : Operand)
    (ho : o.op = .call { callee := .builtin .append, args := #[s, x], argTypes := #[78, 78] })
    {base z c : Nat} {r : Rc} (hs : a.eval s = .slice none 0 0) (hx : a.eval x = .slice (some ⟨z, 0, none⟩) 1 c) (hb : Bk w z 38 (rcA r.st r.ow r.nm r.dl)) (hbase : base ≤ w.heap.size)
    (h : ∀ g cap w', w'.ownsRow base 38 4 (.slice (some ⟨g, 0, none⟩) 1 cap) 1 (rcC [r]) → Below w.heap.size w w' → K (a.put o.dst (.slice (some ⟨g, 0, none⟩) 1 cap)) w') :
    if Region.wanted o (yielded ops a.tmps) = true then Oper.wp Tryz.prog o a w K Q else E := by
  obtain ⟨i0, hi, hz0, hz1, hz2⟩ := info_parts info_rcd
  refine step_append_lies w hgd s x 78 ho base _ i0 _ 4 40 Tryz.underlying78 hi hz0 hz1 hz2 rfl (by decide) (.slice none 0 0) 0 [] hs (World.ownsRow_nil _ _ _ _) ⟨z, 0, none⟩ 1 c (rcC [r]) hx (by simp [rcC, Rc.cells])
    ?_ (rcC_one _) (by omega) (by unfold maxLen; omega) (by omega) hbase w.heap.size rfl ?_
  · have := World.news_of_block hb
    simpa [rcC, Rc.cells] using this
  · intro g cap w' h1 h2 _ _
    exact h g cap w' (by simpa using h1) ((Below.refl _ _).grown h2 (Nat.le_refl _) (fun k hk => by cases hk))
section
variable {g s lk st ls lo ss sr q B : Nat} {n lim now cnt : Int} {cl ph : Int} {tx : ByteArray} {op ttl : Int} {cq cr : Nat} {p : Rs} {x : Nm} {w : World} {S : List Slt} {R : List Rc} {u : Nat}
set_option maxRecDepth 100000 in
set_option maxHeartbeats 8000000 in
theorem step_read {r : Rc} (h : MAt w g cl 3 tx op ttl (.slice (some ⟨q, 0, none⟩) 1 cq) 0 (.slice none 0 0) p) (hs : SAt w s n lim now cnt lk st) (ht : StAt w st ss sr 16 S R u) (hr : getS S R x.k = r)
    (z : Nat) (hz : z < 16) (hfree : ∀ s, S[z]? = some s → s.u = false) (hk : x.k.size ≤ 1000000) (hn : Rd w B 3 (some ⟨q, 0, none⟩) 1 (nmsC [x])) :
    Calls Tryz.prog 26 #[.pointer (some ⟨g, 0, none⟩), .pointer (some ⟨s, 0, none⟩)] w fun e w' => ∃ b c, e = .returned (.int .i64 1) ∧ MAt w' g cl 4 tx op ttl (.slice (some ⟨q, 0, none⟩) 1 cq) 0 (.slice (some ⟨b, 0, none⟩) 1 c) p ∧
      w'.ownsRow w.heap.size 38 4 (.slice (some ⟨b, 0, none⟩) 1 c) 1 (rcC [r]) ∧ Oth [g] w w' := by
  have x0 := hs.c5; have x1 := h.crv; have x3 := h.cph
  have f1 := h.fr 19
  have hgl := h.lt; have hsl := hs.lt
  have HM := Lib.hid h; have HS := Lib.hid hs; have HT := Lib.hid ht; have HN := Lib.hid hn
  have HG := Lib.hid (fun w' (h : StAt w' st ss sr 16 S R u) => get_any st ss sr 16 u S R x.k w' h (by omega) (by omega) hk z hz hfree)
  rw [hr] at HG
  clear h hs ht hn
  go_enter Tryz.func26, Tryz.ntmps26
  go_wp2_with fail
  go_region_law (first
      | (go_simp; go_at_call 52; refine (key_any (show MAt w.drew g cl 3 tx op ttl (.slice (some ⟨q, 0, none⟩) 1 cq) 0 (.slice none 0 0) p from HM.out) (show Rd w.drew B 3 (some ⟨q, 0, none⟩) 1 (nmsC [x]) from HN.out)).mono ?_; rintro e w1 ⟨rfl, m, rfl⟩)
      | (go_simp; go_at_call 54; refine (HG.out _ (HT.out.drewN _)).mono ?_; rintro e w3 ⟨rfl, hb3⟩; have hz3 : w.heap.size ≤ w3.heap.size := hb3.size; have hg3 : g < w3.heap.size := Nat.lt_of_lt_of_le hgl hz3; have x13 := (hb3.cell (p := ⟨g, 19, none⟩) hgl).trans x1; have f13 := (hb3.frozen (p := ⟨g, 19, none⟩) hgl).trans f1; have x03 := (hb3.cell (p := ⟨s, 5, none⟩) hsl).trans x0; have x1a := (World.cell?_alloc_lt w3 (.cells (rcA r.st r.ow r.nm r.dl) 38) ⟨g, 19, none⟩ hg3).trans x13; simp only [Rc.arr])
      | (refine step_app_rc rfl (.tmp 35) (.tmp 43) rfl (base := w.heap.size) (r := r) rfl rfl (Bk.new w3 _ _) (Nat.le_trans hz3 (by simp)) ?_; intro a1 cap1 w5 ho5 hb5; have hb5' : Below w3.heap.size w3 w5 := (((Below.refl w3.heap.size w3).alloc (Nat.le_refl _) (.cells (rcA r.st r.ow r.nm r.dl) 38)).trans (hb5.mono (by simp))); have x15 := (hb5'.cell (p := ⟨g, 19, none⟩) hg3).trans x13; have f15 := (hb5'.frozen (p := ⟨g, 19, none⟩) hg3).trans f13))
  all_goals
    have ho35 : Oth [g] w w5 := (((Oth.refl [g] w).drewN (1 + m)).trans (Oth.below hb3 (Nat.le_refl _))).trans (Oth.below hb5' (Nat.le_refl _))
    have HM5 := Lib.hid ((((show MAt (w.drewN (1 + m)) g cl 3 tx op ttl (.slice (some ⟨q, 0, none⟩) 1 cq) 0 (.slice none 0 0) p from HM.out).below hb3 hgl).below hb5' hg3).srv (.slice (some ⟨a1, 0, none⟩) 1 cap1))
    have HO5 := Lib.hid (ownsRow_setCell_below ho5 (a := ⟨g, 19, none⟩) hgl (.slice (some ⟨a1, 0, none⟩) 1 cap1))
    have HW5 := Lib.hid (ho35.setCell (p := ⟨g, 19, none⟩) (.inl (by simp)) (.slice (some ⟨a1, 0, none⟩) 1 cap1))
    generalize hw6 : w5.setCell ⟨g, 19, none⟩ (.slice (some ⟨a1, 0, none⟩) 1 cap1) = w6 at *
    clear hw6 ho35 hb3 hb5 hb5' ho5 x0 x1 x3 f1 x13 f13 x03 x1a x15 f15
    go_wp2_with fail
    refine (next_last 4 HM5.out rfl (by omega) (by omega)).mono ?_
    rintro e w7 ⟨rfl, hm7, ho7⟩
    have HM7 := Lib.hid hm7
    have HO7 := Lib.hid (own_oth HO5.out ho7 (by intro i hi; simp at hi; subst hi; exact hgl))
    have HW7 := Lib.hid (HW5.out.trans ho7)
    clear hm7 ho7
    go_wp2_with fail
    go_ret
    exact ⟨a1, cap1, rfl, HM7.out, HO7.out, HW7.out⟩
end
end Go.Proofs.YtddieenjdaociaaGreatDoor
