/- strings.Builder at this dump, one that the call itself has made: a byte written behind its text, and its text; a block that lies between the builder and its row stays as it was. -/
import Derived.Test.YtgidnkodgdoijaaDoorRqX
import Derived.Shelf.Strings.Builder1
namespace Go.Proofs.YtgidnkodgdoijaaDoor
open Go Go.RowKit Go.Proofs
set_option linter.unusedVariables false

def wby_ren : Go.Shelf.Ren := ⟨fun | 167 => 35 | 240 => 42 | 276 => 49 | n => n,
  fun | 0 => 0 | 4 => 4 | 5 => 5 | 9 => 9 | 20 => 20 | 37 => 43 | 70 => 63 | 72 => 65 | 75 => 68 | 164 => 84 | 80 => 70 | n => n, fun | n => n⟩
theorem wby_lays : Lays.n167 Tryd.prog wby_ren := {
  mixed := by kernel_rfl
  f167 := Tryd.func35.trans (congrArg some (by kernel_rfl))
  f240 := Tryd.func42.trans (congrArg some (by kernel_rfl))
  f276 := Tryd.func49.trans (congrArg some (by kernel_rfl))
  t0 := Tryd.underlying0
  a0 := Tryd.isAgg0
  z0 := Tryd.sizeOf0
  v0 := Tryd.zeroValue0
  t4 := Tryd.underlying4
  a4 := Tryd.isAgg4
  z4 := Tryd.sizeOf4
  v4 := Tryd.zeroValue4
  t5 := Tryd.underlying5
  a5 := Tryd.isAgg5
  z5 := Tryd.sizeOf5
  v5 := Tryd.zeroValue5
  t9 := Tryd.underlying9
  a9 := Tryd.isAgg9
  z9 := Tryd.sizeOf9
  v9 := Tryd.zeroValue9
  t20 := Tryd.underlying20
  a20 := Tryd.isAgg20
  z20 := Tryd.sizeOf20
  v20 := Tryd.zeroValue20
  t37 := Tryd.underlying43
  a37 := Tryd.isAgg43
  z37 := Tryd.sizeOf43
  v37 := Tryd.zeroValue43
  t70 := Tryd.underlying63
  a70 := Tryd.isAgg63
  z70 := Tryd.sizeOf63
  v70 := Tryd.zeroValue63
  t72 := Tryd.underlying65
  a72 := Tryd.isAgg65
  z72 := Tryd.sizeOf65
  v72 := Tryd.zeroValue65
  t75 := Tryd.underlying68
  a75 := Tryd.isAgg68
  z75 := Tryd.sizeOf68
  v75 := Tryd.zeroValue68
  t164 := Tryd.underlying84
  a164 := Tryd.isAgg84
  z164 := Tryd.sizeOf84
  v164 := Tryd.zeroValue84 }
def bst_ren : Go.Shelf.Ren := ⟨fun | 169 => 36 | n => n,
  fun | 0 => 0 | 3 => 3 | 9 => 9 | 37 => 43 | 70 => 63 | 72 => 65 | 127 => 76 | 5 => 5 | n => n, fun | n => n⟩
theorem bst_lays : Lays.n169 Tryd.prog bst_ren := {
  mixed := by kernel_rfl
  f169 := Tryd.func36.trans (congrArg some (by kernel_rfl))
  t0 := Tryd.underlying0
  a0 := Tryd.isAgg0
  z0 := Tryd.sizeOf0
  v0 := Tryd.zeroValue0
  t3 := Tryd.underlying3
  a3 := Tryd.isAgg3
  z3 := Tryd.sizeOf3
  v3 := Tryd.zeroValue3
  t9 := Tryd.underlying9
  a9 := Tryd.isAgg9
  z9 := Tryd.sizeOf9
  v9 := Tryd.zeroValue9
  t37 := Tryd.underlying43
  a37 := Tryd.isAgg43
  z37 := Tryd.sizeOf43
  v37 := Tryd.zeroValue43
  t70 := Tryd.underlying63
  a70 := Tryd.isAgg63
  z70 := Tryd.sizeOf63
  v70 := Tryd.zeroValue63
  t72 := Tryd.underlying65
  a72 := Tryd.isAgg65
  z72 := Tryd.sizeOf65
  v72 := Tryd.zeroValue65
  t127 := Tryd.underlying76
  a127 := Tryd.isAgg76
  z127 := Tryd.sizeOf76
  v127 := Tryd.zeroValue76 }
theorem wby_extra : Builder.Extra Tryd.prog wby_ren := {
  sizeBuilder := by kernel_rfl
  liesBuilder := by kernel_rfl
  t5 := Tryd.underlying5
  a5 := Tryd.isAgg5
  z5 := Tryd.sizeOf5
  v5 := Tryd.zeroValue5
  infoByte := by kernel_rfl
  cellsByte := by kernel_rfl
  sizeByte := by kernel_rfl
  neB5 := by decide }
theorem bst_extra : Builder.Extra Tryd.prog bst_ren := {
  sizeBuilder := by kernel_rfl
  liesBuilder := by kernel_rfl
  t5 := Tryd.underlying5
  a5 := Tryd.isAgg5
  z5 := Tryd.sizeOf5
  v5 := Tryd.zeroValue5
  infoByte := by kernel_rfl
  cellsByte := by kernel_rfl
  sizeByte := by kernel_rfl
  neB5 := by decide }
theorem cell_heap {w w' : World} {d : Nat} (h : w'.heap[d]? = w.heap[d]?) (j : Nat) : w'.cell? ⟨d, j, none⟩ = w.cell? ⟨d, j, none⟩ := by
  unfold World.cell?
  simp only
  rw [h]
/-- The builder's state: its own address or none, and its row, which lies behind block d. -/
def Bd (w : World) (b d : Nat) (out : List UInt8) : Prop :=
  ∃ p v, (p = .pointer none ∨ p = .pointer (some ⟨b, 0, none⟩)) ∧ Bk w b 65 #[p, v] ∧ w.ownsRow (d + 1) 5 1 v out.length (bys out)
theorem Bd.builder {w : World} {b d : Nat} {out : List UInt8} (h : Bd w b d out) (hbd : b < d) : Lib.IsBuilder 65 5 b b (bys out) w := by
  obtain ⟨p, v, hp, hb, ho⟩ := h
  have hne : v.ownBlock ≠ some b := fun e => by have := (ho.lt _ e).1; omega
  rcases hp with rfl | rfl
  · exact .inl ⟨Nat.le_refl _, v, hb, by rw [bys_length]; exact own_low ho (by omega), hne⟩
  · exact .inr ⟨Nat.le_refl _, v, hb, by rw [bys_length]; exact own_low ho (by omega), hne⟩
/-- What the call leaves of the worlds below: all but the builder's own block. -/
def Kp (w : World) (b d : Nat) (w' : World) : Prop := Below b w w' ∧ (∀ i, i ≤ d → i ≠ b → w'.heap[i]? = w.heap[i]?) ∧ d < w'.heap.size
theorem Kp.trans {w w' w'' : World} {b d : Nat} (h : Kp w b d w') (k : Kp w' b d w'') : Kp w b d w'' :=
  ⟨h.1.trans k.1, fun i h1 h2 => (k.2.1 i h1 h2).trans (h.2.1 i h1 h2), k.2.2⟩
set_option maxHeartbeats 2000000 in
theorem cc_any (b d : Nat) (out : List UInt8) (w : World) (h : Bd w b d out) (hbd : b < d) (hd : d < w.heap.size) :
    Calls Tryd.prog 42 #[.pointer (some ⟨b, 0, none⟩)] w fun e w' => e = .returned (.tuple #[]) ∧ (∃ v, Bk w' b 65 #[.pointer (some ⟨b, 0, none⟩), v] ∧ w'.ownsRow (d + 1) 5 1 v out.length (bys out)) ∧ Kp w b d w' := by
  have hbu := h.builder hbd
  obtain ⟨p, v, hp, hb, ho⟩ := h
  rcases hp with rfl | rfl
  · have hb1 : Lib.BuilderAt 65 5 b b (.pointer none) (bys out) w := ⟨Nat.le_refl _, v, hb, by rw [bys_length]; exact own_low ho (by omega), fun e => by have := (ho.lt _ e).1; omega⟩
    refine (Any.Builder_copyCheck_fresh (P := Tryd.prog) (ρ := wby_ren) { wby_lays with } wby_extra.toX72 b w hb1.cell0 hb1.shape hb1.frozen0).mono ?_
    rintro e w' ⟨rfl, rfl⟩
    refine ⟨rfl, ⟨v, hb.set_ 0 _, ownsRow_setCell_below ho (a := ⟨b, 0, none⟩) (by show b < _; omega) _⟩, (Below.refl b w).setCell (p := ⟨b, 0, none⟩) (Nat.le_refl _) _, fun i h1 h2 => Below.heap_setCell w _ _ i h2, by simpa using hd⟩
  · have hc0 : w.cell? ⟨b, 0, none⟩ = some (.pointer (some ⟨b, 0, none⟩)) := hb.cell 0
    refine (Any.Builder_copyCheck_used (P := Tryd.prog) (ρ := wby_ren) { wby_lays with } wby_extra.toX72 b w hc0).mono ?_
    rintro e w' ⟨rfl, rfl⟩
    exact ⟨rfl, ⟨v, hb, ho⟩, Below.refl b _, fun i _ _ => rfl, hd⟩
set_option maxHeartbeats 4000000 in
set_option maxRecDepth 100000 in
theorem wb_any (b d : Nat) (out : List UInt8) (c : UInt8) (w : World) (h : Bd w b d out) (hbd : b < d) (hd : d < w.heap.size) (hlen : out.length + 1 ≤ 140737488355328) :
    Calls Tryd.prog 35 #[.pointer (some ⟨b, 0, none⟩), .int .u8 (c.toNat : Int)] w fun e w' => e = .returned .nilIface ∧ Bd w' b d (out ++ [c]) ∧ Kp w b d w' := by
  have HCC := Lib.hid (cc_any b d out w h hbd hd)
  clear h
  go_enter Tryd.func35, Tryd.ntmps35
  go_wp2_with fail
  refine HCC.out.mono ?_
  rintro e w1 ⟨rfl, ⟨v, hb, ho⟩, hk⟩
  have c0 : w1.cell? ⟨b, 0, none⟩ = some (.pointer (some ⟨b, 0, none⟩)) := hb.cell 0
  have c1 : w1.cell? ⟨b, 1, none⟩ = some v := hb.cell 1
  have hd1 := hk.2.2
  have HB := Lib.hid hb; have HO := Lib.hid ho; have HK := Lib.hid hk
  clear hb ho hk
  go_wp2_with (at_builtin; refine app_byte (by rfl) _ _ rfl (base := d + 1) rfl (HO.out.alloc _) rfl (rd_one_u8 (z := w1.heap.size) rfl c) hlen (by simp; omega) ?_)
  intro A2 c2 w2 ho2 hg2 _
  have hne : some b ≠ v.ownBlock := fun e => by have := (HO.out.lt _ e.symm).1; omega
  have hb2 := (HB.out.alloc (.cells #[.int .u8 (c.toNat : Int)] 5)).grown hg2 hne
  have d0 : w2.cell? ⟨b, 0, none⟩ = some (.pointer (some ⟨b, 0, none⟩)) := hb2.cell 0
  have d1 : w2.cell? ⟨b, 1, none⟩ = some v := hb2.cell 1
  have f1 : w2.frozen? ⟨b, 1, none⟩ = false := hb2.frozen 1
  have hkeep : Kp w b d (w2.setCell ⟨b, 1, none⟩ (.slice A2 (out.length + 1) c2)) := by
    refine HK.out.trans ⟨?_, fun i h1 h2 => ?_, ?_⟩
    · exact (((Below.refl b w1).alloc (by omega) _).grown hg2 (by simp; omega) (fun q hq => by have := (HO.out.lt q hq).1; omega)).setCell (p := ⟨b, 1, none⟩) (Nat.le_refl _) _
    · rw [Below.heap_setCell w2 _ _ i h2, hg2.block i (by simp; omega) (fun e => by have := (HO.out.lt _ e.symm).1; omega)]
      exact Below.heap_alloc w1 _ i (by omega)
    · have := hg2.size; simp at this ⊢; omega
  have HKK := Lib.hid hkeep; have HO2 := Lib.hid ho2; have HB2 := Lib.hid hb2
  clear ho2 hg2 hne hb2 hkeep
  go_wp2
  go_ret
  refine ⟨rfl, ⟨_, _, .inr rfl, HB2.out.set_ 1 _, ?_⟩, HKK.out⟩
  have := ownsRow_setCell_below HO2.out (a := ⟨b, 1, none⟩) (by show b < _; omega) (.slice A2 (out.length + 1) c2)
  simpa using this
theorem bstr_any (b d : Nat) (out : List UInt8) (w : World) (h : Bd w b d out) (hbd : b < d) (hd : d < w.heap.size) :
    Calls Tryd.prog 36 #[.pointer (some ⟨b, 0, none⟩)] w fun e w' => e = .returned (.string (str out)) ∧ Below b w w' :=
  Any.Builder_String_any bst_lays bst_extra b b out w (h.builder hbd) (by omega)
end Go.Proofs.YtgidnkodgdoijaaDoor
