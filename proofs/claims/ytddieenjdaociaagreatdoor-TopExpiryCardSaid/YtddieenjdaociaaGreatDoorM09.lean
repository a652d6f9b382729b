/- strings.Builder at this dump, one that the call itself has made: a byte written behind its text, and its text; a block that lies between the builder and its row stays as it was. The walk of request.Quote. -/
import Derived.Test.YtddieenjdaociaaGreatDoorRqXZ
import Derived.Shelf.Strings.Builder1
namespace Go.Proofs.YtddieenjdaociaaGreatDoor
open Go Go.RowKit Go.Proofs
set_option linter.unusedVariables false

def wby_ren : Go.Shelf.Ren := ⟨fun | 167 => 63 | 240 => 97 | 276 => 127 | n => n,
  fun | 0 => 0 | 4 => 4 | 5 => 5 | 9 => 9 | 20 => 20 | 37 => 129 | 70 => 128 | 72 => 131 | 75 => 134 | 164 => 199 | 80 => 122 | n => n, fun | n => n⟩
theorem wby_lays : Lays.n167 Tryz.prog wby_ren := {
  mixed := by kernel_rfl
  f167 := Tryz.func63.trans (congrArg some (by kernel_rfl))
  f240 := Tryz.func97.trans (congrArg some (by kernel_rfl))
  f276 := Tryz.func127.trans (congrArg some (by kernel_rfl))
  t0 := Tryz.underlying0
  a0 := Tryz.isAgg0
  z0 := Tryz.sizeOf0
  v0 := Tryz.zeroValue0
  t4 := Tryz.underlying4
  a4 := Tryz.isAgg4
  z4 := Tryz.sizeOf4
  v4 := Tryz.zeroValue4
  t5 := Tryz.underlying5
  a5 := Tryz.isAgg5
  z5 := Tryz.sizeOf5
  v5 := Tryz.zeroValue5
  t9 := Tryz.underlying9
  a9 := Tryz.isAgg9
  z9 := Tryz.sizeOf9
  v9 := Tryz.zeroValue9
  t20 := Tryz.underlying20
  a20 := Tryz.isAgg20
  z20 := Tryz.sizeOf20
  v20 := Tryz.zeroValue20
  t37 := Tryz.underlying129
  a37 := Tryz.isAgg129
  z37 := Tryz.sizeOf129
  v37 := Tryz.zeroValue129
  t70 := Tryz.underlying128
  a70 := Tryz.isAgg128
  z70 := Tryz.sizeOf128
  v70 := Tryz.zeroValue128
  t72 := Tryz.underlying131
  a72 := Tryz.isAgg131
  z72 := Tryz.sizeOf131
  v72 := Tryz.zeroValue131
  t75 := Tryz.underlying134
  a75 := Tryz.isAgg134
  z75 := Tryz.sizeOf134
  v75 := Tryz.zeroValue134
  t164 := Tryz.underlying199
  a164 := Tryz.isAgg199
  z164 := Tryz.sizeOf199
  v164 := Tryz.zeroValue199 }
def bst_ren : Go.Shelf.Ren := ⟨fun | 169 => 64 | n => n,
  fun | 0 => 0 | 3 => 3 | 9 => 9 | 37 => 129 | 70 => 128 | 72 => 131 | 127 => 172 | 5 => 5 | n => n, fun | n => n⟩
theorem bst_lays : Lays.n169 Tryz.prog bst_ren := {
  mixed := by kernel_rfl
  f169 := Tryz.func64.trans (congrArg some (by kernel_rfl))
  t0 := Tryz.underlying0
  a0 := Tryz.isAgg0
  z0 := Tryz.sizeOf0
  v0 := Tryz.zeroValue0
  t3 := Tryz.underlying3
  a3 := Tryz.isAgg3
  z3 := Tryz.sizeOf3
  v3 := Tryz.zeroValue3
  t9 := Tryz.underlying9
  a9 := Tryz.isAgg9
  z9 := Tryz.sizeOf9
  v9 := Tryz.zeroValue9
  t37 := Tryz.underlying129
  a37 := Tryz.isAgg129
  z37 := Tryz.sizeOf129
  v37 := Tryz.zeroValue129
  t70 := Tryz.underlying128
  a70 := Tryz.isAgg128
  z70 := Tryz.sizeOf128
  v70 := Tryz.zeroValue128
  t72 := Tryz.underlying131
  a72 := Tryz.isAgg131
  z72 := Tryz.sizeOf131
  v72 := Tryz.zeroValue131
  t127 := Tryz.underlying172
  a127 := Tryz.isAgg172
  z127 := Tryz.sizeOf172
  v127 := Tryz.zeroValue172 }
theorem wby_extra : Builder.Extra Tryz.prog wby_ren := {
  sizeBuilder := by kernel_rfl
  liesBuilder := by kernel_rfl
  t5 := Tryz.underlying5
  a5 := Tryz.isAgg5
  z5 := Tryz.sizeOf5
  v5 := Tryz.zeroValue5
  infoByte := by kernel_rfl
  cellsByte := by kernel_rfl
  sizeByte := by kernel_rfl
  neB5 := by decide }
theorem bst_extra : Builder.Extra Tryz.prog bst_ren := {
  sizeBuilder := by kernel_rfl
  liesBuilder := by kernel_rfl
  t5 := Tryz.underlying5
  a5 := Tryz.isAgg5
  z5 := Tryz.sizeOf5
  v5 := Tryz.zeroValue5
  infoByte := by kernel_rfl
  cellsByte := by kernel_rfl
  sizeByte := by kernel_rfl
  neB5 := by decide }
theorem cell_heap {w w' : World} {d : Nat} (h : w'.heap[d]? = w.heap[d]?) (j : Nat) : w'.cell? ⟨d, j, none⟩ = w.cell? ⟨d, j, none⟩ := by
  unfold World.cell?
  simp only
  rw [h]
/-- The builder's state: its own address or none, and its row, which lies behind block d. -/
def Bd (w : World) (b d : Nat) (out : List UInt8) : Prop :=
  ∃ p v, (p = .pointer none ∨ p = .pointer (some ⟨b, 0, none⟩)) ∧ Bk w b 131 #[p, v] ∧ w.ownsRow (d + 1) 5 1 v out.length (bys out)
theorem Bd.builder {w : World} {b d : Nat} {out : List UInt8} (h : Bd w b d out) (hbd : b < d) : Lib.IsBuilder 131 5 b b (bys out) w := by
  obtain ⟨p, v, hp, hb, ho⟩ := h
  have hne : v.ownBlock ≠ some b := fun e => by have := (ho.lt _ e).1; omega
  rcases hp with rfl | rfl
  · exact .inl ⟨Nat.le_refl _, v, hb, by rw [bys_length]; exact own_low ho (by omega), hne⟩
  · exact .inr ⟨Nat.le_refl _, v, hb, by rw [bys_length]; exact own_low ho (by omega), hne⟩
/-- What the call leaves of the worlds below: all but the builder's own block. -/
def Kp (w : World) (b d : Nat) (w' : World) : Prop := Below b w w' ∧ (∀ i, i ≤ d → i ≠ b → w'.heap[i]? = w.heap[i]?) ∧ d < w'.heap.size
theorem Kp.trans {w w' w'' : World} {b d : Nat} (h : Kp w b d w') (k : Kp w' b d w'') : Kp w b d w'' :=
  ⟨h.1.trans k.1, fun i h1 h2 => (k.2.1 i h1 h2).trans (h.2.1 i h1 h2), k.2.2⟩
set_option maxHeartbeats 2000000 in
theorem cc_any (b d : Nat) (out : List UInt8) (w : World) (h : Bd w b d out) (hbd : b < d) (hd : d < w.heap.size) :
    Calls Tryz.prog 97 #[.pointer (some ⟨b, 0, none⟩)] w fun e w' => e = .returned (.tuple #[]) ∧ (∃ v, Bk w' b 131 #[.pointer (some ⟨b, 0, none⟩), v] ∧ w'.ownsRow (d + 1) 5 1 v out.length (bys out)) ∧ Kp w b d w' := by
  have hbu := h.builder hbd
  obtain ⟨p, v, hp, hb, ho⟩ := h
  rcases hp with rfl | rfl
  · have hb1 : Lib.BuilderAt 131 5 b b (.pointer none) (bys out) w := ⟨Nat.le_refl _, v, hb, by rw [bys_length]; exact own_low ho (by omega), fun e => by have := (ho.lt _ e).1; omega⟩
    refine (Any.Builder_copyCheck_fresh (P := Tryz.prog) (ρ := wby_ren) { wby_lays with } wby_extra.toX72 b w hb1.cell0 hb1.shape hb1.frozen0).mono ?_
    rintro e w' ⟨rfl, rfl⟩
    refine ⟨rfl, ⟨v, hb.set_ 0 _, ownsRow_setCell_below ho (a := ⟨b, 0, none⟩) (by show b < _; omega) _⟩, (Below.refl b w).setCell (p := ⟨b, 0, none⟩) (Nat.le_refl _) _, fun i h1 h2 => Below.heap_setCell w _ _ i h2, by simpa using hd⟩
  · have hc0 : w.cell? ⟨b, 0, none⟩ = some (.pointer (some ⟨b, 0, none⟩)) := hb.cell 0
    refine (Any.Builder_copyCheck_used (P := Tryz.prog) (ρ := wby_ren) { wby_lays with } wby_extra.toX72 b w hc0).mono ?_
    rintro e w' ⟨rfl, rfl⟩
    exact ⟨rfl, ⟨v, hb, ho⟩, Below.refl b _, fun i _ _ => rfl, hd⟩
set_option maxHeartbeats 4000000 in
set_option maxRecDepth 100000 in
theorem wb_any (b d : Nat) (out : List UInt8) (c : UInt8) (w : World) (h : Bd w b d out) (hbd : b < d) (hd : d < w.heap.size) (hlen : out.length + 1 ≤ 140737488355328) :
    Calls Tryz.prog 63 #[.pointer (some ⟨b, 0, none⟩), .int .u8 (c.toNat : Int)] w fun e w' => e = .returned .nilIface ∧ Bd w' b d (out ++ [c]) ∧ Kp w b d w' := by
  have HCC := Lib.hid (cc_any b d out w h hbd hd)
  clear h
  go_enter Tryz.func63, Tryz.ntmps63
  go_wp2_with fail
  refine HCC.out.mono ?_
  rintro e w1 ⟨rfl, ⟨v, hb, ho⟩, hk⟩
  have c0 : w1.cell? ⟨b, 0, none⟩ = some (.pointer (some ⟨b, 0, none⟩)) := hb.cell 0
  have c1 : w1.cell? ⟨b, 1, none⟩ = some v := hb.cell 1
  have hd1 := hk.2.2
  have HB := Lib.hid hb; have HO := Lib.hid ho; have HK := Lib.hid hk
  clear hb ho hk
  go_wp2_with (at_builtin; refine app_byte (by rfl) _ _ rfl (base := d + 1) rfl (HO.out.alloc _) rfl (rd_one_u8 (z := w1.heap.size) rfl c) hlen (by simp; omega) ?_)
  intro A2 c2 w2 ho2 hg2 _
  have hne : some b ≠ v.ownBlock := fun e => by have := (HO.out.lt _ e.symm).1; omega
  have hb2 := (HB.out.alloc (.cells #[.int .u8 (c.toNat : Int)] 5)).grown hg2 hne
  have d0 : w2.cell? ⟨b, 0, none⟩ = some (.pointer (some ⟨b, 0, none⟩)) := hb2.cell 0
  have d1 : w2.cell? ⟨b, 1, none⟩ = some v := hb2.cell 1
  have f1 : w2.frozen? ⟨b, 1, none⟩ = false := hb2.frozen 1
  have hkeep : Kp w b d (w2.setCell ⟨b, 1, none⟩ (.slice A2 (out.length + 1) c2)) := by
    refine HK.out.trans ⟨?_, fun i h1 h2 => ?_, ?_⟩
    · exact (((Below.refl b w1).alloc (by omega) _).grown hg2 (by simp; omega) (fun q hq => by have := (HO.out.lt q hq).1; omega)).setCell (p := ⟨b, 1, none⟩) (Nat.le_refl _) _
    · rw [Below.heap_setCell w2 _ _ i h2, hg2.block i (by simp; omega) (fun e => by have := (HO.out.lt _ e.symm).1; omega)]
      exact Below.heap_alloc w1 _ i (by omega)
    · have := hg2.size; simp at this ⊢; omega
  have HKK := Lib.hid hkeep; have HO2 := Lib.hid ho2; have HB2 := Lib.hid hb2
  clear ho2 hg2 hne hb2 hkeep
  go_wp2
  go_ret
  refine ⟨rfl, ⟨_, _, .inr rfl, HB2.out.set_ 1 _, ?_⟩, HKK.out⟩
  have := ownsRow_setCell_below HO2.out (a := ⟨b, 1, none⟩) (by show b < _; omega) (.slice A2 (out.length + 1) c2)
  simpa using this
theorem bstr_any (b d : Nat) (out : List UInt8) (w : World) (h : Bd w b d out) (hbd : b < d) (hd : d < w.heap.size) :
    Calls Tryz.prog 64 #[.pointer (some ⟨b, 0, none⟩)] w fun e w' => e = .returned (.string (str out)) ∧ Below b w w' :=
  Any.Builder_String_any bst_lays bst_extra b b out w (h.builder hbd) (by omega)
end Go.Proofs.YtddieenjdaociaaGreatDoor
namespace Go.Proofs.YtddieenjdaociaaGreatDoor
open Go Go.RowKit
set_option linter.unusedVariables false

theorem quote_ne {l : List UInt8} (h : l ≠ []) : Rq.quote l = Rq.qs l := by unfold Rq.quote; rw [if_neg h]
theorem Bd.past {w w' : World} {b d : Nat} {out : List UInt8} (h : Bd w b d out) (hb : Below w.heap.size w w') : Bd w' b d out := by
  obtain ⟨p, v, hp, hk, ho⟩ := h
  exact ⟨p, v, hp, hk.below hb hk.lt, own_past ho hb⟩
theorem hd_get (n : Nat) (h : n < (⟨#[48, 49, 50, 51, 52, 53, 54, 55, 56, 57, 65, 66, 67, 68, 69, 70]⟩ : ByteArray).size) : (⟨#[48, 49, 50, 51, 52, 53, 54, 55, 56, 57, 65, 66, 67, 68, 69, 70]⟩ : ByteArray)[n] = Rq.hd n := by
  have : ∀ i : Fin 16, (⟨#[48, 49, 50, 51, 52, 53, 54, 55, 56, 57, 65, 66, 67, 68, 69, 70]⟩ : ByteArray)[i.val]'(by exact i.isLt) = Rq.hd i.val := by decide
  exact this ⟨n, h⟩
set_option maxRecDepth 100000 in
set_option maxHeartbeats 8000000 in
theorem quote_any (s : ByteArray) (hs : s.size ≤ 35184372088832) (w : World) : Calls Tryz.prog 35 #[.string s] w fun e w' => e = .returned (.string (str (Rq.quote (lst s)))) ∧ Below w.heap.size w w' := by
  by_cases h0 : lst s = []
  · have hs0 : s = ⟨#[]⟩ := by rw [← str_lst s, h0]; rfl
    subst hs0
    go_enter Tryz.func35, Tryz.ntmps35
    go_wp2
    go_ret
    exact ⟨rfl, Below.refl _ _⟩
  have hse : s.toList.isEmpty = false := by rw [← str_lst s]; exact str_ne h0
  have HQ := Lib.hid (quote_ne h0)
  clear h0
  obtain ⟨cc, w2, hcv, hbl2, hsz2, hcc, hcells, hfz⟩ := conv_bytes s (w.alloc (.cells #[.pointer none, .slice none 0 0] 131))
  have hsz1 : (w.alloc (.cells #[.pointer none, .slice none 0 0] 131)).heap.size = w.heap.size + 1 := by simp
  rw [hsz1] at hcv hbl2 hsz2 hcells
  have hbd0 : Bd (w.alloc (.cells #[.pointer none, .slice none 0 0] 131)) w.heap.size (w.heap.size + 1) [] := ⟨_, _, .inl rfl, Bk.new _ _ _, World.ownsRow_nil _ _ _ _⟩
  have HBD0 := Lib.hid (hbd0.past (by rw [hsz1]; exact hbl2))
  have HB0 := Lib.hid (((Below.refl w.heap.size w).alloc (Nat.le_refl _) (.cells #[.pointer none, .slice none 0 0] 131)).trans (hbl2.mono (by omega)))
  have HC := Lib.hid hcells
  clear hbl2 hcells hfz hbd0 hsz1
  go_enter Tryz.func35, Tryz.ntmps35
  go_wp2_with fail
  go_loopw [11] (fun vj wr => ∃ j : Nat, j ≤ s.size ∧ vj = .int .i64 j ∧ Bd wr w.heap.size (w.heap.size + 1) (Rq.qs ((lst s).take j)) ∧ Below w.heap.size w wr ∧ wr.heap[w.heap.size + 1]? = w2.heap[w.heap.size + 1]? ∧ w.heap.size + 1 < wr.heap.size) (fun vj _ => s.size - (intOf vj).toNat)
  case atStart => exact ⟨0, by omega, rfl, HBD0.out, HB0.out, rfl, hsz2⟩
  case round =>
    obtain ⟨j, hj, rfl, hbd, hb, hd, hdl⟩ := hrel
    have HBD := Lib.hid hbd; have HB := Lib.hid hb; have HD := Lib.hid hd
    clear hbd hb hd
    by_cases hlt : j < s.size
    · have hat := lst_at s j hlt
      have hc : wr.cell? ⟨w.heap.size + 1, j, none⟩ = some (.int .u8 (s[j].toNat : Int)) := (cell_heap HD.out j).trans (HC.out j _ hat)
      have hqt := Rq.qs_take hat
      have hql := (Rq.qs_len ((lst s).take j)).2
      have htl : ((lst s).take j).length ≤ j := by rw [List.length_take]; omega
      have HQT := Lib.hid hqt
      clear hat hqt
      go_wp2_with fail
      refine (plain_any s[j] _).mono ?_
      rintro e w9 ⟨rfl, rfl⟩
      cases hp : Rq.pl s[j]
      · have hqb : Rq.qb s[j] = [37, Rq.hd (s[j].toNat / 16), Rq.hd (s[j].toNat % 16)] := by unfold Rq.qb; rw [hp]; rfl
        rw [hqb] at HQT
        have hlt := s[j].toNat_lt
        clear hqb hp
        generalize s[j] = y at *
        go_wp2_with fail
        refine (wb_any w.heap.size (w.heap.size + 1) _ 37 _ HBD.out (by omega) hdl (by omega)).mono ?_
        rintro e w4 ⟨rfl, hbd4, hk4⟩
        have HBD4 := Lib.hid hbd4; have HK4 := Lib.hid hk4; have hdl4 := hk4.2.2
        clear hbd4 hk4
        go_wp2_with fail
        rw [hd_get]
        refine (wb_any w.heap.size (w.heap.size + 1) _ _ _ HBD4.out (by omega) hdl4 (by simp; omega)).mono ?_
        rintro e w5 ⟨rfl, hbd5, hk5⟩
        have HBD5 := Lib.hid hbd5; have HK5 := Lib.hid (HK4.out.trans hk5); have hdl5 := hk5.2.2
        clear hbd5 hk5
        go_wp2_with fail
        rw [hd_get]
        refine (wb_any w.heap.size (w.heap.size + 1) _ _ _ HBD5.out (by omega) hdl5 (by simp; omega)).mono ?_
        rintro e w6 ⟨rfl, hbd6, hk6⟩
        have hcat : Rq.qs ((lst s).take j) ++ [37] ++ [Rq.hd (y.toNat / 16)] ++ [Rq.hd (y.toNat % 16)] = Rq.qs ((lst s).take (j + 1)) := by rw [HQT.out]; simp
        rw [hcat] at hbd6
        have HBD6 := Lib.hid hbd6; have HK6 := Lib.hid (HK5.out.trans hk6)
        clear hbd6 hk6 hcat
        go_wp2
        go_roundw
        case rel => exact ⟨j + 1, by omega, by go_num, HBD6.out, HB.out.trans HK6.out.1, (HK6.out.2.1 _ (Nat.le_refl _) (by omega)).trans HD.out, HK6.out.2.2⟩
        case measure => simp [intOf]; omega
      · have hqb : Rq.qb s[j] = [s[j]] := by unfold Rq.qb; rw [hp]; rfl
        rw [hqb] at HQT
        clear hqb hp
        go_wp2_with fail
        refine (wb_any w.heap.size (w.heap.size + 1) _ s[j] _ HBD.out (by omega) hdl (by omega)).mono ?_
        rintro e w4 ⟨rfl, hbd4, hk4⟩
        have HBD4 := Lib.hid hbd4; have HK4 := Lib.hid hk4
        clear hbd4 hk4
        go_wp2
        go_roundw
        case rel => exact ⟨j + 1, by omega, by go_num, by rw [HQT.out]; exact HBD4.out, HB.out.trans HK4.out.1, (HK4.out.2.1 _ (Nat.le_refl _) (by omega)).trans HD.out, HK4.out.2.2⟩
        case measure => simp [intOf]; omega
    · have hjn : j = s.size := by omega
      have htk : (lst s).take j = lst s := by rw [hjn, ← lst_length, List.take_length]
      rw [htk] at HBD
      clear hjn htk
      go_wp2_with fail
      refine (bstr_any w.heap.size (w.heap.size + 1) _ _ HBD.out (by omega) hdl).mono ?_
      rintro e w4 ⟨rfl, hb4⟩
      have HB4 := Lib.hid (HB.out.trans hb4)
      clear hb4
      go_wp2
      go_ret
      exact ⟨by rw [HQ.out]; rfl, HB4.out⟩
end Go.Proofs.YtddieenjdaociaaGreatDoor
