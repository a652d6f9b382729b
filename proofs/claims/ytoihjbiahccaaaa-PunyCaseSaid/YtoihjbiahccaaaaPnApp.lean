/- Appending bytes and numbers to a row of the call's own; the walk of puny.put. -/
import Derived.Test.YtoihjbiahccaaaaAppCore
import Derived.Test.YtoihjbiahccaaaaPnDg
import Derived.Deep.RegionWith
namespace Go.Proofs.Ytoihjbiahccaaaa
open Go Go.RowKit
set_option linter.unusedVariables false

/-- The bytes s as cells. -/
def bys (s : List UInt8) : List Value := s.map (fun b => Value.int .u8 (b.toNat : Int))
theorem bys_length (s : List UInt8) : (bys s).length = s.length := by simp [bys]
theorem bys_append (s r : List UInt8) : bys (s ++ r) = bys s ++ bys r := by simp [bys]
theorem bys_at (s : List UInt8) (k : Nat) : (bys s)[k]? = (s[k]?).map (fun b => Value.int .u8 (b.toNat : Int)) := by simp [bys]
theorem bys_one (s : List UInt8) : ∀ u ∈ bys s, u.oneCell' = true := by
  intro u hu
  obtain ⟨b, _, rfl⟩ := List.mem_map.1 hu
  rfl
theorem ints_one (s : List Int) : ∀ u ∈ ints s, u.oneCell' = true := by
  intro u hu
  obtain ⟨b, _, rfl⟩ := List.mem_map.1 hu
  rfl
theorem info_u8 : (Try.prog.info? 5).map (fun i => (i.zero, i.size, i.bytes)) = some (some (.int .u8 0), 1, 1) := by kernel_rfl
theorem info_int : (Try.prog.info? 3).map (fun i => (i.zero, i.size, i.bytes)) = some (some (.int .i64 0), 1, 8) := by kernel_rfl
theorem rd_one_u8 {w : World} {z : Nat} (hz : w.heap.size = z) (b : UInt8) : Rd (w.alloc (.cells #[.int .u8 (b.toNat : Int)] 5)) (z + 1) 1 (some ⟨z, 0, none⟩) 1 (bys [b]) := by
  subst hz
  refine ⟨rfl, fun _ => ⟨w.heap.size, 0, rfl, by omega, fun j u hu => ?_⟩⟩
  rw [(Bk.new w 5 _).cell, Nat.zero_add]
  simpa [bys] using hu
theorem rd_one_int {w : World} {z : Nat} (hz : w.heap.size = z) (c : Int) : Rd (w.alloc (.cells #[.int .i64 c] 3)) (z + 1) 1 (some ⟨z, 0, none⟩) 1 (ints [c]) := by
  subst hz
  refine ⟨rfl, fun _ => ⟨w.heap.size, 0, rfl, by omega, fun j u hu => ?_⟩⟩
  rw [(Bk.new w 3 _).cell, Nat.zero_add]
  simpa [ints] using hu
theorem app_byte {w : World} {ops : Array Oper} {rest : List Oper} {o : Oper} {a : Act} {Q : Exit → Act → World → Prop} (hw : Region.wanted o (yielded ops a.tmps) = true) (s x : Operand)
    (ho : o.op = .call { callee := .builtin .append, args := #[s, x], argTypes := #[38, 38] })
    {base : Nat} {v : Value} {n : Nat} {xs : List UInt8} (hs : a.eval s = v) (hown : w.ownsRow base 5 1 v n (bys xs))
    {B : Nat} {A : Option Addr} {m c : Nat} {ys : List UInt8} (hx : a.eval x = .slice A m c) (hr : Rd w B 1 A m (bys ys))
    (hlen : n + m ≤ 17592186044416) (hbase : base ≤ w.heap.size)
    (h : ∀ A' c' w', w'.ownsRow base 5 1 (.slice A' (n + m) c') (n + m) (bys (xs ++ ys)) → w.grownBy w' v.ownBlock →
      ((Value.slice A' (n + m) c').ownBlock = v.ownBlock ∨ (Value.slice A' (n + m) c').ownBlock = some w.heap.size) → wpList Try.prog ops Q rest (a.put o.dst (.slice A' (n + m) c')) w') :
    wpList Try.prog ops Q (o :: rest) a w := by
  obtain ⟨i0, hi, hz0, hz1, hz2⟩ := info_parts info_u8
  refine wpList_app hw s x _ ho base _ i0 (.int .u8 0) 1 1 Try.underlying38 hi hz0 hz1 hz2 rfl (by decide) v n (bys xs) hs hown B A m c (bys ys) hx hr (bys_one ys)
    (by unfold maxLen; omega) (by omega) hbase ?_
  intro v' w' h2 h3 h4
  obtain ⟨A', c', rfl⟩ := own_form h2
  rw [← bys_append] at h2
  exact h A' c' w' h2 h3 h4
theorem app_int {w : World} {ops : Array Oper} {rest : List Oper} {o : Oper} {a : Act} {Q : Exit → Act → World → Prop} (hw : Region.wanted o (yielded ops a.tmps) = true) (s x : Operand)
    (ho : o.op = .call { callee := .builtin .append, args := #[s, x], argTypes := #[22, 22] })
    {base : Nat} {v : Value} {n : Nat} {xs : List Int} (hs : a.eval s = v) (hown : w.ownsRow base 3 1 v n (ints xs))
    {B : Nat} {A : Option Addr} {m c : Nat} {ys : List Int} (hx : a.eval x = .slice A m c) (hr : Rd w B 1 A m (ints ys))
    (hlen : n + m ≤ 17592186044416) (hbase : base ≤ w.heap.size)
    (h : ∀ A' c' w', w'.ownsRow base 3 1 (.slice A' (n + m) c') (n + m) (ints (xs ++ ys)) → w.grownBy w' v.ownBlock →
      ((Value.slice A' (n + m) c').ownBlock = v.ownBlock ∨ (Value.slice A' (n + m) c').ownBlock = some w.heap.size) → wpList Try.prog ops Q rest (a.put o.dst (.slice A' (n + m) c')) w') :
    wpList Try.prog ops Q (o :: rest) a w := by
  obtain ⟨i0, hi, hz0, hz1, hz2⟩ := info_parts info_int
  refine wpList_app hw s x _ ho base _ i0 (.int .i64 0) 1 8 Try.underlying22 hi hz0 hz1 hz2 rfl (by decide) v n (ints xs) hs hown B A m c (ints ys) hx hr (ints_one ys)
    (by unfold maxLen; omega) (by omega) hbase ?_
  intro v' w' h2 h3 h4
  obtain ⟨A', c', rfl⟩ := own_form h2
  rw [← ints_append] at h2
  exact h A' c' w' h2 h3 h4
/-- A row of the call's own, put further: all below its base is as it was. -/
theorem own_below {w w' : World} {base : Nat} {e : TypeId} {v : Value} {n : Nat} {xs : List Value} {W : World} (ho : w.ownsRow base e 1 v n xs) (hb : Below base W w) (o : Obj) (hg : (w.alloc o).grownBy w' v.ownBlock) (hbw : base ≤ w.heap.size) : Below base W w' :=
  (hb.alloc hbw o).grown hg (by simp; omega) (fun q h => (ho.lt q h).1)

/-- The call returns the row, longer by ys; all below base is as it was. -/
def RetBy (base : Nat) (ys : List UInt8) (w : World) (e : Ending) (w' : World) : Prop :=
  ∃ A c, e = .returned (.slice A ys.length c) ∧ w'.ownsRow base 5 1 (.slice A ys.length c) ys.length (bys ys) ∧ Below base w w'
set_option maxHeartbeats 4000000 in
theorem put_any (A : Option Addr) (c : Nat) (s : List UInt8) (v b : Int) (base : Nat) (w : World) (ho : w.ownsRow base 5 1 (.slice A s.length c) s.length (bys s)) (hbase : base ≤ w.heap.size)
    (v0 : 0 ≤ v) (v1 : v ≤ 1099511627776) (b0 : 0 ≤ b) (b1 : b ≤ 1000) (hl : s.length ≤ 1000000) :
    Calls Try.prog 37 #[.slice A s.length c, .int .i64 v, .int .i64 b] w (RetBy base (s ++ (Pn.dig v b).map Pn.dgt) w) := by
  have HO := Lib.hid ho; clear ho
  obtain ⟨V, rfl⟩ := Int.eq_ofNat_of_zero_le v0
  have hd := Pn.dig_eq (V : Int) b
  have HD := Lib.hid hd; clear hd
  go_enter Try.func37, Try.ntmps37
  go_wp2_with fail
  go_loopw [0, 1, 7] (fun vo vv vj wr => ∃ (pre : List Int) (x j m : Nat) (A' : Option Addr) (c' : Nat), vo = .slice A' m c' ∧ vv = .int .i64 x ∧ vj = .int .i64 j ∧ j + x ≤ V ∧ m = s.length + j ∧
      (s ++ pre.map Pn.dgt).length = m ∧ Pn.dig (V : Int) b = pre ++ Pn.digJ (x : Int) (j : Int) b ∧ wr.ownsRow base 5 1 (.slice A' m c') m (bys (s ++ pre.map Pn.dgt)) ∧ Below base w wr) (fun _ vv _ _ => (intOf vv).toNat)
  case atStart => exact ⟨[], V, 0, s.length, A, c, rfl, rfl, rfl, by omega, rfl, by simp, HD.out, by simpa using HO.out, Below.refl _ _⟩
  case round =>
    obtain ⟨pre, x, j, m, A', c', rfl, rfl, rfl, hjx, hm, hlen, hdig, ho, hbl⟩ := hrel
    have hswr : base ≤ wr.heap.size := by have := hbl.size; omega
    have hmb : m ≤ 2000000000000 := by omega
    have HO1 := Lib.hid ho; have HB1 := Lib.hid hbl; have HDG := Lib.hid hdig; have HLN := Lib.hid hlen; have HM := Lib.hid hm
    clear ho hbl hdig hlen HD HO hm
    go_wp2_with fail
    refine (thr_any (j : Int) b (by omega) (by omega) b0 (by omega) _).mono ?_
    rintro e w9 ⟨rfl, hw9⟩
    subst hw9
    have t0 := Pn.thr_lo (j : Int) b
    have t1 := Pn.thr_hi (j : Int) b
    have hlast := Pn.digJ_last (x : Int) (j : Int) b
    have hstep := Pn.digJ_step (x : Int) (j : Int) b (by omega)
    have hslt := Pn.step_lt (x : Int) (Pn.thr (j : Int) b) (by omega) t0 t1
    generalize Pn.thr (j : Int) b = t at *
    by_cases hc : (x : Int) < t
    · have hlast := hlast hc
      have HLS := Lib.hid hlast
      clear hlast hstep hslt
      go_wp2_with fail
      refine (digit_any x (by omega) _).mono ?_
      rintro e w9 ⟨rfl, hw9⟩
      subst hw9
      go_wp2_with (at_builtin; refine app_byte (by rfl) _ _ rfl (base := base) rfl (HO1.out.alloc _) rfl (rd_one_u8 (z := wr.heap.size) rfl (Pn.dgt (x : Int))) (by omega) (by simp <;> omega) ?_)
      intro A4 c4 w4 ho4 hg4 hc4
      have HP := Lib.hid (own_below HO1.out HB1.out _ hg4 hswr)
      have hfin : s ++ (Pn.dig (V : Int) b).map Pn.dgt = s ++ (pre.map Pn.dgt ++ [Pn.dgt (x : Int)]) := by rw [HDG.out, HLS.out]; simp
      have hfl : (s ++ (Pn.dig (V : Int) b).map Pn.dgt).length = m + 1 := by rw [hfin, ← List.append_assoc, List.length_append, HLN.out]; rfl
      have HO4 := Lib.hid ho4
      have HF := Lib.hid hfin; have HFL := Lib.hid hfl
      clear ho4 hg4 hc4 hfin hfl
      go_wp2
      go_ret
      exact ⟨A4, c4, by rw [HFL.out]; rfl, by rw [HFL.out, HF.out]; exact HO4.out, HP.out⟩
    · have hstep := hstep hc
      obtain ⟨s0, s1⟩ := hslt hc
      have hm0 := Int.emod_nonneg ((x : Int) - t) (show 36 - t ≠ 0 by omega)
      have hm1 := Int.emod_lt_of_pos ((x : Int) - t) (show 0 < 36 - t by omega)
      obtain ⟨d, hd⟩ : ∃ d : Nat, t + ((x : Int) - t) % (36 - t) = (d : Int) := ⟨(t + ((x : Int) - t) % (36 - t)).toNat, by omega⟩
      obtain ⟨y, hy⟩ : ∃ y : Nat, ((x : Int) - t) / (36 - t) = (y : Int) := ⟨(((x : Int) - t) / (36 - t)).toNat, by omega⟩
      have hd36 : d < 36 := by omega
      have hyx : (y : Int) < (x : Int) := by omega
      rw [hd, hy] at hstep
      have HST := Lib.hid hstep; have HD2 := Lib.hid hd; have HY := Lib.hid hy
      clear hstep hd hy hlast hslt s0 s1
      have ht36 : ¬ 36 - t = 0 := by omega
      have hxt : 0 ≤ (x : Int) - t := by omega
      go_wp2_with fail
      rw [HD2.out]
      refine (digit_any d hd36 _).mono ?_
      rintro e w9 ⟨rfl, hw9⟩
      subst hw9
      go_wp2_with (at_builtin; refine app_byte (by rfl) _ _ rfl (base := base) rfl (HO1.out.alloc _) rfl (rd_one_u8 (z := wr.heap.size) rfl (Pn.dgt (d : Int))) (by omega) (by simp <;> omega) ?_)
      intro A4 c4 w4 ho4 hg4 hc4
      have HP := Lib.hid (own_below HO1.out HB1.out _ hg4 hswr)
      have HO4 := Lib.hid ho4
      clear ho4 hg4 hc4
      have e1 : s ++ (pre ++ [(d : Int)]).map Pn.dgt = s ++ (pre.map Pn.dgt ++ [Pn.dgt (d : Int)]) := by simp
      have HE1 := Lib.hid e1; clear e1
      have hy' : ((x : Int) - t) / (36 - t) = (y : Int) := HY.out
      go_wp2
      try rw [hy']
      go_roundw
      case rel => exact ⟨pre ++ [(d : Int)], y, j + 1, m + 1, A4, c4, rfl, rfl, by go_num, by omega, by have := HM.out; omega, by rw [HE1.out, ← List.append_assoc, List.length_append, HLN.out]; rfl, by rw [HDG.out, HST.out]; simp, by rw [HE1.out]; exact HO4.out, HP.out⟩
      case measure => simp [intOf]; omega
end Go.Proofs.Ytoihjbiahccaaaa
