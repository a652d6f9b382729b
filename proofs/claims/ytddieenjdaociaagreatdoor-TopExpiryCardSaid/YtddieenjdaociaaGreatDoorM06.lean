/- The walk of request.Unquote. The walk of request.split: the words of a text. -/
import Derived.Test.YtddieenjdaociaaGreatDoorRqSZ
import Derived.Deep.RegionHeld3
import Derived.Deep.CutBlock
import Derived.Deep.LoopGhost
namespace Go.Proofs.YtddieenjdaociaaGreatDoor
open Go Go.RowKit
set_option linter.unusedVariables false

theorem toList_lst (s : ByteArray) : s.toList = lst s := ByteArray.toList_eq s
/-- What Unquote returns. -/
def unqVal (L : List UInt8) : Value := .tuple #[.string (str (Rq.unquote L).1), .bool (Rq.unquote L).2]
theorem unq_fail {L : List UInt8} (hq : L ≠ [34, 34]) (h : Rq.unq L = none) : unqVal L = .tuple #[.string ⟨#[]⟩, .bool false] := by
  unfold unqVal Rq.unquote
  rw [if_neg hq, h]; rfl
theorem unq_good {L out : List UInt8} (hq : L ≠ [34, 34]) (h : Rq.unq L = some out) : unqVal L = .tuple #[.string (str out), .bool (decide (0 < out.length))] := by
  unfold unqVal Rq.unquote
  rw [if_neg hq, h]
  cases out <;> rfl
theorem map_out {o : Option (List UInt8)} (out : List UInt8) (b : UInt8) : (o.map (b :: ·)).map (out ++ ·) = o.map ((out ++ [b]) ++ ·) := by cases o <;> simp
theorem two_val (x y : UInt8) (hx0 : 0 ≤ Rq.hx x) (hy0 : 0 ≤ Rq.hx y) : ((Rq.two x y).toNat : Int) = Rq.hx x * 16 + Rq.hx y := by
  have h1 := (Rq.hx_bd x).2; have h2 := (Rq.hx_bd y).2
  unfold Rq.two
  rw [UInt8.toNat_ofNat']
  omega
theorem or_hex (a b : Int) (ha : 0 ≤ a) (ha1 : a ≤ 15) (hb : 0 ≤ b) (hb1 : b ≤ 15) : bits BinOp.or IntKind.i64 (a * 16) b = a * 16 + b ∧ IntKind.u8.wrap (a * 16 + b) = a * 16 + b := by
  have : ∀ x y : Fin 16, bits BinOp.or IntKind.i64 ((x.val : Int) * 16) (y.val : Int) = (x.val : Int) * 16 + (y.val : Int) ∧ IntKind.u8.wrap ((x.val : Int) * 16 + (y.val : Int)) = (x.val : Int) * 16 + (y.val : Int) := by decide +kernel
  have h := this ⟨a.toNat, by omega⟩ ⟨b.toNat, by omega⟩
  simp only [Int.toNat_of_nonneg ha, Int.toNat_of_nonneg hb] at h
  exact h
/-- append(out, ys...) at []byte, at a step of a region that draws its order. -/
theorem step_app_byte {w : World} {ops : Array Oper} {o : Oper} {a : Act} {K : Act → World → Prop} {Q : Exit → Act → World → Prop} {E : Prop} (hgd : o.guard = none) (s x : Operand)
    (ho : o.op = .call { callee := .builtin .append, args := #[s, x], argTypes := #[129, 129] })
    {base : Nat} {v : Value} {n : Nat} {xs : List UInt8} (hs : a.eval s = v) (hown : w.ownsRow base 5 1 v n (bys xs))
    {B : Nat} {A : Option Addr} {m c : Nat} {ys : List UInt8} (hx : a.eval x = .slice A m c) (hr : Rd w B 1 A m (bys ys))
    (hlen : n + m ≤ 140737488355328) (hbase : base ≤ w.heap.size)
    (h : ∀ A' c' w', w'.ownsRow base 5 1 (.slice A' (n + m) c') (n + m) (bys (xs ++ ys)) → w.grownBy w' v.ownBlock → K (a.put o.dst (.slice A' (n + m) c')) w') :
    if Region.wanted o (yielded ops a.tmps) = true then Oper.wp Tryz.prog o a w K Q else E := by
  have hw : Region.wanted o (yielded ops a.tmps) = true := by simp [Region.wanted, hgd]
  rw [if_pos hw]
  obtain ⟨i0, hi, hz0, hz1, hz2⟩ := info_parts info_u8
  obtain ⟨v', w', hrun, h2, h3, h4⟩ := run_app (P := Tryz.prog) base 129 o.type 5 i0 (.int .u8 0) 1 1 Tryz.underlying129 hi hz0 hz1 hz2 rfl (by decide) v n (bys xs) hown B A m c (bys ys) hr (bys_one ys)
    (by unfold maxLen; omega) (by omega) hbase
  obtain ⟨A', c', rfl⟩ := own_form h2
  rw [← bys_append] at h2
  unfold Oper.wp execOp
  simp only [ho, resolve, invoke, builtin, Sem.run_bind, Sem.run_pure, Result.andThen_ok, List.map_toArray, List.map_cons, List.map_nil, hs, hx, hrun]
  exact h A' c' w' h2 h3
set_option maxRecDepth 100000 in
set_option maxHeartbeats 8000000 in
theorem unquote_any (s : ByteArray) (hs : s.size ≤ 140737488355328) (w : World) : Calls Tryz.prog 112 #[.string s] w fun e w' => e = .returned (unqVal (lst s)) ∧ Below w.heap.size w w' := by
  by_cases hq : s = ⟨#[34, 34]⟩
  · subst hq
    go_enter Tryz.func112, Tryz.ntmps112
    go_wp2
    go_ret2
    exact ⟨rfl, Below.refl _ _⟩
  have hq2 : lst s ≠ [34, 34] := by
    intro e
    apply hq
    rw [← str_lst s, e]; rfl
  have hqb : (s.toList == [34, 34]) = false := by rw [toList_lst, beq_eq_false_iff_ne]; exact hq2
  have HQ := Lib.hid hq2
  clear hq hq2
  go_enter Tryz.func112, Tryz.ntmps112
  go_wp2_with fail
  go_loopw [4, 5] (fun vo vi wr => ∃ (k : Nat) (out : List UInt8) (A : Option Addr) (c : Nat), k ≤ s.size ∧ vi = .int .i64 k ∧ vo = .slice A out.length c ∧ wr.ownsRow w.heap.size 5 1 (.slice A out.length c) out.length (bys out) ∧ Below w.heap.size w wr ∧
      out.length ≤ k ∧ Rq.unq (lst s) = (Rq.unq ((lst s).drop k)).map (out ++ ·)) (fun _ vi _ => s.size - (intOf vi).toNat)
  case atStart => exact ⟨0, [], none, 0, by omega, rfl, rfl, World.ownsRow_nil _ _ _ _, Below.refl _ _, by simp, by rw [List.drop_zero]; cases Rq.unq (lst s) <;> simp⟩
  case round =>
    obtain ⟨k, out, A, c, hk, rfl, rfl, ho, hb, hlen, hun⟩ := hrel
    have HO := Lib.hid ho; have HB := Lib.hid hb; have HU := Lib.hid hun
    have hsw := hb.size
    clear ho hb hun
    by_cases hlt : k < s.size
    · have hdr := lst_drop s k hlt
      have HDR := Lib.hid hdr; clear hdr
      go_wp2_with fail
      refine (plain_any s[k] _).mono ?_
      rintro e w1 ⟨rfl, rfl⟩
      cases hp : Rq.pl s[k]
      · by_cases h37 : s[k] = 37
        · have hi37 : (s[k].toNat : Int) = 37 := by rw [h37]; rfl
          by_cases hk2 : k + 2 < s.size
          · have hd1 := lst_drop s (k + 1) (by omega)
            have hd2 := lst_drop s (k + 2) (by omega)
            have HD1 := Lib.hid hd1; have HD2 := Lib.hid hd2; clear hd1 hd2
            by_cases hx0 : 0 ≤ Rq.hx s[k + 1]
            · by_cases hy0 : 0 ≤ Rq.hx s[k + 2]
              · have hun2 : Rq.unq (lst s) = (Rq.unq ((lst s).drop (k + 3))).map ((out ++ [Rq.two s[k + 1] s[k + 2]]) ++ ·) := by
                  rw [HU.out, HDR.out, h37, HD1.out, HD2.out, Rq.unq_two _ _ _ hx0 hy0, map_out]
                have HU2 := Lib.hid hun2
                have htv := two_val s[k + 1] s[k + 2] hx0 hy0
                have ha1 := (Rq.hx_bd s[k + 1]).2; have hb1 := (Rq.hx_bd s[k + 2]).2
                have HX := Lib.hid (hex_any s[k + 1]); have HY := Lib.hid (hex_any s[k + 2])
                generalize hxx : Rq.hx s[k + 1] = a at *
                generalize hyy : Rq.hx s[k + 2] = b at *
                clear hun2 hp h37 hxx hyy
                go_wp2_with fail
                refine (HX.out _).mono ?_
                rintro e w2 ⟨rfl, rfl⟩
                go_wp2_with fail
                refine (HY.out _).mono ?_
                rintro e w3 ⟨rfl, rfl⟩
                go_wp2_with fail
                obtain ⟨t3, t4⟩ := or_hex a b hx0 ha1 hy0 hb1
                have t1 : IntKind.i64.wrap ((k : Int) + 1) = (k : Int) + 1 := IntWalk.i64_in _ (by omega)
                have t2 : IntKind.i64.wrap ((k : Int) + 2) = (k : Int) + 2 := IntWalk.i64_in _ (by omega)
                have t5 : IntKind.i64.wrap (a * 16) = a * 16 := IntWalk.i64_in _ (by omega)
                have n2 : ((k : Int) + 2).toNat = k + 2 := by omega
                refine wp_region_any (by kernel_rfl) ?_
                change wpAny _ _ _ _ 17 #[false, false, false, false, false, false, false, false, false, false, false, false, false, false, false, false, false] _ (World.drew _)
                refine wpAny_take (i := 0) (v := .slice A out.length c) rfl (by kernel_rfl) (by kernel_rfl) (by kernel_rfl) (fun _ _ _ h => h) (Or.inl ⟨by rfl, fun w => ?_⟩) ?_
                · go_simp
                try simp only [Act.put, List.setIfInBounds_toArray, List.set_cons_zero, List.set_cons_succ]
                refine wpAny_take (i := 1) (v := .string s) rfl (by kernel_rfl) (by kernel_rfl) (by kernel_rfl) (fun _ _ _ h => h) (Or.inl ⟨by rfl, fun w => ?_⟩) ?_
                · go_simp
                try simp only [Act.put, List.setIfInBounds_toArray, List.set_cons_zero, List.set_cons_succ]
                refine wpAny_take (i := 2) (v := .int .i64 k) rfl (by kernel_rfl) (by kernel_rfl) (by kernel_rfl) (fun _ _ _ h => h) (Or.inl ⟨by rfl, fun w => ?_⟩) ?_
                · go_simp
                try simp only [Act.put, List.setIfInBounds_toArray, List.set_cons_zero, List.set_cons_succ]
                refine wpAny_take (i := 3) (v := .int .i64 (k + 1)) rfl (by kernel_rfl) (by kernel_rfl) (by kernel_rfl) (fun _ _ _ h => h) (Or.inl ⟨by rfl, fun w => ?_⟩) ?_
                · go_simp
                try simp only [Act.put, List.setIfInBounds_toArray, List.set_cons_zero, List.set_cons_succ]
                refine wpAny_take (i := 4) (v := .int .u8 (s[k + 1].toNat : Int)) rfl (by kernel_rfl) (by kernel_rfl) (by kernel_rfl) (fun _ _ _ h => h) (Or.inl ⟨by rfl, fun w => ?_⟩) ?_
                · go_simp
                try simp only [Act.put, List.setIfInBounds_toArray, List.set_cons_zero, List.set_cons_succ]
                refine wpAny_take (i := 7) (v := .string s) rfl (by kernel_rfl) (by kernel_rfl) (by kernel_rfl) (fun _ _ _ h => h) (Or.inl ⟨by rfl, fun w => ?_⟩) ?_
                · go_simp
                try simp only [Act.put, List.setIfInBounds_toArray, List.set_cons_zero, List.set_cons_succ]
                refine wpAny_take (i := 8) (v := .int .i64 k) rfl (by kernel_rfl) (by kernel_rfl) (by kernel_rfl) (fun _ _ _ h => h) (Or.inl ⟨by rfl, fun w => ?_⟩) ?_
                · go_simp
                try simp only [Act.put, List.setIfInBounds_toArray, List.set_cons_zero, List.set_cons_succ]
                refine wpAny_take (i := 9) (v := .int .i64 (k + 2)) rfl (by kernel_rfl) (by kernel_rfl) (by kernel_rfl) (fun _ _ _ h => h) (Or.inl ⟨by rfl, fun w => ?_⟩) ?_
                · go_simp
                try simp only [Act.put, List.setIfInBounds_toArray, List.set_cons_zero, List.set_cons_succ]
                refine wpAny_take (i := 10) (v := .int .u8 (s[k + 2].toNat : Int)) rfl (by kernel_rfl) (by kernel_rfl) (by kernel_rfl) (fun _ _ _ h => h) (Or.inl ⟨by rfl, fun w => ?_⟩) ?_
                · first | (go_simp; done) | (go_simp; simp only [n2])
                try simp only [Act.put, List.setIfInBounds_toArray, List.set_cons_zero, List.set_cons_succ]
                refine wpAny_ready (rs := [5]) (by kernel_rfl) (by simp) ?_
                refine AllReady.cons rfl (fun K hK => ?_) AllReady.nil
                go_simp
                refine (HX.out _).mono ?_
                rintro e w9 ⟨rfl, rfl⟩
                refine hK _ _ ?_
                clear hK K
                try simp only [Act.put, List.setIfInBounds_toArray, List.set_cons_zero, List.set_cons_succ]
                refine wpAny_take (i := 6) (v := .int .i64 (a * 16)) rfl (by kernel_rfl) (by kernel_rfl) (by kernel_rfl) (fun _ _ _ h => h) (Or.inl ⟨by rfl, fun w => ?_⟩) ?_
                · go_simp
                try simp only [Act.put, List.setIfInBounds_toArray, List.set_cons_zero, List.set_cons_succ]
                refine wpAny_ready (rs := [11]) (by kernel_rfl) (by simp) ?_
                refine AllReady.cons rfl (fun K hK => ?_) AllReady.nil
                go_simp
                refine (HY.out _).mono ?_
                rintro e w9 ⟨rfl, rfl⟩
                refine hK _ _ ?_
                clear hK K
                try simp only [Act.put, List.setIfInBounds_toArray, List.set_cons_zero, List.set_cons_succ]
                refine wpAny_take (i := 12) (v := .int .i64 (a * 16 + b)) rfl (by kernel_rfl) (by kernel_rfl) (by kernel_rfl) (fun _ _ _ h => h) (Or.inl ⟨by rfl, fun w => ?_⟩) ?_
                · go_simp
                try simp only [Act.put, List.setIfInBounds_toArray, List.set_cons_zero, List.set_cons_succ]
                refine wpAny_take (i := 13) (v := .int .u8 (a * 16 + b)) rfl (by kernel_rfl) (by kernel_rfl) (by kernel_rfl) (fun _ _ _ h => h) (Or.inl ⟨by rfl, fun w => ?_⟩) ?_
                · go_simp
                try simp only [Act.put, List.setIfInBounds_toArray, List.set_cons_zero, List.set_cons_succ]
                refine wpAny_ready (rs := [14]) (by kernel_rfl) (by simp) ?_
                refine AllReady.cons rfl (fun K hK => ?_) AllReady.nil
                go_simp
                refine hK _ _ ?_
                clear hK K
                try simp only [Act.put, List.setIfInBounds_toArray, List.set_cons_zero, List.set_cons_succ]
                refine wpAny_ready (rs := [15]) (by kernel_rfl) (by simp) ?_
                refine AllReady.cons rfl (fun K hK => ?_) AllReady.nil
                refine step_app_byte (by rfl) (.tmp 53) (.tmp 67) (by rfl) (base := w.heap.size) (by rfl) (HO.out.drew.alloc _) (by rfl) (rd_one_u8x (z := w3.heap.size) rfl htv) (by omega) (by simp; omega) ?_
                intro A4 c4 w4 ho4 hg4
                have HP := Lib.hid (own_below HO.out.drew HB.out.drew _ hg4 hsw)
                have HO4 := Lib.hid ho4
                clear ho4 hg4
                refine hK _ _ ?_
                clear hK K
                try simp only [Act.put, List.setIfInBounds_toArray, List.set_cons_zero, List.set_cons_succ]
                refine wpAny_ready (rs := [16]) (by kernel_rfl) (by simp) ?_
                refine AllReady.cons rfl (fun K hK => ?_) AllReady.nil
                go_simp
                refine hK _ _ ?_
                clear hK K
                try simp only [Act.put, List.setIfInBounds_toArray, List.set_cons_zero, List.set_cons_succ]
                refine wpAny_done (by kernel_rfl) ?_ _
                go_step
                go_wp2
                go_roundw
                case rel => exact ⟨k + 3, out ++ [Rq.two s[k + 1] s[k + 2]], A4, c4, by omega, by go_num, by simp, by simpa using HO4.out, HP.out, by simp; omega, HU2.out⟩
                case measure => simp [intOf]; omega
              · have hbad : Rq.unq (lst s) = none := by
                  rw [HU.out, HDR.out, h37, HD1.out, HD2.out, Rq.unq_hex _ _ _ (fun e => hy0 e.2)]; rfl
                have HF := Lib.hid (unq_fail HQ.out hbad)
                have HX := Lib.hid (hex_any s[k + 1]); have HY := Lib.hid (hex_any s[k + 2])
                generalize hxx : Rq.hx s[k + 1] = a at *
                generalize hyy : Rq.hx s[k + 2] = b at *
                clear hbad hp h37 hxx hyy
                go_wp2_with fail
                refine (HX.out _).mono ?_
                rintro e w2 ⟨rfl, rfl⟩
                go_wp2_with fail
                refine (HY.out _).mono ?_
                rintro e w3 ⟨rfl, rfl⟩
                go_wp2
                go_ret2
                exact ⟨by rw [HF.out]; rfl, HB.out⟩
            · have hbad : Rq.unq (lst s) = none := by
                rw [HU.out, HDR.out, h37, HD1.out, HD2.out, Rq.unq_hex _ _ _ (fun e => hx0 e.1)]; rfl
              have HF := Lib.hid (unq_fail HQ.out hbad)
              have HX := Lib.hid (hex_any s[k + 1])
              generalize hxx : Rq.hx s[k + 1] = a at *
              clear hbad hp h37 hxx
              go_wp2_with fail
              refine (HX.out _).mono ?_
              rintro e w2 ⟨rfl, rfl⟩
              go_wp2
              go_ret2
              exact ⟨by rw [HF.out]; rfl, HB.out⟩
          · have hbad : Rq.unq (lst s) = none := by
              rw [HU.out, HDR.out, h37, Rq.unq_short _ (by rw [List.length_drop, lst_length]; omega)]; rfl
            have HF := Lib.hid (unq_fail HQ.out hbad)
            clear hbad hp h37
            go_wp2
            go_ret2
            exact ⟨by rw [HF.out]; rfl, HB.out⟩
        · have hbad : Rq.unq (lst s) = none := by
            rw [HU.out, HDR.out, Rq.unq_bad _ hp h37]; rfl
          have HF := Lib.hid (unq_fail HQ.out hbad)
          have hi37 : ((s[k].toNat : Int) == 37) = false := by
            rw [beq_eq_false_iff_ne]
            intro e
            apply h37
            apply UInt8.toNat_inj.1
            show (s[k]).toNat = 37
            omega
          clear hbad hp h37
          go_wp2
          go_ret2
          exact ⟨by rw [HF.out]; rfl, HB.out⟩
      · have hun2 : Rq.unq (lst s) = (Rq.unq ((lst s).drop (k + 1))).map ((out ++ [s[k]]) ++ ·) := by
          rw [HU.out, HDR.out, Rq.unq_pl _ hp, map_out]
        have HU2 := Lib.hid hun2; clear hun2 hp
        have hbi : (s[k].toNat : Int) = (s[k].toNat : Int) := rfl
        go_wp2_with (at_builtin; refine app_byte (by rfl) _ _ rfl (base := w.heap.size) rfl (HO.out.alloc _) rfl (rd_one_u8 (z := w1.heap.size) rfl s[k]) (by omega) (by simp <;> omega) ?_)
        intro A4 c4 w4 ho4 hg4 hc4
        have HP := Lib.hid (own_below HO.out HB.out _ hg4 hsw)
        have HO4 := Lib.hid ho4
        clear ho4 hg4 hc4
        go_wp2
        go_roundw
        case rel => exact ⟨k + 1, out ++ [s[k]], A4, c4, by omega, by go_num, by simp, by simpa using HO4.out, HP.out, by simp; omega, HU2.out⟩
        case measure => simp [intOf]; omega
    · have hd : (lst s).drop k = [] := List.drop_of_length_le (by rw [lst_length]; omega)
      have hun2 : Rq.unq (lst s) = some out := by rw [HU.out, hd, Rq.unq_nil]; simp
      have HF := Lib.hid (unq_good HQ.out hun2)
      have hcv := conv_row HO.out
      clear hd hun2
      go_wp2
      go_ret2
      exact ⟨by rw [HF.out]; rfl, HB.out⟩
end Go.Proofs.YtddieenjdaociaaGreatDoor
namespace Go.Proofs.YtddieenjdaociaaGreatDoor
open Go Go.RowKit
set_option linter.unusedVariables false

theorem step_app_str {w : World} {ops : Array Oper} {o : Oper} {a : Act} {K : Act → World → Prop} {Q : Exit → Act → World → Prop} {E : Prop} (hgd : o.guard = none) (s x : Operand)
    (ho : o.op = .call { callee := .builtin .append, args := #[s, x], argTypes := #[43, 43] })
    {base : Nat} {v : Value} {n : Nat} {xs : List ByteArray} (hs : a.eval s = v) (hown : w.ownsRow base 9 1 v n (strs xs))
    {B : Nat} {A : Option Addr} {m c : Nat} {ys : List ByteArray} (hx : a.eval x = .slice A m c) (hr : Rd w B 1 A m (strs ys))
    (hlen : n + m ≤ 8796093022208) (hbase : base ≤ w.heap.size)
    (h : ∀ A' c' w', w'.ownsRow base 9 1 (.slice A' (n + m) c') (n + m) (strs (xs ++ ys)) → w.grownBy w' v.ownBlock → K (a.put o.dst (.slice A' (n + m) c')) w') :
    if Region.wanted o (yielded ops a.tmps) = true then Oper.wp Tryz.prog o a w K Q else E := by
  have hw : Region.wanted o (yielded ops a.tmps) = true := by simp [Region.wanted, hgd]
  rw [if_pos hw]
  obtain ⟨A', c', w', hrun, h2, h3, h4⟩ := run_app_str o.type hown (c := c) hr hlen hbase
  unfold Oper.wp execOp
  simp only [ho, resolve, invoke, builtin, Sem.run_bind, Sem.run_pure, Result.andThen_ok, List.map_toArray, List.map_cons, List.map_nil, hs, hx, hrun]
  exact h A' c' w' h2 h3
theorem drop_get (L : List UInt8) (j : Nat) (b : UInt8) (h : L[j]? = some b) : L.drop j = b :: L.drop (j + 1) := by
  obtain ⟨h2, h3⟩ := List.getElem?_eq_some_iff.1 h
  rw [List.drop_eq_getElem_cons h2, h3]
/-- A word that is done. -/
theorem spl_done {L : List UInt8} {j : Nat} (h : L[j]? = some 32) (hn : (32 : UInt8) ∉ L.take j) : Rq.spl L = L.take j :: Rq.spl (L.drop (j + 1)) := by
  conv => lhs; rw [← List.take_append_drop j L, drop_get L j 32 h]
  rw [Rq.spl_word _ _ hn, Rq.spl_space]
  simp [Rq.pre]
theorem spl_last {L : List UInt8} (hn : (32 : UInt8) ∉ L) : Rq.spl L = [L] := by
  have := Rq.spl_word L [] hn
  rw [List.append_nil] at this
  rw [this]; simp [Rq.spl, Rq.pre]
set_option maxRecDepth 100000 in
set_option maxHeartbeats 8000000 in
theorem split_any (s : ByteArray) (hs : s.size ≤ 1000000) (w : World) : Calls Tryz.prog 109 #[.string s] w (RetS 9 ((Rq.spl (lst s)).map str) w) := by
  go_enter Tryz.func109, Tryz.ntmps109
  go_wp2
  go_step3
  go_wp2
  go_step3
  go_wp2
  go_loopg [0, 3] s.size (fun gg vs vl wr => ∃ (rst : List UInt8) (ws : List (List UInt8)) (A : Option Addr) (c n : Nat), vs = .string (str rst) ∧ vl = .slice A n c ∧ ws.length = n ∧ wr.ownsRow w.heap.size 9 1 (.slice A n c) n (strs (ws.map str)) ∧ Below w.heap.size w wr ∧
      n + rst.length ≤ s.size ∧ Rq.spl (lst s) = ws ++ Rq.spl rst ∧ rst.length = gg)
  case atStart => exact ⟨lst s, [], none, 0, 0, by rw [str_lst], rfl, rfl, World.ownsRow_nil _ _ _ _, Below.refl _ _, by rw [lst_length]; omega, rfl, lst_length s⟩
  case round =>
    obtain ⟨rst, ws, A, c, n, rfl, rfl, hn, ho, hb, hlen, hsp, hgg⟩ := hrel
    have HGG := Lib.hid hgg; clear hgg
    have HO := Lib.hid ho; have HB := Lib.hid hb; have HSP := Lib.hid hsp; have HN := Lib.hid hn
    have hsw := hb.size
    have hsz : (str rst).size = rst.length := str_size rst
    clear ho hb hsp hn
    go_wp2_with fail
    go_loopg [0, 3, 7] rst.length (fun gi vs vl vj wq => ∃ j : Nat, j + gi = rst.length ∧ vs = .string (str rst) ∧ vl = .slice A n c ∧ vj = .int .i64 j ∧ (32 : UInt8) ∉ rst.take j ∧ wr = wq)
    case atStart => exact ⟨0, by omega, rfl, rfl, rfl, by simp, rfl⟩
    case round =>
      obtain ⟨j, hj, rfl, rfl, rfl, hno, rfl⟩ := hrel
      have HNO := Lib.hid hno; clear hno
      by_cases hlt : j < rst.length
      · have hat := lst_at (str rst) j (by omega)
        rw [lst_str] at hat
        by_cases h32 : (str rst)[j] = 32
        · have hd := spl_done (hat.trans (congrArg some h32)) HNO.out
          have g2 : (((str rst)[j].toNat : Int) == 32) = true := by rw [h32]; rfl
          have hex1 := extract_take (str rst) j (by omega)
          have hex2 := extract_drop (str rst) (j + 1) (by omega)
          rw [lst_str] at hex1 hex2
          rw [hsz] at hex2
          have q1 : (j : Int) ≤ (rst.length : Int) := by omega
          have q1n : j ≤ rst.length := by omega
          have q2 : IntKind.i64.wrap ((j : Int) + 1) = (j : Int) + 1 := IntWalk.i64_in _ (by omega)
          have q3 : (0 : Int) ≤ (j : Int) + 1 := by omega
          have q4 : (j : Int) + 1 ≤ (rst.length : Int) := by omega
          have hwl : (ws ++ [rst.take j]).map str = ws.map str ++ [str (rst.take j)] := by simp
          have HWL := Lib.hid hwl; clear hwl
          have HD := Lib.hid hd
          clear hat h32 hd
          go_wp2_with fail
          refine wp_region_any (by kernel_rfl) ?_
          change wpAny _ _ _ _ 12 #[false, false, false, false, false, false, false, false, false, false, false, false] _ (World.drew _)
          refine wpAny_take (i := 0) (v := .slice A n c) rfl (by kernel_rfl) (by kernel_rfl) (by kernel_rfl) (fun _ _ _ h => h) (Or.inl ⟨by rfl, fun w => ?_⟩) ?_
          · go_simp
          try simp only [Act.put, List.setIfInBounds_toArray, List.set_cons_zero, List.set_cons_succ]
          refine wpAny_take (i := 1) (v := .string (str rst)) rfl (by kernel_rfl) (by kernel_rfl) (by kernel_rfl) (fun _ _ _ h => h) (Or.inl ⟨by rfl, fun w => ?_⟩) ?_
          · go_simp
          try simp only [Act.put, List.setIfInBounds_toArray, List.set_cons_zero, List.set_cons_succ]
          refine wpAny_take (i := 2) (v := .int .i64 j) rfl (by kernel_rfl) (by kernel_rfl) (by kernel_rfl) (fun _ _ _ h => h) (Or.inl ⟨by rfl, fun w => ?_⟩) ?_
          · go_simp
          try simp only [Act.put, List.setIfInBounds_toArray, List.set_cons_zero, List.set_cons_succ]
          refine wpAny_take (i := 3) (v := .string (str (rst.take j))) rfl (by kernel_rfl) (by kernel_rfl) (by kernel_rfl) (fun _ _ _ h => h) (Or.inl ⟨by rfl, fun w => ?_⟩) ?_
          · go_simp
          try simp only [Act.put, List.setIfInBounds_toArray, List.set_cons_zero, List.set_cons_succ]
          refine wpAny_take (i := 6) (v := .string (str rst)) rfl (by kernel_rfl) (by kernel_rfl) (by kernel_rfl) (fun _ _ _ h => h) (Or.inl ⟨by rfl, fun w => ?_⟩) ?_
          · go_simp
          try simp only [Act.put, List.setIfInBounds_toArray, List.set_cons_zero, List.set_cons_succ]
          refine wpAny_take (i := 7) (v := .int .i64 j) rfl (by kernel_rfl) (by kernel_rfl) (by kernel_rfl) (fun _ _ _ h => h) (Or.inl ⟨by rfl, fun w => ?_⟩) ?_
          · go_simp
          try simp only [Act.put, List.setIfInBounds_toArray, List.set_cons_zero, List.set_cons_succ]
          refine wpAny_take (i := 8) (v := .int .i64 (j + 1)) rfl (by kernel_rfl) (by kernel_rfl) (by kernel_rfl) (fun _ _ _ h => h) (Or.inl ⟨by rfl, fun w => ?_⟩) ?_
          · go_simp
          try simp only [Act.put, List.setIfInBounds_toArray, List.set_cons_zero, List.set_cons_succ]
          refine wpAny_take (i := 9) (v := .string (str (rst.drop (j + 1)))) rfl (by kernel_rfl) (by kernel_rfl) (by kernel_rfl) (fun _ _ _ h => h) (Or.inl ⟨by rfl, fun w => ?_⟩) ?_
          · go_simp
          try simp only [Act.put, List.setIfInBounds_toArray, List.set_cons_zero, List.set_cons_succ]
          refine wpAny_ready (rs := [4]) (by kernel_rfl) (by simp) ?_
          refine AllReady.cons rfl (fun K hK => ?_) AllReady.nil
          go_simp
          refine hK _ _ ?_
          clear hK K
          try simp only [Act.put, List.setIfInBounds_toArray, List.set_cons_zero, List.set_cons_succ]
          refine wpAny_ready (rs := [5]) (by kernel_rfl) (by simp) ?_
          refine AllReady.cons rfl (fun K hK => ?_) AllReady.nil
          refine step_app_str (by rfl) (.tmp 14) (.tmp 18) (by rfl) (base := w.heap.size) (by rfl) (HO.out.drew.alloc _) (by rfl) (rd_one_str wr.drew (str (rst.take j))) (by omega) (by simp; omega) ?_
          intro A4 c4 w4 ho4 hg4
          have HP := Lib.hid (own_below HO.out.drew HB.out.drew _ hg4 hsw)
          have HO4 := Lib.hid ho4
          clear ho4 hg4
          refine hK _ _ ?_
          clear hK K
          try simp only [Act.put, List.setIfInBounds_toArray, List.set_cons_zero, List.set_cons_succ]
          simp only [List.getElem_toArray, List.getElem_cons_succ, List.getElem_cons_zero, List.set_cons_zero, List.set_cons_succ]
          refine wpAny_take (i := 10) (v := .slice A4 (n + 1) c4) rfl (by kernel_rfl) (by kernel_rfl) (by kernel_rfl) (fun _ _ _ h => h) (Or.inl ⟨by rfl, fun w => ?_⟩) ?_
          · go_simp
          try simp only [Act.put, List.setIfInBounds_toArray, List.set_cons_zero, List.set_cons_succ]
          refine wpAny_ready (rs := [11]) (by kernel_rfl) (by simp) ?_
          refine AllReady.cons rfl (fun K hK => ?_) AllReady.nil
          go_simp
          refine hK _ _ ?_
          clear hK K
          try simp only [Act.put, List.setIfInBounds_toArray, List.set_cons_zero, List.set_cons_succ]
          refine wpAny_done (by kernel_rfl) ?_ _
          go_step
          go_wp2
          go_roundg (rst.length - (j + 1))
          case measure => have := HGG.out; omega
          case rel => exact ⟨rst.drop (j + 1), ws ++ [rst.take j], A4, c4, n + 1, rfl, rfl, by simp; exact HN.out, by rw [HWL.out]; exact HO4.out, HP.out, by rw [List.length_drop]; omega, by rw [HSP.out, HD.out]; simp, by rw [List.length_drop]⟩
        · have hno2 : (32 : UInt8) ∉ rst.take (j + 1) := by
            rw [List.take_add_one, hat]
            simp
            exact ⟨HNO.out, fun e => h32 e.symm⟩
          have HNO2 := Lib.hid hno2
          have g2 : (((str rst)[j].toNat : Int) == 32) = false := by
            rw [beq_eq_false_iff_ne]
            intro e
            apply h32
            apply UInt8.toNat_inj.1
            show ((str rst)[j]).toNat = 32
            omega
          clear hat h32 hno2
          go_wp2
          go_roundg (rst.length - (j + 1))
          case measure => omega
          case rel => exact ⟨j + 1, by omega, rfl, rfl, by go_num, HNO2.out, rfl⟩
      · have hjn : j = rst.length := by omega
        have hno2 : (32 : UInt8) ∉ rst := by
          have := HNO.out
          rwa [hjn, List.take_length] at this
        have hfin : (Rq.spl (lst s)).map str = ws.map str ++ [str rst] := by rw [HSP.out, spl_last hno2]; simp
        have HF := Lib.hid hfin
        clear hno2 hfin
        go_wp2_with (at_builtin; refine app_str (by rfl) _ _ rfl (base := w.heap.size) rfl (HO.out.alloc _) rfl (rd_one_str wr (str rst)) (by omega) (by simp <;> omega) ?_)
        intro A4 c4 w4 ho4 hg4 hc4
        have HP := Lib.hid (own_below HO.out HB.out _ hg4 hsw)
        have HO4 := Lib.hid ho4
        clear ho4 hg4 hc4
        go_wp2
        go_ret
        have hl : n + 1 = (ws.map str ++ [str rst]).length := by simp; exact HN.out.symm
        rw [HF.out]
        refine ⟨A4, c4, by rw [← hl]; rfl, by rw [← hl]; exact HO4.out, HP.out⟩
end Go.Proofs.YtddieenjdaociaaGreatDoor
