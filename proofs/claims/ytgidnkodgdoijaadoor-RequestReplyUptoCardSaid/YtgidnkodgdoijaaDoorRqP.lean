/- The walk of request.split: the words of a text. -/
import Derived.Test.YtgidnkodgdoijaaDoorRqU
import Derived.Deep.LoopGhost
namespace Go.Proofs.YtgidnkodgdoijaaDoor
open Go Go.RowKit
set_option linter.unusedVariables false

theorem step_app_str {w : World} {ops : Array Oper} {o : Oper} {a : Act} {K : Act → World → Prop} {Q : Exit → Act → World → Prop} {E : Prop} (hgd : o.guard = none) (s x : Operand)
    (ho : o.op = .call { callee := .builtin .append, args := #[s, x], argTypes := #[33, 33] })
    {base : Nat} {v : Value} {n : Nat} {xs : List ByteArray} (hs : a.eval s = v) (hown : w.ownsRow base 9 1 v n (strs xs))
    {B : Nat} {A : Option Addr} {m c : Nat} {ys : List ByteArray} (hx : a.eval x = .slice A m c) (hr : Rd w B 1 A m (strs ys))
    (hlen : n + m ≤ 8796093022208) (hbase : base ≤ w.heap.size)
    (h : ∀ A' c' w', w'.ownsRow base 9 1 (.slice A' (n + m) c') (n + m) (strs (xs ++ ys)) → w.grownBy w' v.ownBlock → K (a.put o.dst (.slice A' (n + m) c')) w') :
    if Region.wanted o (yielded ops a.tmps) = true then Oper.wp Tryd.prog o a w K Q else E := by
  have hw : Region.wanted o (yielded ops a.tmps) = true := by simp [Region.wanted, hgd]
  rw [if_pos hw]
  obtain ⟨A', c', w', hrun, h2, h3, h4⟩ := run_app_str o.type hown (c := c) hr hlen hbase
  unfold Oper.wp execOp
  simp only [ho, resolve, invoke, builtin, Sem.run_bind, Sem.run_pure, Result.andThen_ok, List.map_toArray, List.map_cons, List.map_nil, hs, hx, hrun]
  exact h A' c' w' h2 h3
theorem drop_get (L : List UInt8) (j : Nat) (b : UInt8) (h : L[j]? = some b) : L.drop j = b :: L.drop (j + 1) := by
  obtain ⟨h2, h3⟩ := List.getElem?_eq_some_iff.1 h
  rw [List.drop_eq_getElem_cons h2, h3]
/-- A word that is done. -/
theorem spl_done {L : List UInt8} {j : Nat} (h : L[j]? = some 32) (hn : (32 : UInt8) ∉ L.take j) : Rq.spl L = L.take j :: Rq.spl (L.drop (j + 1)) := by
  conv => lhs; rw [← List.take_append_drop j L, drop_get L j 32 h]
  rw [Rq.spl_word _ _ hn, Rq.spl_space]
  simp [Rq.pre]
theorem spl_last {L : List UInt8} (hn : (32 : UInt8) ∉ L) : Rq.spl L = [L] := by
  have := Rq.spl_word L [] hn
  rw [List.append_nil] at this
  rw [this]; simp [Rq.spl, Rq.pre]
set_option maxRecDepth 100000 in
set_option maxHeartbeats 8000000 in
theorem split_any (s : ByteArray) (hs : s.size ≤ 1000000) (w : World) : Calls Tryd.prog 28 #[.string s] w (RetS 9 ((Rq.spl (lst s)).map str) w) := by
  go_enter Tryd.func28, Tryd.ntmps28
  go_wp2
  go_step3
  go_wp2
  go_step3
  go_wp2
  go_loopg [0, 3] s.size (fun gg vs vl wr => ∃ (rst : List UInt8) (ws : List (List UInt8)) (A : Option Addr) (c n : Nat), vs = .string (str rst) ∧ vl = .slice A n c ∧ ws.length = n ∧ wr.ownsRow w.heap.size 9 1 (.slice A n c) n (strs (ws.map str)) ∧ Below w.heap.size w wr ∧
      n + rst.length ≤ s.size ∧ Rq.spl (lst s) = ws ++ Rq.spl rst ∧ rst.length = gg)
  case atStart => exact ⟨lst s, [], none, 0, 0, by rw [str_lst], rfl, rfl, World.ownsRow_nil _ _ _ _, Below.refl _ _, by rw [lst_length]; omega, rfl, lst_length s⟩
  case round =>
    obtain ⟨rst, ws, A, c, n, rfl, rfl, hn, ho, hb, hlen, hsp, hgg⟩ := hrel
    have HGG := Lib.hid hgg; clear hgg
    have HO := Lib.hid ho; have HB := Lib.hid hb; have HSP := Lib.hid hsp; have HN := Lib.hid hn
    have hsw := hb.size
    have hsz : (str rst).size = rst.length := str_size rst
    clear ho hb hsp hn
    go_wp2_with fail
    go_loopg [0, 3, 7] rst.length (fun gi vs vl vj wq => ∃ j : Nat, j + gi = rst.length ∧ vs = .string (str rst) ∧ vl = .slice A n c ∧ vj = .int .i64 j ∧ (32 : UInt8) ∉ rst.take j ∧ wr = wq)
    case atStart => exact ⟨0, by omega, rfl, rfl, rfl, by simp, rfl⟩
    case round =>
      obtain ⟨j, hj, rfl, rfl, rfl, hno, rfl⟩ := hrel
      have HNO := Lib.hid hno; clear hno
      by_cases hlt : j < rst.length
      · have hat := lst_at (str rst) j (by omega)
        rw [lst_str] at hat
        by_cases h32 : (str rst)[j] = 32
        · have hd := spl_done (hat.trans (congrArg some h32)) HNO.out
          have g2 : (((str rst)[j].toNat : Int) == 32) = true := by rw [h32]; rfl
          have hex1 := extract_take (str rst) j (by omega)
          have hex2 := extract_drop (str rst) (j + 1) (by omega)
          rw [lst_str] at hex1 hex2
          rw [hsz] at hex2
          have q1 : (j : Int) ≤ (rst.length : Int) := by omega
          have q1n : j ≤ rst.length := by omega
          have q2 : IntKind.i64.wrap ((j : Int) + 1) = (j : Int) + 1 := IntWalk.i64_in _ (by omega)
          have q3 : (0 : Int) ≤ (j : Int) + 1 := by omega
          have q4 : (j : Int) + 1 ≤ (rst.length : Int) := by omega
          have hwl : (ws ++ [rst.take j]).map str = ws.map str ++ [str (rst.take j)] := by simp
          have HWL := Lib.hid hwl; clear hwl
          have HD := Lib.hid hd
          clear hat h32 hd
          go_wp2_with fail
          refine wp_region_any (by kernel_rfl) ?_
          change wpAny _ _ _ _ 12 #[false, false, false, false, false, false, false, false, false, false, false, false] _ (World.drew _)
          refine wpAny_take (i := 0) (v := .slice A n c) rfl (by kernel_rfl) (by kernel_rfl) (by kernel_rfl) (fun _ _ _ h => h) (Or.inl ⟨by rfl, fun w => ?_⟩) ?_
          · go_simp
          try simp only [Act.put, List.setIfInBounds_toArray, List.set_cons_zero, List.set_cons_succ]
          refine wpAny_take (i := 1) (v := .string (str rst)) rfl (by kernel_rfl) (by kernel_rfl) (by kernel_rfl) (fun _ _ _ h => h) (Or.inl ⟨by rfl, fun w => ?_⟩) ?_
          · go_simp
          try simp only [Act.put, List.setIfInBounds_toArray, List.set_cons_zero, List.set_cons_succ]
          refine wpAny_take (i := 2) (v := .int .i64 j) rfl (by kernel_rfl) (by kernel_rfl) (by kernel_rfl) (fun _ _ _ h => h) (Or.inl ⟨by rfl, fun w => ?_⟩) ?_
          · go_simp
          try simp only [Act.put, List.setIfInBounds_toArray, List.set_cons_zero, List.set_cons_succ]
          refine wpAny_take (i := 3) (v := .string (str (rst.take j))) rfl (by kernel_rfl) (by kernel_rfl) (by kernel_rfl) (fun _ _ _ h => h) (Or.inl ⟨by rfl, fun w => ?_⟩) ?_
          · go_simp
          try simp only [Act.put, List.setIfInBounds_toArray, List.set_cons_zero, List.set_cons_succ]
          refine wpAny_take (i := 6) (v := .string (str rst)) rfl (by kernel_rfl) (by kernel_rfl) (by kernel_rfl) (fun _ _ _ h => h) (Or.inl ⟨by rfl, fun w => ?_⟩) ?_
          · go_simp
          try simp only [Act.put, List.setIfInBounds_toArray, List.set_cons_zero, List.set_cons_succ]
          refine wpAny_take (i := 7) (v := .int .i64 j) rfl (by kernel_rfl) (by kernel_rfl) (by kernel_rfl) (fun _ _ _ h => h) (Or.inl ⟨by rfl, fun w => ?_⟩) ?_
          · go_simp
          try simp only [Act.put, List.setIfInBounds_toArray, List.set_cons_zero, List.set_cons_succ]
          refine wpAny_take (i := 8) (v := .int .i64 (j + 1)) rfl (by kernel_rfl) (by kernel_rfl) (by kernel_rfl) (fun _ _ _ h => h) (Or.inl ⟨by rfl, fun w => ?_⟩) ?_
          · go_simp
          try simp only [Act.put, List.setIfInBounds_toArray, List.set_cons_zero, List.set_cons_succ]
          refine wpAny_take (i := 9) (v := .string (str (rst.drop (j + 1)))) rfl (by kernel_rfl) (by kernel_rfl) (by kernel_rfl) (fun _ _ _ h => h) (Or.inl ⟨by rfl, fun w => ?_⟩) ?_
          · go_simp
          try simp only [Act.put, List.setIfInBounds_toArray, List.set_cons_zero, List.set_cons_succ]
          refine wpAny_ready (rs := [4]) (by kernel_rfl) (by simp) ?_
          refine AllReady.cons rfl (fun K hK => ?_) AllReady.nil
          go_simp
          refine hK _ _ ?_
          clear hK K
          try simp only [Act.put, List.setIfInBounds_toArray, List.set_cons_zero, List.set_cons_succ]
          refine wpAny_ready (rs := [5]) (by kernel_rfl) (by simp) ?_
          refine AllReady.cons rfl (fun K hK => ?_) AllReady.nil
          refine step_app_str (by rfl) (.tmp 14) (.tmp 18) (by rfl) (base := w.heap.size) (by rfl) (HO.out.drew.alloc _) (by rfl) (rd_one_str wr.drew (str (rst.take j))) (by omega) (by simp; omega) ?_
          intro A4 c4 w4 ho4 hg4
          have HP := Lib.hid (own_below HO.out.drew HB.out.drew _ hg4 hsw)
          have HO4 := Lib.hid ho4
          clear ho4 hg4
          refine hK _ _ ?_
          clear hK K
          try simp only [Act.put, List.setIfInBounds_toArray, List.set_cons_zero, List.set_cons_succ]
          simp only [List.getElem_toArray, List.getElem_cons_succ, List.getElem_cons_zero, List.set_cons_zero, List.set_cons_succ]
          refine wpAny_take (i := 10) (v := .slice A4 (n + 1) c4) rfl (by kernel_rfl) (by kernel_rfl) (by kernel_rfl) (fun _ _ _ h => h) (Or.inl ⟨by rfl, fun w => ?_⟩) ?_
          · go_simp
          try simp only [Act.put, List.setIfInBounds_toArray, List.set_cons_zero, List.set_cons_succ]
          refine wpAny_ready (rs := [11]) (by kernel_rfl) (by simp) ?_
          refine AllReady.cons rfl (fun K hK => ?_) AllReady.nil
          go_simp
          refine hK _ _ ?_
          clear hK K
          try simp only [Act.put, List.setIfInBounds_toArray, List.set_cons_zero, List.set_cons_succ]
          refine wpAny_done (by kernel_rfl) ?_ _
          go_step
          go_wp2
          go_roundg (rst.length - (j + 1))
          case measure => have := HGG.out; omega
          case rel => exact ⟨rst.drop (j + 1), ws ++ [rst.take j], A4, c4, n + 1, rfl, rfl, by simp; exact HN.out, by rw [HWL.out]; exact HO4.out, HP.out, by rw [List.length_drop]; omega, by rw [HSP.out, HD.out]; simp, by rw [List.length_drop]⟩
        · have hno2 : (32 : UInt8) ∉ rst.take (j + 1) := by
            rw [List.take_add_one, hat]
            simp
            exact ⟨HNO.out, fun e => h32 e.symm⟩
          have HNO2 := Lib.hid hno2
          have g2 : (((str rst)[j].toNat : Int) == 32) = false := by
            rw [beq_eq_false_iff_ne]
            intro e
            apply h32
            apply UInt8.toNat_inj.1
            show ((str rst)[j]).toNat = 32
            omega
          clear hat h32 hno2
          go_wp2
          go_roundg (rst.length - (j + 1))
          case measure => omega
          case rel => exact ⟨j + 1, by omega, rfl, rfl, by go_num, HNO2.out, rfl⟩
      · have hjn : j = rst.length := by omega
        have hno2 : (32 : UInt8) ∉ rst := by
          have := HNO.out
          rwa [hjn, List.take_length] at this
        have hfin : (Rq.spl (lst s)).map str = ws.map str ++ [str rst] := by rw [HSP.out, spl_last hno2]; simp
        have HF := Lib.hid hfin
        clear hno2 hfin
        go_wp2_with (at_builtin; refine app_str (by rfl) _ _ rfl (base := w.heap.size) rfl (HO.out.alloc _) rfl (rd_one_str wr (str rst)) (by omega) (by simp <;> omega) ?_)
        intro A4 c4 w4 ho4 hg4 hc4
        have HP := Lib.hid (own_below HO.out HB.out _ hg4 hsw)
        have HO4 := Lib.hid ho4
        clear ho4 hg4 hc4
        go_wp2
        go_ret
        have hl : n + 1 = (ws.map str ++ [str rst]).length := by simp; exact HN.out.symm
        rw [HF.out]
        refine ⟨A4, c4, by rw [← hl]; rfl, by rw [← hl]; exact HO4.out, HP.out⟩
end Go.Proofs.YtgidnkodgdoijaaDoor
