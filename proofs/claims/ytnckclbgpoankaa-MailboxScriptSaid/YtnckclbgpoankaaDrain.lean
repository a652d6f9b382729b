/- The walk of a box's Drain: the loop by induction on what the box holds. -/
import Derived.Test.YtnckclbgpoankaaMail
import Derived.Test.YtnckclbgpoankaaAppend
namespace Go.Proofs.Ytnckclbgpoankaa
open Go Go.RowKit Go.Conc
set_option linter.unusedVariables false

def firstLoop : Code → Option Code
  | .loop c => some c
  | .seq a b => match firstLoop a with
    | some c => some c
    | none => firstLoop b
  | .block _ c => firstLoop c
  | .scope c => firstLoop c
  | .cond _ a b => match firstLoop a with
    | some c => some c
    | none => firstLoop b
  | _ => none
noncomputable def dBody : Code := ((Try.f26.body.bind firstLoop).getD .skip)

theorem stepG_scope {P : Program} {main : Bool} {b : Frame} {a : Act} {k : List Item} {cs : List Frame} {w : World} {c : Code} :
    stepG P main (G (b.at a (.code (.scope c) :: k)) cs) w = .go (G (b.at a (.code c :: .inScope c :: k)) cs) w := by simp [G, stepG, stepG.exec, Frame.at]
theorem stepG_inScope {P : Program} {main : Bool} {b : Frame} {a : Act} {k : List Item} {cs : List Frame} {w : World} {c : Code} :
    stepG P main (G (b.at a (.inScope c :: k)) cs) w = .go (G (b.at a k) cs) w := by simp [G, stepG, stepG.exec, Frame.at]

/-- An append, as one step of the machine. -/
theorem exec_app {P : Program} {o : Oper} {a : Act} {w w' : World} {s x : Operand} {t : TypeId} {v v' y : Value}
    (ho : o.op = .call { callee := .builtin .append, args := #[s, x], argTypes := #[t, t] }) (hs : a.eval s = v) (hx : a.eval x = y)
    (hrun : (Builtin.append_ #[t, t] o.type #[v, y]).run P w = .ok v' w') : (execOp a.eval o).run P w = .ok (.value v') w' := by
  unfold execOp
  simp only [ho, resolve, invoke, builtin, Sem.run_bind, Sem.run_pure, Result.andThen_ok, List.map_toArray, List.map_cons, List.map_nil, hs, hx, hrun]

set_option maxRecDepth 100000 in
theorem drain_loop (k : List Item) (cs : List Frame) (Q : Goroutine → World → Prop) (g c cap : Nat) (w0 : World) (hg0 : g < w0.heap.size) (hc0 : c < w0.heap.size) :
    ∀ (l xs : List ByteArray) (w : World) (A : Option Addr) (c' : Nat) (u1 u4 u5 u6 u7 u8 u9 u10 u11 u12 u13 u14 u15 u16 u17 : Value),
      Box w g c cap l → w.ownsRow w0.heap.size 9 1 (.slice A xs.length c') xs.length (strs xs) → w0.grownBy w (some c) → (xs ++ l).length ≤ 8796093022208 →
      (∀ (w' : World) (A' : Option Addr) (d : Nat) (u1 u4 u5 u6 u7 u8 u9 u10 u11 u12 u13 u14 u15 u16 u17 : Value), Box w' g c cap [] → w'.ownsRow w0.heap.size 9 1 (.slice A' (xs ++ l).length d) (xs ++ l).length (strs (xs ++ l)) → w0.grownBy w' (some c) →
        LoneTo Try.prog Q (G ((base 26).at ⟨#[.pointer (some ⟨g, 0, none⟩), u1, .slice none 0 0, .slice A' (xs ++ l).length d, u4, u5, u6, u7, u8, u9, u10, u11, u12, u13, u14, u15, u16, u17], []⟩ k) cs) w') →
      LoneTo Try.prog Q (G ((base 26).at ⟨#[.pointer (some ⟨g, 0, none⟩), u1, .slice none 0 0, .slice A xs.length c', u4, u5, u6, u7, u8, u9, u10, u11, u12, u13, u14, u15, u16, u17], []⟩ (.code dBody :: .inLoop dBody :: .inBlock 0 :: k)) cs) w := by
  intro l
  induction l with
  | nil =>
    intro xs w A c' u1 u4 u5 u6 u7 u8 u9 u10 u11 u12 u13 u14 u15 u16 u17 hx ho hg hlen hend
    have hcell := hx.cell
    obtain ⟨_, s, r, h2⟩ := id hx
    refine LoneTo.goes (n := 40) ?_
    unfold dBody
    simp only [Try.f26, Option.bind_some, firstLoop, Option.getD_some]
    s_c stepG_block
    s_c stepG_seq
    s_reg
    s_op
    s_op
    s_op
    s_op
    s_c stepG_region_end
    s_c stepG_seq
    s_reg
    s_stop
    refine LoneTo.step (step_lone_select_default (c := c) (cap := cap) (s := s) (r := r) (tm := false) (z := .string ByteArray.empty)
      (stepG_comm (cases := #[rcase c (.string ByteArray.empty)]) (blocking := false) (shape := .select) (w' := w) rfl rfl (by decide) (by simp [go_sem, execOp, rcase, Act.eval]; rfl)) h2) ?_
    rw [Frame.finish_at]
    walk_nrm
    refine LoneTo.goes (n := 40) ?_
    s_op
    s_op
    s_c stepG_region_end
    s_c stepG_block
    s_cond false
    s_exit
    s_stop
    simp only [List.append_nil] at hend
    exact hend w A c' u1 u4 _ _ _ _ _ _ _ u12 u13 u14 u15 u16 u17 hx ho hg
  | cons t l ih =>
    intro xs w A c' u1 u4 u5 u6 u7 u8 u9 u10 u11 u12 u13 u14 u15 u16 u17 hx ho hg hlen hend
    have hcell := hx.cell
    obtain ⟨_, s, r, h2⟩ := id hx
    refine LoneTo.goes (n := 40) ?_
    unfold dBody
    simp only [Try.f26, Option.bind_some, firstLoop, Option.getD_some]
    s_c stepG_block
    s_c stepG_seq
    s_reg
    s_op
    s_op
    s_op
    s_op
    s_c stepG_region_end
    s_c stepG_seq
    s_reg
    s_stop
    refine LoneTo.step (step_lone_select_recv_buf (c := c) (cap := cap) (buf := txt (t :: l)) (closed := false) (s := s) (r := r) (tm := false) (z := .string ByteArray.empty)
      (stepG_comm (cases := #[rcase c (.string ByteArray.empty)]) (blocking := false) (shape := .select) (w' := w) rfl rfl (by decide) (by simp [go_sem, execOp, rcase, Act.eval]; rfl)) h2 (by simp [txt])) ?_
    have hb : (txt (t :: l)).extract 1 (txt (t :: l)).size = txt l := by
      simp [txt]; exact List.take_of_length_le (by simp)
    have hd : (txt (t :: l)).getD 0 undef = .string t := by simp [txt]
    rw [hb, hd]
    rw [Frame.finish_at]
    walk_nrm
    have hx1 : Box (w.setChan c cap (txt l) false s (r + 1) false) g c cap l := hx.set _ _ _
    have hg1 : w0.grownBy (w.setChan c cap (txt l) false s (r + 1) false) (some c) := only_trans hg (only_setChan c cap _ false _ _ false)
    have ho1 : (w.setChan c cap (txt l) false s (r + 1) false).ownsRow w0.heap.size 9 1 (.slice A xs.length c') xs.length (strs xs) :=
      ho.kept (only_setChan c cap (txt l) false s (r + 1) false) (by
        cases hob : (Value.slice A xs.length c').ownBlock with
        | none => exact .inl rfl
        | some q => exact .inr (by have := (ho.lt q hob).1; intro h; injection h; omega))
    clear hb hd h2 hcell hx ho hg
    generalize w.setChan c cap (txt l) false s (r + 1) false = w1 at *
    refine LoneTo.goes (n := 60) ?_
    s_op
    s_op
    s_c stepG_region_end
    s_c stepG_block
    s_cond true
    s_c stepG_seq
    s_reg
    s_op
    s_op
    s_c stepG_region_end
    s_reg
    s_op
    s_op
    s_op
    have hsz : w0.heap.size ≤ w1.heap.size := hg1.size
    obtain ⟨A', d, w2, hrun, ho2, hgr2, hat⟩ := run_app_str (w := w1.alloc (.cells #[.string t] 9)) 29 (ho1.alloc _) (c := 1) (rd_one_str w1 t) (by simp at hlen; omega) (by simp; omega)
    have hx2 : Box w2 g c cap l := by
      have hq : ∀ q, (Value.slice A xs.length c').ownBlock = some q → w0.heap.size ≤ q := fun q h => (ho1.lt q h).1
      exact (hx1.only (only_alloc (only_refl _ none) _) (by simp) (by simp)).only hgr2 (by intro h; have := hq g h.symm; omega) (by intro h; have := hq c h.symm; omega)
    have hg2 : w0.grownBy w2 (some c) := by
      have hq : ∀ q, (Value.slice A xs.length c').ownBlock = some q → w0.heap.size ≤ q := fun q h => (ho1.lt q h).1
      have h3 := only_alloc hg1 (.cells #[.string t] 9)
      exact ⟨hgr2.os.trans h3.os, hgr2.tape.trans h3.tape, hgr2.output.trans h3.output, Nat.le_trans h3.size hgr2.size, fun i hi hn =>
        (hgr2.block i (Nat.lt_of_lt_of_le hi h3.size) (fun h => by have := hq i h.symm; omega)).trans (h3.block i hi hn)⟩
    s_in
    refine goes_oper_k rfl rfl (by decide) (fun K hK => ?_)
    rw [exec_app (s := .tmp 13) (x := .tmp 15) rfl rfl rfl hrun]
    rw [uponK_value]
    refine hK _ _ ⟨trivial, ?_⟩
    clear hK K
    walk_nrm
    s_op
    s_c stepG_region_end
    s_c stepG_inBlock
    s_c stepG_inBlock
    s_c stepG_inLoop
    s_stop
    have hlen' : ((xs ++ [t]) ++ l).length ≤ 8796093022208 := by simpa using hlen
    have hln : (xs ++ [t]).length = xs.length + 1 := by simp
    rw [← hln] at ho2
    have hass : (xs ++ [t]) ++ l = xs ++ t :: l := by simp
    have IH := ih (xs ++ [t]) w2 A' d u1 (.string t) (.pointer (some ⟨g, 0, none⟩)) (.pointer (some ⟨g, 0, none⟩)) (.pointer (some ⟨g, 0, none⟩)) (.chan (some c)) (.tuple #[goInt 0, .bool true, .string t]) (.int .i64 0) (.bool true) (.string t) (.slice A xs.length c') (.string t) (.slice (some ⟨w1.heap.size, 0, none⟩) 1 1) (.slice A' (xs ++ [t]).length d) u17 hx2 ho2 hg2 hlen' (by rw [hass]; exact hend)
    rw [hln] at IH
    exact IH

/-- Drain: all that the box holds, as a new slice; the box is empty then. -/
def RetDrain (l : List ByteArray) (g c cap : Nat) (w : World) (e : Ending) (w' : World) : Prop :=
  ∃ A d, e = .returned (.slice A l.length d) ∧ w'.ownsRow w.heap.size 9 1 (.slice A l.length d) l.length (strs l) ∧ Box w' g c cap [] ∧ w.grownBy w' (some c)
set_option maxRecDepth 100000 in
theorem drain_any (g c cap : Nat) (l : List ByteArray) (w : World) (hx : Box w g c cap l) (hlen : l.length ≤ 8796093022208) :
    Calls Try.prog 26 #[.pointer (some ⟨g, 0, none⟩)] w (RetDrain l g c cap w) := by
  refine calls_of_loneTo (fun cs => ?_) (fun w' h => by obtain ⟨_, _, h, _⟩ := h; cases h)
  have e : Frame.enter Try.prog 26 #[.pointer (some ⟨g, 0, none⟩)] .normal = (base 26).at ⟨#[.pointer (some ⟨g, 0, none⟩), undef, undef, undef, undef, undef, undef, undef, undef, undef, undef, undef, undef, undef, undef, undef, undef, undef], []⟩ [.code (Try.f26.body.getD .skip)] := by
    simp [Frame.enter, Frame.at, Try.func26, base, Try.f26]
  rw [e]
  clear e
  refine LoneTo.goes (n := 20) ?_
  simp only [Try.f26, Option.getD_some]
  s_c stepG_seq
  s_reg
  s_op
  s_c stepG_region_end
  s_c stepG_scope
  s_c stepG_seq
  s_reg
  s_op
  s_c stepG_region_end
  s_c stepG_seq
  s_c stepG_label
  s_c stepG_seq
  s_c stepG_block
  s_c stepG_loop
  s_stop
  refine drain_loop _ cs _ g c cap w hx.lt.1 hx.lt.2.1 l [] w none 0 undef undef undef undef undef undef undef undef undef undef undef undef undef undef undef hx (World.ownsRow_nil _ _ _ _) (only_refl _ _) (by simpa using hlen) ?_
  simp only [List.nil_append]
  intro w' A' d u1 u4 u5 u6 u7 u8 u9 u10 u11 u12 u13 u14 u15 u16 u17 hx' ho' hg'
  refine LoneTo.goes (n := 20) ?_
  s_c stepG_seq
  s_reg
  s_op
  s_op
  s_c stepG_region_end
  s_c stepG_ret'
  s_stop
  refine LoneTo.done ⟨.returned (.slice A' l.length d), _, rfl, ⟨A', d, rfl, ho', hx', hg'⟩, rfl, rfl, rfl, rfl, _, Try.func26, by simp [results, Try.f26, Frame.at]⟩
end Go.Proofs.Ytnckclbgpoankaa
