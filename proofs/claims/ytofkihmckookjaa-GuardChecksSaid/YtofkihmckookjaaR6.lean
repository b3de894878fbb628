/-
  CHECKING AN EXPRESSION: boolexp.Check for every expression.
-/
import Derived.Test.YtofkihmckookjaaR5
namespace Go.Proofs.Ytofkihmckookjaa
open Go Go.Am

section
variable {P : Program} {w0 : World} {N0 : Nat}

theorem ct_yieldh {id sp size : Nat} {args : List AV} {ltm l0 : List (Nat × AV)} {ps : List Nat} {ca cb : Code} {df : Nat × Nat} {ia ib : IC} {H : HS} {F : AV → HS → Prop} (hl : Am.look id H.heap = some (sp, .loop .ready none size (tmOf ltm) ps ca cb df))
    (ha : Com P ca ia) (hb : Com P cb ib) (hps : ps.length = args.length) (hlt : ∀ p ∈ ps, p < size) (hput : putAll ps args (tmOf ltm) = tmOf l0)
    (h : Zm P w0 N0 (some (some (id, sp))) ia (st size l0 H.heap H.next H.clk) [] fun e S1 => e = .normal ∧ ∃ l1 hp1 n1 c1, S1 = st size l1 hp1 n1 c1 ∧ Am.look id hp1 = some (sp, .loop .ready none size (tmOf ltm) ps ca cb df) ∧
      Zm P w0 N0 (some (some (id, sp))) ib (st size l1 (putl id (sp, .loop .busy none size (tmOf ltm) ps ca cb df) hp1) n1 c1) [] (RoundQ id sp F)) : CT P w0 N0 (.yield id sp) args H F := by
  refine CT_yield hl ha hb hps hlt ?_
  have e : AS.round size (tmOf ltm) ps args H = st size l0 H.heap H.next H.clk := by
    unfold AS.round st
    rw [hput]
  rw [e]
  refine T_mono h.ok fun e S1 ⟨he, l1, hp1, n1, c1, hS, hlk, hz⟩ => ⟨he, ?_⟩
  subst hS
  exact ⟨size, tmOf ltm, ps, ca, cb, df, hlk, hz.ok⟩

end

theorem res_cell1 {S : AS} {a : Nat} {pa va : AV} {ra : List AV} (h1 : S.get a = some pa) (d1 : S.deref pa = some (va :: ra)) : S.res [.cell a none] = some va := by
  simp [AS.res, AS.resL, loadA, h1, d1]

noncomputable def ca59 : Code := match env0.fn 59 with
  | some i => ((rangesOf i.ic).headD (.skip, .skip)).1
  | none => .skip

noncomputable def cb59 : Code := match env0.fn 59 with
  | some i => ((rangesOf i.ic).headD (.skip, .skip)).2
  | none => .skip

def asg59 : IC := .region [⟨(some 9), .alloc [.int .i64 0, .int .i64 0, .nils], none⟩,
    ⟨none, .store 3 (.t 9) (.t 28), none⟩] none

def body59 : IC := .block 1 (.seq (.region [⟨(some 29), .load (some 3) (.t 9), none⟩,
    ⟨(some 30), .load none (.t 3), none⟩,
    ⟨(some 31), .call (.c (.fn 88 [] [])) [(.t 29), (.t 30)], none⟩,
    ⟨(some 10), .mov (.t 31), none⟩] none)
  (.seq (.region [⟨(some 32), .mov (.t 10), none⟩,
    ⟨(some 33), .bin .neq (.t 32) (.c (.int .i64 0)), none⟩] none)
  (.cond (.t 33) (.seq (.region [⟨(some 34), .mov (.t 10), none⟩,
    ⟨none, .store 1 (.t 4) (.t 34), none⟩] none)
  (.ret))
  (.skip))))

-- pneumatic/boolexp.Check
noncomputable def ic59 : IC := .seq (.region [⟨(some 2), .box (.t 0), none⟩,
    ⟨(some 3), .box (.t 1), none⟩,
    ⟨(some 4), .alloc [.int .i64 0], none⟩] none)
  (.seq (.seq (.region [⟨(some 11), .load none (.t 3), none⟩,
    ⟨(some 12), .bin .lss (.t 11) (.c (.int .i64 0)), none⟩,
    ⟨(some 13), .mov (.t 12), none⟩,
    ⟨(some 14), .load none (.t 3), some (13, false)⟩,
    ⟨(some 15), .bin .gtr (.t 14) (.c (.int .i64 256)), some (13, false)⟩,
    ⟨(some 16), .pick (.t 13) (.c (.bool true)) (.t 15), none⟩] none)
  (.cond (.t 16) (.seq (.region [⟨none, .store 1 (.t 4) (.c (.int .i64 2)), none⟩] none)
  (.ret))
  (.skip)))
  (.seq (.seq (.region [⟨(some 18), .load (some 3) (.t 2), none⟩,
    ⟨(some 19), .call (.c (.fn 86 [] [])) [(.t 18)], none⟩,
    ⟨(some 17), .mov (.t 19), none⟩,
    ⟨(some 20), .extract (.t 17) 0, none⟩,
    ⟨(some 21), .extract (.t 17) 1, none⟩,
    ⟨(some 22), .extract (.t 17) 2, none⟩,
    ⟨(some 5), .mov (.t 20), none⟩,
    ⟨(some 6), .mov (.t 21), none⟩,
    ⟨(some 7), .mov (.t 22), none⟩] none)
  (.seq (.region [⟨(some 23), .mov (.t 7), none⟩,
    ⟨(some 24), .un .not (.t 23), none⟩] none)
  (.cond (.t 24) (.seq (.region [⟨none, .store 1 (.t 4) (.c (.int .i64 5)), none⟩] none)
  (.ret))
  (.skip))))
  (.seq (.seq (.region [⟨(some 25), .load (some 3) (.t 2), none⟩,
    ⟨(some 26), .call (.c (.fn 87 [] [])) [(.t 25)], none⟩] none)
  (.block 0 (.rangeFunc (.t 26) [27, 28] ca59 cb59 asg59 body59)))
  (.seq (.region [⟨none, .store 1 (.t 4) (.c (.int .i64 0)), none⟩] none)
  (.ret)))))
theorem fn59 : env0.fn 59 = some ⟨35, ic59, [.cell 4 none]⟩ := by kernel_rfl



def nodeX (n : Int) : Ex → Int
  | .nd op ix args => nodeV op ix args.length n

def stepC (n : Int) (s : Unit) (_ : Int) (x : Ex) : Unit ⊕ Int := if nodeX n x = 0 then .inl s else .inr (nodeX n x)

structure I59 (ltm : List (Nat × AV)) (n : Int) (_ : Unit) (H : HS) : Prop where
  nx : 5 ≤ H.next
  h4 : Am.look 4 H.heap = some (4, .loop .ready none 35 (tmOf ltm) [27, 28] ca59 cb59 (3, 3))
  h3 : Am.look 3 H.heap = some (3, .deferred)
  h2 : Am.look 2 H.heap = some (2, .cells [.int .i64 0])
  h1 : Am.look 1 H.heap = some (1, .cells [.int .i64 n])

structure J59 (t : Int) (H : HS) : Prop where
  nx : 5 ≤ H.next
  h4 : ∃ tm, Am.look 4 H.heap = some (4, .loop .done (some .ret) 35 tm [27, 28] ca59 cb59 (3, 3))
  h3 : Am.look 3 H.heap = some (3, .deferred)
  h2 : Am.look 2 H.heap = some (2, .cells [.int .i64 t])

theorem local59 (ltm : List (Nat × AV)) (n : Int) : Local (fun i => i < 5) (I59 ltm n) :=
  ⟨fun s H h i hi => Nat.lt_of_lt_of_le hi h.nx, fun s H H' h hn hl =>
    ⟨Nat.le_trans h.nx hn, (hl 4 (by decide)).trans h.h4, (hl 3 (by decide)).trans h.h3, (hl 2 (by decide)).trans h.h2, (hl 1 (by decide)).trans h.h1⟩⟩

set_option maxHeartbeats 2000000 in
theorem yield59 {w0 : World} {N0 : Nat} (ltm : List (Nat × AV)) (g3 : argA (.t 3) ltm = some (.mptr 1 1 0)) (g4 : argA (.t 4) ltm = some (.mptr 2 2 0)) (n : Int) (hn : 0 ≤ n ∧ n ≤ 256) (ha : Com Try.prog ca59 asg59) (hb : Com Try.prog cb59 body59) (s : Unit) (d : Int) (x : Ex) (H : HS) (h : I59 ltm n s H) :
    CT Try.prog w0 N0 (.yield 4 4) [.int .i64 d, .agg (cX x)] H (Left (fun i => i < 5) (I59 ltm n) J59 H (stepC n s d x)) := by
  obtain ⟨op, ix, args⟩ := x
  obtain ⟨nx, h4, h3, h2, h1⟩ := h
  have q4 : H.next ≠ 4 := by omega
  refine ct_yieldh (l0 := (28, .agg (cX (.nd op ix args))) :: (27, .int .i64 d) :: ltm) h4 ha hb rfl (by decide) rfl ?_
  unfold asg59
  repeat (first | refine z_region rfl ?_ | refine o_alloc ?_)
  refine o_store (sp := H.clk) (cs := [.int .i64 0, .int .i64 0, .nils]) rfl rfl rfl rfl look_top rfl rfl ?_
  repeat (first | refine o_nil ?_)
  refine u_end ⟨rfl, _, _, _, _, rfl, ?_, ?_⟩
  · rw [putl_top, look_cons, if_neg (by omega)]; exact h4
  rw [putl_top]
  unfold body59
  repeat (first | refine z_seq ?_ | refine z_region rfl ?_ | refine z_block ?_)
  refine o_loadnm (sp := H.clk) (cs := cX (.nd op ix args)) rfl (by rw [look_putl, if_neg (by omega)]; exact look_top) (by omega) rfl rfl ?_
  refine o_loadm (sp := 1) (cs := [.int .i64 n]) g3 (by rw [look_putl, if_neg (by decide), look_new (by omega)]; exact h1) (by omega) rfl ?_
  refine o_call rfl rfl (node88 op ix n args hn) (fun h => Bool.noConfusion (show false = true from h)) ?_
  repeat (first | refine z_seq ?_ | refine z_region rfl ?_ | refine o_nil ?_ | refine u_seq ?_ | refine o_mov rfl ?_)
  refine o_cmp rfl rfl rfl (fun hg => ?_) fun hg => ?_
  · have hg := bne_iff_ne.1 hg
    repeat (first | refine z_seq ?_ | refine z_region rfl ?_ | refine o_nil ?_ | refine u_seq ?_ | refine z_ct rfl ?_ | refine o_mov rfl ?_)
    refine o_store (sp := 2) (cs := [.int .i64 0]) g4 rfl rfl rfl (by rw [look_putl, if_neg (by decide), look_new (by omega)]; exact h2) rfl rfl ?_
    repeat (first | refine o_nil ?_ | refine u_seq ?_ | refine z_ret ?_ | refine u_ret_blk ?_)
    refine u_end ⟨35, tmOf ltm, [27, 28], ca59, cb59, (3, 3), ?_, some .ret, rfl, ⟨Nat.le_succ _, Nat.le_succ _, fun i hi hj => ?_⟩, ?_⟩
    · dsimp only [st]
      rw [look_putl, if_neg (by decide), look_putl, if_pos rfl]
    · dsimp only [st]
      rw [look_putl, if_neg (by omega), look_putl, if_neg (by omega), look_putl, if_neg (by omega), look_new (by omega)]
    · unfold stepC
      rw [if_neg (show ¬ nodeX n (.nd op ix args) = 0 from hg)]
      refine ⟨rfl, Nat.le_succ_of_le nx, ⟨tmOf ltm, ?_⟩, ?_, ?_⟩
      · dsimp only [st]
        rw [look_putl, if_pos rfl]; rfl
      · dsimp only [st]
        rw [look_putl, if_neg (by decide), look_putl, if_neg (by decide), look_putl, if_neg (by decide), look_new (by omega)]; exact h3
      · dsimp only [st]
        rw [look_putl, if_neg (by decide), look_putl, if_pos rfl]; rfl
  · have hg : nodeV op ix args.length n = 0 := by simpa using hg
    repeat (first | refine o_nil ?_ | refine u_seq ?_ | refine u_blk ?_ | refine z_skip ?_ | refine z_cf rfl ?_)
    refine u_end ⟨35, tmOf ltm, [27, 28], ca59, cb59, (3, 3), ?_, none, rfl, ⟨Nat.le_succ _, Nat.le_succ _, fun i hi hj => ?_⟩, ?_⟩
    · dsimp only [st]
      rw [look_putl, if_pos rfl]
    · dsimp only [st]
      rw [look_putl, if_neg (by omega), look_putl, if_neg (by omega), look_new (by omega)]
    · unfold stepC
      rw [if_pos (show nodeX n (.nd op ix args) = 0 from hg)]
      refine ⟨rfl, Nat.le_succ_of_le nx, ?_, ?_, ?_, ?_⟩
      · dsimp only [st]
        rw [look_putl, if_pos rfl]; rfl
      all_goals
        dsimp only [st]
        rw [look_putl, if_neg (by decide), look_putl, if_neg (by decide), look_new (by omega)]
      · exact h3
      · exact h2
      · exact h1

/-- What boolexp.Check answers. -/
def checkV (x : Ex) (n : Int) : Int := if n < 0 ∨ n > 256 then 2 else match walkX stepM 1 x (0, 0) with
  | .inr _ => 5
  | .inl _ => match walkX (stepC n) 1 x () with
    | .inl _ => 0
    | .inr t => t

set_option maxHeartbeats 2000000 in
theorem check59 (x : Ex) (hs : Slim x) (n : Int) : PF Try.prog 59 [.agg (cX x), .int .i64 n] (.int .i64 (checkV x n)) := by
  obtain ⟨op, ix, args⟩ := x
  refine PF_of_Z env0_ok fn59 [(0, .agg (cX (.nd op ix args))), (1, .int .i64 n)] (by show 2 ≤ 35; decide) rfl fun w0 N0 => ?_
  unfold ic59
  repeat (first | refine z_seq ?_ | refine z_region rfl ?_ | refine o_nil ?_ | refine u_seq ?_ | refine o_load rfl rfl ?_ | refine o_alloc ?_ | refine o_box rfl rfl ?_)
  refine o_cmp rfl rfl rfl (fun hl => ?_) fun hl => ?_
  · have hl := of_decide_eq_true hl
    repeat (first | refine z_seq ?_ | refine z_region rfl ?_ | refine o_nil ?_ | refine u_seq ?_ | refine z_ct rfl ?_ | refine z_ret ?_ | refine u_ret_seq ?_ | refine o_gn rfl rfl ?_ | refine o_mov rfl ?_ | refine o_store rfl rfl rfl rfl rfl rfl rfl ?_ | refine o_pickt rfl rfl ?_)
    refine u_end ⟨.inr rfl, _, rfl, ?_⟩
    unfold checkV
    rw [if_pos (.inl hl)]
    rfl
  have hl := of_decide_eq_false hl
  repeat (first | refine o_gy rfl ?_ | refine o_mov rfl ?_ | refine o_load rfl rfl ?_)
  refine o_cmp rfl rfl rfl (fun hm => ?_) fun hm => ?_
  · have hm := of_decide_eq_true hm
    repeat (first | refine z_seq ?_ | refine z_region rfl ?_ | refine o_nil ?_ | refine u_seq ?_ | refine z_ct rfl ?_ | refine z_ret ?_ | refine u_ret_seq ?_ | refine o_store rfl rfl rfl rfl rfl rfl rfl ?_ | refine o_pickf rfl rfl ?_)
    refine u_end ⟨.inr rfl, _, rfl, ?_⟩
    unfold checkV
    rw [if_pos (.inr hm)]
    rfl
  have hm := of_decide_eq_false hm
  have hn : 0 ≤ n ∧ n ≤ 256 := ⟨by omega, by omega⟩
  unfold checkV
  rw [if_neg (fun h => h.elim hl hm)]
  repeat (first | refine z_seq ?_ | refine z_region rfl ?_ | refine o_nil ?_ | refine u_seq ?_ | refine z_skip ?_ | refine z_cf rfl ?_ | refine o_loadn rfl rfl rfl rfl ?_ | refine o_pickf rfl rfl ?_)
  have hme := measure86 (.nd op ix args) hs
  unfold measureV at hme
  cases hwk : walkX stepM 1 (.nd op ix args) (0, 0) with
  | inr u =>
    rw [hwk] at hme
    refine o_call rfl rfl hme (fun h => Bool.noConfusion (show false = true from h)) ?_
    repeat (first | refine z_seq ?_ | refine z_region rfl ?_ | refine o_nil ?_ | refine u_seq ?_ | refine z_ct rfl ?_ | refine z_ret ?_ | refine u_ret_seq ?_ | refine o_mov rfl ?_ | refine o_store rfl rfl rfl rfl rfl rfl rfl ?_ | refine o_un rfl rfl ?_ | refine o_extract rfl rfl ?_)
    refine u_end ⟨.inr rfl, _, rfl, rfl⟩
  | inl nm =>
    obtain ⟨nn, mm⟩ := nm
    rw [hwk] at hme
    refine o_call rfl rfl hme (fun h => Bool.noConfusion (show false = true from h)) ?_
    repeat (first | refine z_seq ?_ | refine z_region rfl ?_ | refine o_nil ?_ | refine u_seq ?_ | refine z_skip ?_ | refine z_cf rfl ?_ | refine o_mov rfl ?_ | refine o_loadn rfl rfl rfl rfl ?_ | refine o_un rfl rfl ?_ | refine o_extract rfl rfl ?_)
    refine o_call rfl rfl (preorder87 (.nd op ix args)) (fun h => Bool.noConfusion (show false = true from h)) ?_
    repeat (first | refine o_nil ?_ | refine u_seq ?_ | refine z_block ?_)
    refine z_range (.inl rfl) rfl fun ha hb => (range101 (local59 _ n) (fun s d x H h => yield59 _ rfl rfl n hn ha hb s d x H h) (.nd op ix args) ⟨_, _, _⟩ () hs ⟨Nat.le_refl _, rfl, rfl, rfl, rfl⟩).mono fun v H2 hF => ?_
    obtain ⟨hK, hF⟩ := hF
    cases hck : walkX (stepC n) 1 (.nd op ix args) () with
    | inl s =>
      rw [hck] at hF
      obtain ⟨nx, h4, h3, h2, h1⟩ := hF
      refine ⟨_, _, .normal, _, _, _, _, _, _, h4, by simp, rfl, fun z hz => ?_, ?_⟩
      · obtain rfl := List.mem_singleton.1 hz
        rw [look_dropl, if_neg (by decide)]; exact h3
      · repeat (first | refine z_seq ?_ | refine z_region rfl ?_ | refine u_seq ?_ | refine u_blk ?_)
        refine o_store (sp := 2) (cs := [.int .i64 0]) rfl rfl rfl rfl (by rw [look_dropl, if_neg (by decide)]; exact h2) rfl rfl ?_
        repeat (first | refine o_nil ?_ | refine u_seq ?_ | refine z_ret ?_)
        refine u_end ⟨.inr rfl, .int .i64 0, res_cell1 (get_st 4) (deref_of (sp := 2) (cs := [.int .i64 0]) ?_ ?_), rfl⟩
        · show Am.look 2 (dropl 3 (putl 2 _ (dropl 4 H2.heap))) = _
          rw [look_dropl, if_neg (by decide), look_putl, if_pos rfl]; rfl
        · show 2 < H2.next; omega
    | inr t =>
      rw [hck] at hF
      obtain ⟨nx, ⟨tm, h4⟩, h3, h2⟩ := hF
      refine ⟨_, _, .ret, _, _, _, _, _, _, h4, by simp, rfl, fun z hz => ?_, ?_⟩
      · obtain rfl := List.mem_singleton.1 hz
        rw [look_dropl, if_neg (by decide)]; exact h3
      · repeat (first | refine u_ret_seq ?_ | refine u_ret_blk ?_)
        refine u_end ⟨.inr rfl, .int .i64 t, res_cell1 (get_st 4) (deref_of (sp := 2) (cs := [.int .i64 t]) ?_ ?_), rfl⟩
        · show Am.look 2 (dropl 3 (dropl 4 H2.heap)) = _
          rw [look_dropl, if_neg (by decide), look_dropl, if_neg (by decide)]; exact h2
        · show 2 < H2.next; omega

end Go.Proofs.Ytofkihmckookjaa
