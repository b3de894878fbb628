/-
  THE VALUE OF AN EXPRESSION: boolexp.every over a sequence of values.
-/
import Derived.Test.YtofkihmckookjaaR11
namespace Go.Proofs.Ytofkihmckookjaa
open Go Go.Am

def body110 : IC := .seq (.region [⟨(some 10), .bin .lss (.t 9) (.t 8), none⟩] none)
  (.seq (.cond (.t 10) (.skip)
  (.exit 0))
  (.seq (.block 1 (.seq (.region [⟨(some 11), .idxs 3 (.t 7) (.t 9), none⟩,
    ⟨(some 12), .load (some 3) (.t 11), none⟩,
    ⟨(some 5), .alloc [.int .i64 0, .int .i64 0, .nils], none⟩,
    ⟨none, .store 3 (.t 5) (.t 12), none⟩] none)
  (.seq (.region [⟨(some 13), .mov (.t 0), none⟩,
    ⟨(some 14), .load (some 3) (.t 5), none⟩,
    ⟨(some 15), .load none (.t 2), none⟩,
    ⟨(some 16), .call (.c (.fn 100 [] [])) [(.t 14), (.t 15)], none⟩,
    ⟨(some 17), .call (.t 13) [(.t 16)], none⟩,
    ⟨(some 18), .un .not (.t 17), none⟩] none)
  (.cond (.t 18) (.ret)
  (.skip)))))
  (.region [⟨(some 19), .bin .add (.t 9) (.c (.int .i64 1)), none⟩,
    ⟨(some 9), .mov (.t 19), none⟩] none)))

-- pneumatic/boolexp.eval$1
def ic110 : IC := .seq (.region [⟨(some 6), .faddr 2 (.t 1), none⟩,
    ⟨(some 7), .load none (.t 6), none⟩,
    ⟨(some 8), .len false (.t 7), none⟩,
    ⟨(some 9), .mov (.c (.int .i64 0)), none⟩] none)
  (.block 0 (.loop body110))
theorem fn110 : env0.fn 110 = some ⟨20, ic110, []⟩ := by kernel_rfl


def tabE : Tab := [
  (111, [
    ([.bool false], .fn 115 [] [.vptr [.bool false]]),
    ([.bool true], .fn 115 [] [.vptr [.bool true]])])]

theorem tabE_ok : TabOk Try.prog tabE := TabOk.of_run (env0_ok.tab TabOk.nil (pure := [])) (n := 60) (by kernel_rfl)

theorem every111 : PF Try.prog 111 [.bool false] (.fn 115 [] [.vptr [.bool false]]) := tabE_ok _ (List.mem_cons_self ..) _ (List.mem_cons_self ..)

section
variable {σ τ : Type} {step : σ → Bool → σ ⊕ τ} {M : Nat → Prop} {I : σ → HS → Prop} {J : τ → HS → Prop}

def foldB (step : σ → Bool → σ ⊕ τ) : List Bool → σ → σ ⊕ τ
  | [], s => .inl s
  | b :: l, s => match step s b with
    | .inl s' => foldB step l s'
    | .inr t => .inr t

set_option maxHeartbeats 2000000 in
theorem seq110 {w0 : World} {N0 id sp : Nat} (v : List Bool) (op ix : Int) (args : List Ex) (hlen : args.length ≤ 256) (hev : ∀ y ∈ args, PF Try.prog 100 [.agg (cX y), vsB v] (.bool (holdB v y))) (hloc : Local M I) (hy : ∀ s b H, I s H → CT Try.prog w0 N0 (.yield id sp) [.bool b] H (Left M I J H (step s b))) (H : HS) (s : σ) (hI : I s H) :
    FT Try.prog w0 N0 110 [.yield id sp, .vptr (cX (.nd op ix args)), .vptr [vsB v]] H fun _ H' => Keep M H H' ∧ match foldB step (args.map (holdB v)) s with
      | .inl s' => I s' H'
      | .inr t => J t H' := by
  refine FT_of_Z env0_ok fn110 [(0, .yield id sp), (1, .vptr (cX (.nd op ix args))), (2, .vptr [vsB v])] (by show 3 ≤ 20; decide) rfl ?_
  unfold ic110
  repeat (first | refine z_seq ?_ | refine z_region rfl ?_ | refine o_nil ?_ | refine u_seq ?_ | refine z_block ?_ | refine o_mov rfl ?_ | refine o_load rfl rfl ?_ | refine o_faddrv rfl rfl rfl ?_ | refine o_len rfl rfl ?_)
  refine z_loop (fun m S => ∃ i s' H', m = args.length - i ∧ i ≤ args.length ∧ foldB step (args.map (holdB v)) s = foldB step ((args.drop i).map (holdB v)) s' ∧ I s' H' ∧ Keep M H H' ∧
      S = st 20 [(0, .yield id sp), (2, .vptr [vsB v]), (7, .vs (cXs args)), (8, .int .i64 (cXs args).length), (9, .int .i64 (i : Nat))] H'.heap H'.next H'.clk) args.length
    (sub_keep (.cons rfl (.cons rfl (.cons rfl (.cons rfl (.cons rfl .nil)))))) ⟨0, s, H, rfl, Nat.zero_le _, rfl, hI, Keep.refl M H, rfl⟩ ?_
  rintro m S ⟨i, s', H', rfl, hi, hwl, hI', hK', rfl⟩
  unfold body110
  repeat (first | refine z_seq ?_ | refine z_region rfl ?_)
  refine o_cmp rfl rfl rfl (fun h1 => ?_) fun h1 => ?_
  · have hlt : i < args.length := by
      have := of_decide_eq_true h1
      rw [cXs_length] at this
      omega
    have hd : args.drop i = args[i] :: args.drop (i + 1) := List.drop_eq_getElem_cons hlt
    rw [hd, List.map_cons] at hwl
    have hge := cXs_get hlt
    have hmem : args[i] ∈ args := List.getElem_mem hlt
    generalize args[i] = y at hwl hge hmem
    have hevy := hev y hmem
    obtain ⟨yo, yi, ya⟩ := y
    repeat (first | refine z_seq ?_ | refine z_region rfl ?_ | refine o_nil ?_ | refine u_seq ?_ | refine z_block ?_ | refine z_skip ?_ | refine z_ct rfl ?_)
    refine o_idxs rfl rfl (Int.natCast_nonneg i) hge rfl ?_
    repeat (first | refine o_loadn rfl rfl rfl rfl ?_ | refine o_alloc ?_)
    refine o_store rfl rfl rfl rfl look_top rfl rfl ?_
    rw [putl_top]
    repeat (first | refine z_seq ?_ | refine z_region rfl ?_ | refine o_nil ?_ | refine u_seq ?_ | refine o_mov rfl ?_)
    refine o_loadnm rfl look_top (Nat.lt_succ_self _) rfl rfl ?_
    repeat (first | refine o_load rfl rfl ?_)
    refine o_call rfl rfl hevy (fun h => Bool.noConfusion (show false = true from h)) ?_
    refine o_ct _ rfl rfl (hy s' (holdB v (.nd yo yi ya)) ⟨_, _, _⟩ (hloc.new hI' _ _)) (fun _ _ _ _ hm => absurd hm List.not_mem_nil) fun v2 H3 hF3 => ?_
    obtain ⟨hK3, hF3⟩ := hF3
    have hK4 : Keep M H H3 := hK'.trans ((Keep.new M H' _).trans hK3)
    cases hst : step s' (holdB v (.nd yo yi ya)) with
    | inr t =>
      rw [hst] at hF3
      obtain ⟨rfl, hJ⟩ := hF3
      repeat (first | refine o_nil ?_ | refine u_seq ?_ | refine z_ct rfl ?_ | refine z_ret ?_ | refine u_ret_seq ?_ | refine u_ret_blk ?_ | refine o_un rfl rfl ?_)
      refine u_out_ret ?_
      repeat (first | refine u_ret_blk ?_)
      refine u_end ⟨.inr rfl, _, rfl, hK4, ?_⟩
      simp only [hwl, foldB, hst]
      exact hJ
    | inl s2 =>
      rw [hst] at hF3
      obtain ⟨rfl, hI2⟩ := hF3
      repeat (first | refine z_region rfl ?_ | refine o_nil ?_ | refine u_seq ?_ | refine u_blk ?_ | refine z_skip ?_ | refine z_cf rfl ?_ | refine o_mov rfl ?_ | refine o_un rfl rfl ?_ | refine o_bin (op := .add) rfl rfl rfl ?_)
      rw [wrap_succ i (by omega)]
      exact u_round (show args.length - (i + 1) < args.length - i by omega) (sub_keep (.cons rfl (.cons rfl (.cons rfl (.cons rfl (.cons rfl .nil)))))) ⟨i + 1, s2, H3, rfl, hlt, by rw [hwl]; simp only [foldB, hst], hI2, hK4, rfl⟩
  · have hi2 : i = args.length := by
      have := of_decide_eq_false h1
      rw [cXs_length] at this
      omega
    repeat (first | refine z_seq ?_ | refine o_nil ?_ | refine u_seq ?_ | refine z_cf rfl ?_ | refine z_exit ?_ | refine u_exit_seq ?_)
    refine u_out ?_
    repeat (first | refine u_exit ?_)
    refine u_end ⟨.inl rfl, _, rfl, hK', ?_⟩
    subst hi2
    rw [List.drop_length] at hwl
    simp only [hwl, List.map_nil, foldB]
    exact hI'

end

noncomputable def ca115 : Code := match env0.fn 115 with
  | some i => ((rangesOf i.ic).headD (.skip, .skip)).1
  | none => .skip

noncomputable def cb115 : Code := match env0.fn 115 with
  | some i => ((rangesOf i.ic).headD (.skip, .skip)).2
  | none => .skip

def asg115 : IC := .region [⟨(some 4), .mov (.t 6), none⟩] none

def body115 : IC := .block 1 (.seq (.region [⟨(some 7), .mov (.t 4), none⟩,
    ⟨(some 8), .load none (.t 1), none⟩,
    ⟨(some 9), .eqb true (.t 7) (.t 8), none⟩] none)
  (.cond (.t 9) (.seq (.region [⟨none, .store 1 (.t 3) (.c (.bool false)), none⟩] none)
  (.ret))
  (.skip)))

-- pneumatic/boolexp.every$1
noncomputable def ic115 : IC := .seq (.region [⟨(some 3), .alloc [.bool false], none⟩] none)
  (.seq (.seq (.region [⟨(some 5), .mov (.t 0), none⟩] none)
  (.block 0 (.rangeFunc (.t 5) [6] ca115 cb115 asg115 body115)))
  (.seq (.region [⟨none, .store 1 (.t 3) (.c (.bool true)), none⟩] none)
  (.ret)))
theorem fn115 : env0.fn 115 = some ⟨10, ic115, [.cell 3 none]⟩ := by kernel_rfl


def stepE (b : Bool) (_ : Unit) (r : Bool) : Unit ⊕ Unit := if r = b then .inl () else .inr ()

theorem foldE (b : Bool) : ∀ l : List Bool, foldB (stepE b) l () = if l.all (· == b) = true then .inl () else .inr ()
  | [] => rfl
  | r :: l => by
    rw [foldB, List.all_cons]
    unfold stepE
    cases r <;> cases b <;> first | exact foldE _ l | rfl

structure I115 (ltm : List (Nat × AV)) (_ : Unit) (H : HS) : Prop where
  nx : 3 ≤ H.next
  h2 : Am.look 2 H.heap = some (2, .loop .ready none 10 (tmOf ltm) [6] ca115 cb115 (1, 1))
  h1 : Am.look 1 H.heap = some (1, .deferred)
  h0 : Am.look 0 H.heap = some (0, .cells [.bool false])

structure J115 (_ : Unit) (H : HS) : Prop where
  nx : 3 ≤ H.next
  h2 : ∃ tm, Am.look 2 H.heap = some (2, .loop .done (some .ret) 10 tm [6] ca115 cb115 (1, 1))
  h1 : Am.look 1 H.heap = some (1, .deferred)
  h0 : Am.look 0 H.heap = some (0, .cells [.bool false])

theorem local115 (ltm : List (Nat × AV)) : Local (fun i => i < 3) (I115 ltm) :=
  ⟨fun s H h i hi => Nat.lt_of_lt_of_le hi h.nx, fun s H H' h hn hl =>
    ⟨Nat.le_trans h.nx hn, (hl 2 (by decide)).trans h.h2, (hl 1 (by decide)).trans h.h1, (hl 0 (by decide)).trans h.h0⟩⟩

set_option maxHeartbeats 2000000 in
theorem yield115 {w0 : World} {N0 : Nat} (ltm : List (Nat × AV)) (b : Bool) (g1 : argA (.t 1) ltm = some (.vptr [.bool b])) (g3 : argA (.t 3) ltm = some (.mptr 0 0 0)) (ha : Com Try.prog ca115 asg115) (hb : Com Try.prog cb115 body115) (s : Unit) (r : Bool) (H : HS) (h : I115 ltm s H) :
    CT Try.prog w0 N0 (.yield 2 2) [.bool r] H (Left (fun i => i < 3) (I115 ltm) J115 H (stepE b s r)) := by
  obtain ⟨nx, h2, h1, h0⟩ := h
  refine ct_yield (l0 := (6, .bool r) :: ltm) h2 ha hb rfl (by decide) rfl ?_
  unfold asg115
  repeat (first | refine z_region rfl ?_ | refine o_nil ?_ | refine o_mov rfl ?_)
  refine u_end ⟨rfl, _, rfl, ?_⟩
  unfold body115
  repeat (first | refine z_seq ?_ | refine z_region rfl ?_ | refine z_block ?_ | refine o_mov rfl ?_)
  refine o_load g1 rfl ?_
  cases r <;> cases b
  all_goals repeat (first | refine z_seq ?_ | refine z_region rfl ?_ | refine o_nil ?_ | refine u_seq ?_ | refine u_blk ?_ | refine z_skip ?_ | refine z_ct rfl ?_ | refine z_cf rfl ?_ | refine o_eqbt rfl rfl rfl ?_ | refine o_eqbf rfl rfl rfl ?_)
  all_goals first
    | (refine o_store (sp := 0) (cs := [.bool false]) g3 rfl rfl rfl (by rw [look_putl, if_neg (by decide)]; exact h0) rfl rfl ?_
       repeat (first | refine o_nil ?_ | refine u_seq ?_ | refine z_ret ?_ | refine u_ret_blk ?_)
       refine u_end ⟨10, tmOf ltm, [6], ca115, cb115, (1, 1), ?_, some .ret, rfl, ⟨Nat.le_refl _, Nat.le_refl _, fun i hi hj => ?_⟩, ?_⟩
       · dsimp only [st]
         rw [look_putl, if_neg (by decide), look_putl, if_pos rfl]
       · dsimp only [st]
         rw [look_putl, if_neg (by omega), look_putl, if_neg (by omega), look_putl, if_neg (by omega)]
       · refine ⟨rfl, nx, ⟨tmOf ltm, ?_⟩, ?_, ?_⟩
         · dsimp only [st]
           rw [look_putl, if_pos rfl]; rfl
         · dsimp only [st]
           rw [look_putl, if_neg (by decide), look_putl, if_neg (by decide), look_putl, if_neg (by decide)]; exact h1
         · dsimp only [st]
           rw [look_putl, if_neg (by decide), look_putl, if_pos rfl]; rfl)
    | (refine u_end ⟨10, tmOf ltm, [6], ca115, cb115, (1, 1), ?_, none, rfl, ⟨Nat.le_refl _, Nat.le_refl _, fun i hi hj => ?_⟩, ?_⟩
       · dsimp only [st]
         rw [look_putl, if_pos rfl]
       · dsimp only [st]
         rw [look_putl, if_neg (by omega), look_putl, if_neg (by omega)]
       · refine ⟨rfl, nx, ?_, ?_, ?_⟩
         · dsimp only [st]
           rw [look_putl, if_pos rfl]; rfl
         · dsimp only [st]
           rw [look_putl, if_neg (by decide), look_putl, if_neg (by decide)]; exact h1
         · dsimp only [st]
           rw [look_putl, if_neg (by decide), look_putl, if_neg (by decide)]; exact h0)

set_option maxHeartbeats 2000000 in
theorem every115 (b : Bool) (v : List Bool) (op ix : Int) (args : List Ex) (hlen : args.length ≤ 256) (hev : ∀ y ∈ args, PF Try.prog 100 [.agg (cX y), vsB v] (.bool (holdB v y))) :
    PF Try.prog 115 [.fn 110 [] [.vptr (cX (.nd op ix args)), .vptr [vsB v]], .vptr [.bool b]] (.bool ((args.map (holdB v)).all (· == b))) := by
  refine PF_of_Z env0_ok fn115 [(0, .fn 110 [] [.vptr (cX (.nd op ix args)), .vptr [vsB v]]), (1, .vptr [.bool b])] (by show 2 ≤ 10; decide) rfl fun w0 N0 => ?_
  unfold ic115
  repeat (first | refine z_seq ?_ | refine z_region rfl ?_ | refine o_nil ?_ | refine u_seq ?_ | refine z_block ?_ | refine o_mov rfl ?_ | refine o_alloc ?_)
  refine z_range (.inl rfl) rfl fun ha hb => (seq110 v op ix args hlen hev (local115 _) (fun s r H h => yield115 _ b rfl rfl ha hb s r H h) ⟨_, _, _⟩ () ⟨Nat.le_refl _, rfl, rfl, rfl⟩).mono fun v2 H2 hF => ?_
  obtain ⟨hK, hF⟩ := hF
  rw [foldE] at hF
  cases hall : (args.map (holdB v)).all (· == b) with
  | true =>
    rw [hall, if_pos rfl] at hF
    obtain ⟨nx, h2, h1, h0⟩ := hF
    refine ⟨_, _, .normal, _, _, _, _, _, _, h2, by simp, rfl, fun z hz => ?_, ?_⟩
    · obtain rfl := List.mem_singleton.1 hz
      rw [look_dropl, if_neg (by decide)]; exact h1
    · repeat (first | refine z_seq ?_ | refine z_region rfl ?_ | refine u_seq ?_ | refine u_blk ?_)
      refine o_store (sp := 0) (cs := [.bool false]) rfl rfl rfl rfl (by rw [look_dropl, if_neg (by decide)]; exact h0) rfl rfl ?_
      repeat (first | refine o_nil ?_ | refine u_seq ?_ | refine z_ret ?_)
      refine u_end ⟨.inr rfl, .bool true, res_cell1 (get_st 3) (deref_of (sp := 0) (cs := [.bool true]) ?_ ?_), rfl⟩
      · show Am.look 0 (dropl 1 (putl 0 _ (dropl 2 H2.heap))) = _
        rw [look_dropl, if_neg (by decide), look_putl, if_pos rfl]; rfl
      · show 0 < H2.next; omega
  | false =>
    rw [hall, if_neg (by simp)] at hF
    obtain ⟨nx, ⟨tm, h2⟩, h1, h0⟩ := hF
    refine ⟨_, _, .ret, _, _, _, _, _, _, h2, by simp, rfl, fun z hz => ?_, ?_⟩
    · obtain rfl := List.mem_singleton.1 hz
      rw [look_dropl, if_neg (by decide)]; exact h1
    · repeat (first | refine u_ret_seq ?_ | refine u_ret_blk ?_)
      refine u_end ⟨.inr rfl, .bool false, res_cell1 (get_st 3) (deref_of (sp := 0) (cs := [.bool false]) ?_ ?_), rfl⟩
      · show Am.look 0 (dropl 1 (dropl 2 H2.heap)) = _
        rw [look_dropl, if_neg (by decide), look_dropl, if_neg (by decide)]; exact h0
      · show 0 < H2.next; omega

-- pneumatic/boolexp.shapes$1
def ic112 : IC := .seq (.region [⟨(some 2), .mov (.c (.bool false)), none⟩] none)
  (.seq (.region [⟨(some 3), .call (.c (.fn 111 [] [])) [(.c (.bool false))], none⟩,
    ⟨(some 4), .mov (.t 0), none⟩,
    ⟨(some 5), .call (.t 3) [(.t 4)], none⟩,
    ⟨(some 6), .un .not (.t 5), none⟩,
    ⟨(some 2), .mov (.t 6), none⟩] none)
  (.ret))
theorem fn112 : env0.fn 112 = some ⟨7, ic112, [.t 2]⟩ := by kernel_rfl


theorem some112 (v : List Bool) (op ix : Int) (args : List Ex) (hlen : args.length ≤ 256) (hev : ∀ y ∈ args, PF Try.prog 100 [.agg (cX y), vsB v] (.bool (holdB v y))) :
    PF Try.prog 112 [.fn 110 [] [.vptr (cX (.nd op ix args)), .vptr [vsB v]]] (.bool (!(args.map (holdB v)).all (· == false))) := by
  refine PF_of_Z env0_ok fn112 [(0, .fn 110 [] [.vptr (cX (.nd op ix args)), .vptr [vsB v]])] (by show 1 ≤ 7; decide) rfl fun w0 N0 => ?_
  unfold ic112
  repeat (first | refine z_seq ?_ | refine z_region rfl ?_ | refine o_nil ?_ | refine u_seq ?_ | refine o_mov rfl ?_)
  refine o_call rfl rfl every111 (fun h => Bool.noConfusion (show false = true from h)) ?_
  repeat (first | refine o_mov rfl ?_)
  refine o_callv rfl rfl rfl (every115 false v op ix args hlen hev) (fun h => Bool.noConfusion (show false = true from h)) ?_
  repeat (first | refine o_nil ?_ | refine u_seq ?_ | refine z_ret ?_ | refine o_mov rfl ?_ | refine o_un rfl rfl ?_)
  exact u_end ⟨.inr rfl, _, rfl, rfl⟩

end Go.Proofs.Ytofkihmckookjaa
