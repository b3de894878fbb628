/-
  P1, P2, P4, P5, P6 in one text.
-/
import Derived.Test.YtofkihmckookjaaCA
import Derived.Test.YtofkihmckookjaaCB
import Derived.Test.YtofkihmckookjaaQD
namespace Go.Proofs.Ytofkihmckookjaa
open Go Go.Am

def b68_0 : IC := .seq (.seq (.region [⟨(some 11), .mov (.t 5), none⟩,
    ⟨(some 12), .mov (.t 0), none⟩,
    ⟨(some 13), .len false (.t 12), none⟩,
    ⟨(some 14), .bin .lss (.t 11) (.t 13), none⟩] none)
  (.cond (.t 14) (.skip)
  (.exit 0)))
  (.seq (.block 1 (.seq (.region [⟨(some 17), .mov (.t 0), none⟩,
    ⟨(some 18), .mov (.t 5), none⟩,
    ⟨(some 19), .idxs 1 (.t 17) (.t 18), none⟩,
    ⟨(some 20), .load none (.t 19), none⟩,
    ⟨(some 21), .mov (.t 1), none⟩,
    ⟨(some 22), .mov (.t 5), none⟩,
    ⟨(some 23), .idxs 1 (.t 21) (.t 22), none⟩,
    ⟨(some 24), .load none (.t 23), none⟩,
    ⟨(some 25), .bin .neq (.t 20) (.t 24), none⟩] (some [[], [], [0, 1], [2], [], [], [4, 5], [6], [3, 7]]))
  (.cond (.t 25) (.seq (.region [⟨(some 4), .mov (.c (.bool false)), none⟩] none)
  (.ret))
  (.skip))))
  (.region [⟨(some 15), .mov (.t 5), none⟩,
    ⟨(some 16), .bin .add (.t 15) (.c (.int .i64 1)), none⟩,
    ⟨(some 5), .mov (.t 16), none⟩] none))

-- pneumatic/pneumaticref14.SameInts
def ic68 : IC := .seq (.region [⟨(some 4), .mov (.c (.bool false)), none⟩] none)
  (.seq (.seq (.region [⟨(some 6), .mov (.t 0), none⟩,
    ⟨(some 7), .len false (.t 6), none⟩,
    ⟨(some 8), .mov (.t 1), none⟩,
    ⟨(some 9), .len false (.t 8), none⟩,
    ⟨(some 10), .bin .neq (.t 7) (.t 9), none⟩] none)
  (.cond (.t 10) (.seq (.region [⟨(some 4), .mov (.c (.bool false)), none⟩] none)
  (.ret))
  (.skip)))
  (.seq (.seq (.region [⟨(some 5), .mov (.c (.int .i64 0)), none⟩] none)
  (.block 0 (.loop b68_0)))
  (.seq (.region [⟨(some 4), .mov (.c (.bool true)), none⟩] none)
  (.ret))))
theorem fn68 : env0.fn 68 = some ⟨26, ic68, [.t 4]⟩ := by kernel_rfl


theorem same68 (a b : List Int) (_ha : a.length ≤ 100000) (hb : b.length ≤ 100000) : PF Try.prog 68 [vsI a, vsI b] (.bool (decide (a = b))) := by
  have hca : (a.map fun z => ([.int .i64 z] : List AV)).length = a.length := List.length_map ..
  have hcb : (b.map fun z => ([.int .i64 z] : List AV)).length = b.length := List.length_map ..
  refine PF_of_Z env0_ok fn68 [(0, vsI a), (1, vsI b)] (by show 2 ≤ 26; decide) rfl fun w0 N0 => ?_
  unfold ic68
  repeat (first | refine z_seq ?_ | refine z_region rfl ?_ | refine o_nil ?_ | refine u_seq ?_ | refine o_mov rfl ?_ | refine o_len rfl rfl ?_)
  refine o_cmp rfl rfl rfl (fun h1 => ?_) fun h1 => ?_
  · have h1 : (((a.map fun z => ([.int .i64 z] : List AV)).length : Nat) : Int) ≠ ((b.map fun z => ([.int .i64 z] : List AV)).length : Nat) := bne_iff_ne.1 h1
    rw [hca, hcb] at h1
    rw [decide_eq_false (fun e => h1 (by rw [e]))]
    repeat (first | refine z_seq ?_ | refine z_region rfl ?_ | refine o_nil ?_ | refine u_seq ?_ | refine z_ct rfl ?_ | refine z_ret ?_ | refine u_ret_seq ?_ | refine o_mov rfl ?_)
    exact u_end ⟨.inr rfl, _, rfl, rfl⟩
  have h1 : (((a.map fun z => ([.int .i64 z] : List AV)).length : Nat) : Int) = ((b.map fun z => ([.int .i64 z] : List AV)).length : Nat) := by simpa using h1
  rw [hca, hcb] at h1
  have hab : a.length = b.length := by omega
  repeat (first | refine z_seq ?_ | refine z_region rfl ?_ | refine o_nil ?_ | refine u_seq ?_ | refine z_block ?_ | refine z_skip ?_ | refine z_cf rfl ?_ | refine o_mov rfl ?_)
  refine z_loop (fun mm S => ∃ i, mm = a.length - i ∧ i ≤ a.length ∧ decide (a = b) = decide (a.drop i = b.drop i) ∧
      S = st 26 [(0, vsI a), (1, vsI b), (5, .int .i64 (i : Nat))] [] 0 1) a.length
    (sub_ren0 (.cons rfl (.same rfl) (.cons rfl (.same rfl) (.cons rfl (.same rfl) .nil)))) ⟨0, rfl, Nat.zero_le _, rfl, rfl⟩ ?_
  rintro mm S ⟨i, rfl, hi, hall, rfl⟩
  unfold b68_0
  repeat (first | refine z_seq ?_ | refine z_region rfl ?_ | refine o_mov rfl ?_ | refine o_len rfl rfl ?_)
  refine o_cmp rfl rfl rfl (fun h3 => ?_) fun h3 => ?_
  · have hlt : i < a.length := by
      have : ((i : Nat) : Int) < ((a.map fun z => ([.int .i64 z] : List AV)).length : Nat) := of_decide_eq_true h3
      rw [hca] at this
      omega
    have hda : a.drop i = a[i] :: a.drop (i + 1) := List.drop_eq_getElem_cons hlt
    have hdb : b.drop i = b[i]'(by omega) :: b.drop (i + 1) := List.drop_eq_getElem_cons (by omega)
    rw [hda, hdb] at hall
    have hga := vsI_get a i hlt
    have hgb := vsI_get b i (by omega)
    generalize a[i] = x at hall hga
    generalize b[i]'(by omega) = y at hall hgb
    repeat (first | refine z_seq ?_ | refine o_nil ?_ | refine u_seq ?_ | refine z_block ?_ | refine z_skip ?_ | refine z_ct rfl ?_ | refine o_mov rfl ?_ | refine o_load rfl rfl ?_ | refine z_drawn0 env0_ok rfl rfl rfl ?_ | refine o_idxs rfl rfl (by omega) (by assumption) rfl ?_)
    refine o_cmp rfl rfl rfl (fun h4 => ?_) fun h4 => ?_
    · have h4 : x ≠ y := bne_iff_ne.1 h4
      rw [hall, decide_eq_false (fun h => h4 (by injection h))]
      repeat (first | refine z_seq ?_ | refine z_region rfl ?_ | refine o_nil ?_ | refine u_seq ?_ | refine z_ct rfl ?_ | refine z_ret ?_ | refine u_ret_seq ?_ | refine u_ret_blk ?_ | refine o_mov rfl ?_)
      refine u_out_ret ?_
      repeat (first | refine u_ret_seq ?_ | refine u_ret_blk ?_)
      exact u_end ⟨.inr rfl, _, rfl, rfl⟩
    · have h4 : x = y := by simpa using h4
      repeat (first | refine z_region rfl ?_ | refine o_nil ?_ | refine u_seq ?_ | refine u_blk ?_ | refine z_skip ?_ | refine z_cf rfl ?_ | refine o_mov rfl ?_ | refine o_bin (op := .add) rfl rfl rfl ?_)
      exact u_round (show a.length - (i + 1) < a.length - i by omega) (sub_ren0 (.cons rfl (.same rfl) (.cons rfl (.same rfl) (.cons rfl (ren_eq (congrArg (AV.int .i64) (wrap_succ i (by omega))) rfl) .nil)))) ⟨i + 1, rfl, hlt, by rw [hall, h4]; simp, rfl⟩
  · have hi2 : i = a.length := by
      have : ¬ ((i : Nat) : Int) < ((a.map fun z => ([.int .i64 z] : List AV)).length : Nat) := of_decide_eq_false h3
      rw [hca] at this
      omega
    rw [hi2, List.drop_length, hab, List.drop_length] at hall
    rw [hall]
    repeat (first | refine o_nil ?_ | refine u_seq ?_ | refine z_cf rfl ?_ | refine z_exit ?_ | refine u_exit_seq ?_)
    refine u_out ?_
    repeat (first | refine z_seq ?_ | refine z_region rfl ?_ | refine o_nil ?_ | refine u_seq ?_ | refine z_ret ?_ | refine u_exit ?_ | refine o_mov rfl ?_)
    exact u_end ⟨.inr rfl, _, rfl, rfl⟩

def b38_0 : IC := .seq (.seq (.region [⟨(some 11), .mov (.t 5), none⟩,
    ⟨(some 12), .mov (.t 0), none⟩,
    ⟨(some 13), .len false (.t 12), none⟩,
    ⟨(some 14), .bin .lss (.t 11) (.t 13), none⟩] none)
  (.cond (.t 14) (.skip)
  (.exit 0)))
  (.seq (.block 1 (.seq (.region [⟨(some 17), .mov (.t 0), none⟩,
    ⟨(some 18), .mov (.t 5), none⟩,
    ⟨(some 19), .idxs 1 (.t 17) (.t 18), none⟩,
    ⟨(some 20), .load none (.t 19), none⟩,
    ⟨(some 21), .mov (.t 1), none⟩,
    ⟨(some 22), .mov (.t 5), none⟩,
    ⟨(some 23), .idxs 1 (.t 21) (.t 22), none⟩,
    ⟨(some 24), .load none (.t 23), none⟩,
    ⟨(some 25), .call (.c (.fn 68 [] [])) [(.t 20), (.t 24)], none⟩,
    ⟨(some 26), .un .not (.t 25), none⟩] (some [[], [], [0, 1], [2], [], [], [4, 5], [6], [3, 7], [8]]))
  (.cond (.t 26) (.seq (.region [⟨(some 4), .mov (.c (.bool false)), none⟩] none)
  (.ret))
  (.skip))))
  (.region [⟨(some 15), .mov (.t 5), none⟩,
    ⟨(some 16), .bin .add (.t 15) (.c (.int .i64 1)), none⟩,
    ⟨(some 5), .mov (.t 16), none⟩] none))

-- pneumatic/pneumaticref49.SameLists
def ic38 : IC := .seq (.region [⟨(some 4), .mov (.c (.bool false)), none⟩] none)
  (.seq (.seq (.region [⟨(some 6), .mov (.t 0), none⟩,
    ⟨(some 7), .len false (.t 6), none⟩,
    ⟨(some 8), .mov (.t 1), none⟩,
    ⟨(some 9), .len false (.t 8), none⟩,
    ⟨(some 10), .bin .neq (.t 7) (.t 9), none⟩] none)
  (.cond (.t 10) (.seq (.region [⟨(some 4), .mov (.c (.bool false)), none⟩] none)
  (.ret))
  (.skip)))
  (.seq (.seq (.region [⟨(some 5), .mov (.c (.int .i64 0)), none⟩] none)
  (.block 0 (.loop b38_0)))
  (.seq (.region [⟨(some 4), .mov (.c (.bool true)), none⟩] none)
  (.ret))))
theorem fn38 : env0.fn 38 = some ⟨27, ic38, [.t 4]⟩ := by kernel_rfl


theorem same38 (a b : List (List Int)) (_ha : a.length ≤ 100000) (hb : b.length ≤ 100000) (hra : ∀ x ∈ a, x.length ≤ 100000) (hrb : ∀ x ∈ b, x.length ≤ 100000) : PF Try.prog 38 [css a, css b] (.bool (decide (a = b))) := by
  have hca : (a.map fun z => ([vsI z] : List AV)).length = a.length := List.length_map ..
  have hcb : (b.map fun z => ([vsI z] : List AV)).length = b.length := List.length_map ..
  refine PF_of_Z env0_ok fn38 [(0, css a), (1, css b)] (by show 2 ≤ 27; decide) rfl fun w0 N0 => ?_
  unfold ic38
  repeat (first | refine z_seq ?_ | refine z_region rfl ?_ | refine o_nil ?_ | refine u_seq ?_ | refine o_mov rfl ?_ | refine o_len rfl rfl ?_)
  refine o_cmp rfl rfl rfl (fun h1 => ?_) fun h1 => ?_
  · have h1 : (((a.map fun z => ([vsI z] : List AV)).length : Nat) : Int) ≠ ((b.map fun z => ([vsI z] : List AV)).length : Nat) := bne_iff_ne.1 h1
    rw [hca, hcb] at h1
    rw [decide_eq_false (fun e => h1 (by rw [e]))]
    repeat (first | refine z_seq ?_ | refine z_region rfl ?_ | refine o_nil ?_ | refine u_seq ?_ | refine z_ct rfl ?_ | refine z_ret ?_ | refine u_ret_seq ?_ | refine o_mov rfl ?_)
    exact u_end ⟨.inr rfl, _, rfl, rfl⟩
  have h1 : (((a.map fun z => ([vsI z] : List AV)).length : Nat) : Int) = ((b.map fun z => ([vsI z] : List AV)).length : Nat) := by simpa using h1
  rw [hca, hcb] at h1
  have hab : a.length = b.length := by omega
  repeat (first | refine z_seq ?_ | refine z_region rfl ?_ | refine o_nil ?_ | refine u_seq ?_ | refine z_block ?_ | refine z_skip ?_ | refine z_cf rfl ?_ | refine o_mov rfl ?_)
  refine z_loop (fun mm S => ∃ i, mm = a.length - i ∧ i ≤ a.length ∧ decide (a = b) = decide (a.drop i = b.drop i) ∧
      S = st 27 [(0, css a), (1, css b), (5, .int .i64 (i : Nat))] [] 0 1) a.length
    (sub_ren0 (.cons rfl (.same rfl) (.cons rfl (.same rfl) (.cons rfl (.same rfl) .nil)))) ⟨0, rfl, Nat.zero_le _, rfl, rfl⟩ ?_
  rintro mm S ⟨i, rfl, hi, hall, rfl⟩
  unfold b38_0
  repeat (first | refine z_seq ?_ | refine z_region rfl ?_ | refine o_mov rfl ?_ | refine o_len rfl rfl ?_)
  refine o_cmp rfl rfl rfl (fun h3 => ?_) fun h3 => ?_
  · have hlt : i < a.length := by
      have : ((i : Nat) : Int) < ((a.map fun z => ([vsI z] : List AV)).length : Nat) := of_decide_eq_true h3
      rw [hca] at this
      omega
    have hda : a.drop i = a[i] :: a.drop (i + 1) := List.drop_eq_getElem_cons hlt
    have hdb : b.drop i = b[i]'(by omega) :: b.drop (i + 1) := List.drop_eq_getElem_cons (by omega)
    rw [hda, hdb] at hall
    have hga := css_get hlt
    have hgb := css_get (cs := b) (i := i) (by omega)
    have hxa := hra _ (List.getElem_mem hlt)
    have hxb := hrb _ (List.getElem_mem (show i < b.length by omega))
    generalize a[i] = x at hall hga hxa
    generalize b[i]'(by omega) = y at hall hgb hxb
    have h68 := same68 x y hxa hxb
    repeat (first | refine z_seq ?_ | refine o_nil ?_ | refine u_seq ?_ | refine z_block ?_ | refine z_skip ?_ | refine z_ct rfl ?_)
    refine z_drawn env0_ok [(68, [vsI x, vsI y], .bool (decide (x = y)))] (fun w hw => by obtain rfl := List.mem_singleton.1 hw; exact h68) (fun f => Nat.beq f 68) rfl rfl rfl ?_
    repeat (first | refine o_mov rfl ?_ | refine o_load rfl rfl ?_ | refine o_idxs rfl rfl (by omega) (by assumption) rfl ?_)
    refine o_call rfl rfl lookL_here (fun h => Bool.noConfusion (show false = true from h)) ?_
    by_cases h4 : x = y
    · rw [decide_eq_true h4]
      repeat (first | refine z_region rfl ?_ | refine o_nil ?_ | refine u_seq ?_ | refine u_blk ?_ | refine z_skip ?_ | refine z_cf rfl ?_ | refine o_mov rfl ?_ | refine o_un rfl rfl ?_ | refine o_bin (op := .add) rfl rfl rfl ?_)
      exact u_round (show a.length - (i + 1) < a.length - i by omega) (sub_ren0 (.cons rfl (.same rfl) (.cons rfl (.same rfl) (.cons rfl (ren_eq (congrArg (AV.int .i64) (wrap_succ i (by omega))) rfl) .nil)))) ⟨i + 1, rfl, hlt, by rw [hall, h4]; simp, rfl⟩
    · rw [decide_eq_false h4, hall, decide_eq_false (fun h => h4 (by injection h))]
      repeat (first | refine z_seq ?_ | refine z_region rfl ?_ | refine o_nil ?_ | refine u_seq ?_ | refine z_ct rfl ?_ | refine z_ret ?_ | refine u_ret_seq ?_ | refine u_ret_blk ?_ | refine o_mov rfl ?_ | refine o_un rfl rfl ?_)
      refine u_out_ret ?_
      repeat (first | refine u_ret_seq ?_ | refine u_ret_blk ?_)
      exact u_end ⟨.inr rfl, _, rfl, rfl⟩
  · have hi2 : i = a.length := by
      have : ¬ ((i : Nat) : Int) < ((a.map fun z => ([vsI z] : List AV)).length : Nat) := of_decide_eq_false h3
      rw [hca] at this
      omega
    rw [hi2, List.drop_length, hab, List.drop_length] at hall
    rw [hall]
    repeat (first | refine o_nil ?_ | refine u_seq ?_ | refine z_cf rfl ?_ | refine z_exit ?_ | refine u_exit_seq ?_)
    refine u_out ?_
    repeat (first | refine z_seq ?_ | refine z_region rfl ?_ | refine o_nil ?_ | refine u_seq ?_ | refine z_ret ?_ | refine u_exit ?_ | refine o_mov rfl ?_)
    exact u_end ⟨.inr rfl, _, rfl, rfl⟩

end Go.Proofs.Ytofkihmckookjaa
namespace Go.Proofs.Ytofkihmckookjaa
open Go Go.Am

theorem combs_row (cs : List (List Int)) : ∀ p ∈ combs cs, p.length = cs.length := by
  rw [← cmb_combs]
  intro p hp
  have := cmb_row cs [[]] 0 (fun p hp => by obtain rfl := List.mem_singleton.1 hp; rfl) p hp
  omega

theorem combs_len (cs : List (List Int)) (h : ∀ c ∈ cs, c.length ≤ 9) (hn : cs.length ≤ 6) : (combs cs).length ≤ 531441 := by
  rw [← cmb_combs]
  have := cmb_len cs [[]] 1 h (Nat.le_refl _)
  have := pow9 hn
  omega

theorem trueG {l : List Ex} {n : Nat} (hg : guardC l n = 0) {p : List Int} (hp : p.length = n) : PF Try.prog 55 [.agg [.vs (cXs l)], vsI p] (vsI (trues l p)) := by
  obtain ⟨g1, g2, g3, g4⟩ := guardC_ok hg
  exact true55 l (by omega) p (by omega) (by omega) (fun y hy => by
    rw [sw_len2, hp]
    exact nds_of (g4 y hy))

theorem whichG {l : List Ex} (hsl : ∀ y ∈ l, Slim y) {n : Nat} (hg : guardC l n = 0) {p : List Int} (hp : p.length = n) : PF Try.prog 53 [.vs (cXs l), vsI p] (vsI (trues l p)) := by
  obtain ⟨g1, g2, g3, g4⟩ := guardC_ok hg
  exact which53 l (by omega) p (by omega) (by omega) (fun y hy => by
    rw [sw_len2, hp]
    exact g4 y hy) hsl

def allowedL (l : List Ex) (n : Nat) : List (List Int) := (combs (List.replicate n [0, 2])).filter fun p => (trues l p).isEmpty

def placesV (l : List Ex) (n : Int) : AV := if guardC l n = 0 then .tup [css (allowedL l n.toNat), .int .i64 0] else .tup [css [], .int .i64 (guardC l n)]

theorem empty_len (l : List Int) : ((((l.map fun z => ([.int .i64 z] : List AV)).length : Nat) : Int) == 0) = l.isEmpty := len_empty l

theorem rowI_snoc (out : List (List Int)) (p : List Int) : rowI (out ++ [p]) = rowI out ++ [vsI p] := by
  unfold rowI
  rw [List.map_append]
  rfl

theorem view_row {S : AS} {d id sp : Nat} {cap : Option Nat} (out : List (List Int)) (hl : Am.look id S.heap = some (sp, .cells (rowI out))) : S.view (d + 1) (.ms id sp 1 0 out.length cap) = css out := by
  have hf : rowI out = ((rowI out).map fun v => ([v] : List AV)).flatten := by
    clear hl
    generalize rowI out = l
    induction l with
    | nil => rfl
    | cons b l ih => simpa using ih
  have hs : ∀ x ∈ (rowI out).map (fun v => ([v] : List AV)), x.length = 1 := fun x hx => by obtain ⟨v, _, rfl⟩ := List.mem_map.1 hx; rfl
  have e : S.elems 1 (.ms id sp 1 0 out.length cap) = some ((rowI out).map fun v => [v]) := by
    simp only [AS.elems, hl]
    have hlen : (rowI out).length = out.length := List.length_map ..
    rw [if_pos ⟨trivial, trivial, by omega⟩, List.drop_zero]
    conv => lhs; rw [hf]
    have := chunk_flat hs
    rw [List.length_map, hlen] at this
    rw [this]
  simp only [AS.view, e]
  rw [css_row]
  congr 1
  rw [List.map_map]
  apply List.map_congr_left
  intro v hv
  obtain ⟨p, _, rfl⟩ := List.mem_map.1 hv
  cases d <;> rfl

def b35_0 : IC := .seq (.seq (.region [⟨(some 19), .mov (.t 9), none⟩,
    ⟨(some 20), .mov (.t 8), none⟩,
    ⟨(some 21), .len false (.t 20), none⟩,
    ⟨(some 22), .bin .lss (.t 19) (.t 21), none⟩] none)
  (.cond (.t 22) (.skip)
  (.exit 0)))
  (.seq (.block 1 (.seq (.region [⟨(some 25), .load (some 1) (.t 2), none⟩,
    ⟨(some 26), .mov (.t 8), none⟩,
    ⟨(some 27), .mov (.t 9), none⟩,
    ⟨(some 28), .idxs 1 (.t 26) (.t 27), none⟩,
    ⟨(some 29), .load none (.t 28), none⟩,
    ⟨(some 30), .call (.c (.fn 55 [] [])) [(.t 25), (.t 29)], none⟩,
    ⟨(some 31), .len false (.t 30), none⟩,
    ⟨(some 32), .bin .eql (.t 31) (.c (.int .i64 0)), none⟩] (some [[], [], [], [1, 2], [3], [0, 4], [5], [6]]))
  (.cond (.t 32) (.region [⟨(some 33), .mov (.t 7), none⟩,
    ⟨(some 34), .mov (.t 8), none⟩,
    ⟨(some 35), .mov (.t 9), none⟩,
    ⟨(some 36), .idxs 1 (.t 34) (.t 35), none⟩,
    ⟨(some 37), .load none (.t 36), none⟩,
    ⟨(some 38), .bslice 1 1 [.nils] [(0, 1, (.t 37))], none⟩,
    ⟨(some 39), .append 1 24 [.nils] (.t 33) (.t 38), none⟩,
    ⟨(some 7), .mov (.t 39), none⟩] none)
  (.skip))))
  (.region [⟨(some 23), .mov (.t 9), none⟩,
    ⟨(some 24), .bin .add (.t 23) (.c (.int .i64 1)), none⟩,
    ⟨(some 9), .mov (.t 24), none⟩] none))

-- pneumatic/pneumaticref49.Places
def ic35 : IC := .seq (.region [⟨(some 2), .box (.t 0), none⟩,
    ⟨(some 4), .mov (.c (.nils)), none⟩,
    ⟨(some 5), .mov (.c (.int .i64 0)), none⟩] none)
  (.seq (.seq (.region [⟨(some 10), .load (some 1) (.t 2), none⟩,
    ⟨(some 11), .mov (.t 1), none⟩,
    ⟨(some 12), .call (.c (.fn 29 [] [])) [(.t 10), (.t 11)], none⟩,
    ⟨(some 6), .mov (.t 12), none⟩] none)
  (.seq (.region [⟨(some 13), .mov (.t 6), none⟩,
    ⟨(some 14), .bin .neq (.t 13) (.c (.int .i64 0)), none⟩] none)
  (.cond (.t 14) (.seq (.region [⟨(some 15), .mov (.t 6), none⟩,
    ⟨(some 4), .mov (.c (.nils)), none⟩,
    ⟨(some 5), .mov (.t 15), none⟩] none)
  (.ret))
  (.skip))))
  (.seq (.region [⟨(some 7), .mov (.c (.nils)), none⟩] none)
  (.seq (.region [⟨(some 16), .mov (.t 1), none⟩,
    ⟨(some 17), .bslice 1 2 [.int .i64 0, .int .i64 0] [(0, 1, (.c (.int .i64 0))), (1, 1, (.c (.int .i64 2)))], none⟩,
    ⟨(some 18), .call (.c (.fn 65 [] [])) [(.t 16), (.t 17)], none⟩,
    ⟨(some 8), .mov (.t 18), none⟩] none)
  (.seq (.seq (.region [⟨(some 9), .mov (.c (.int .i64 0)), none⟩] none)
  (.block 0 (.loop b35_0)))
  (.seq (.region [⟨(some 40), .mov (.t 7), none⟩,
    ⟨(some 4), .mov (.t 40), none⟩,
    ⟨(some 5), .mov (.c (.int .i64 0)), none⟩] none)
  (.ret))))))
theorem fn35 : env0.fn 35 = some ⟨41, ic35, [.t 4, .t 5]⟩ := by kernel_rfl


theorem places35 (l : List Ex) (hsl : ∀ y ∈ l, Slim y) (n : Int) (h4 : guardC l n = 0 → n ≤ 4) : PF Try.prog 35 [.agg [.vs (cXs l)], .int .i64 n] (placesV l n) := by
  have h29 := gcheck29 l hsl n
  refine PF_of_Z env0_ok fn35 [(0, .agg [.vs (cXs l)]), (1, .int .i64 n)] (by show 2 ≤ 41; decide) rfl fun w0 N0 => ?_
  unfold ic35 placesV
  repeat (first | refine z_seq ?_ | refine z_region rfl ?_ | refine o_nil ?_ | refine u_seq ?_ | refine o_mov rfl ?_ | refine o_loadn rfl rfl rfl rfl ?_ | refine o_box rfl rfl ?_)
  refine o_call rfl rfl h29 (fun h => Bool.noConfusion (show false = true from h)) ?_
  by_cases hg : guardC l n = 0
  · rw [if_pos hg, hg]
    obtain ⟨g1, g2, g3, g4⟩ := guardC_ok hg
    have h4 := h4 hg
    obtain ⟨m, rfl⟩ : ∃ m : Nat, n = (m : Int) := ⟨n.toNat, by omega⟩
    have h65 := all65a (n := m) (by omega) (by omega)
    rw [Int.toNat_natCast]
    unfold allowedL
    have hrow := combs_row (List.replicate m [0, 2])
    have hlen := combs_len (List.replicate m [0, 2]) (fun c hc => by obtain rfl := List.eq_of_mem_replicate hc; decide) (by rw [List.length_replicate]; omega)
    rw [List.length_replicate] at hrow
    generalize combs (List.replicate m [0, 2]) = C at *
    have hCl : (C.map fun c => ([vsI c] : List AV)).length = C.length := List.length_map ..
    repeat (first | refine z_seq ?_ | refine z_region rfl ?_ | refine o_nil ?_ | refine u_seq ?_ | refine z_skip ?_ | refine z_cf rfl ?_ | refine o_mov rfl ?_ | refine o_bslice rfl rfl ?_ | refine o_cmpf rfl rfl rfl ?_)
    refine o_freeze 1 1 [(2, .mptr 0 0 0), (7, .nils), (16, .int .i64 (m : Nat)), (17, vsI [0, 2])] rfl rfl (by repeat (first | exact .nil | refine .cons rfl .same ?_ | refine .cons rfl (.fms1 rfl) ?_ | refine .cons rfl (.fptr rfl) ?_)) ?_
    refine o_call rfl rfl h65 (fun h => Bool.noConfusion (show false = true from h)) ?_
    repeat (first | refine z_seq ?_ | refine z_region rfl ?_ | refine o_nil ?_ | refine u_seq ?_ | refine z_block ?_ | refine o_mov rfl ?_)
    refine z_loop (fun mm S => ∃ i, mm = C.length - i ∧ i ≤ C.length ∧ S = st 41 [(2, .vptr [.vs (cXs l)]), (7, .ms 0 0 1 0 ((C.take i).filter fun p => (trues l p).isEmpty).length none), (8, css C), (9, .int .i64 (i : Nat))] [(0, 0, .cells (rowI ((C.take i).filter fun p => (trues l p).isEmpty)))] 1 1) C.length
      (sub_renw [(none, [])] [(0, 0, [.vs (cXs l)])] rfl rfl rfl (.cons rfl rfl .nil) (.new .nil) (l' := [(2, .vptr [.vs (cXs l)]), (7, .ms 0 0 1 0 0 none), (8, css C), (9, .int .i64 ((0 : Nat) : Int))]) (.cons rfl (.fptr rfl rfl) (.cons rfl (.grow rfl) (.cons rfl (.same rfl) (.cons rfl (.same rfl) .nil))))) ⟨0, rfl, Nat.zero_le _, rfl⟩ ?_
    rintro mm S ⟨i, rfl, hi, rfl⟩
    unfold b35_0
    repeat (first | refine z_seq ?_ | refine z_region rfl ?_ | refine o_mov rfl ?_ | refine o_len rfl rfl ?_)
    refine o_cmp rfl rfl rfl (fun h3 => ?_) fun h3 => ?_
    · have hlt : i < C.length := by
        have : ((i : Nat) : Int) < ((C.map fun c => ([vsI c] : List AV)).length : Nat) := of_decide_eq_true h3
        rw [hCl] at this
        omega
      have hgx := css_get hlt
      have h55 := trueG hg (hrow _ (List.getElem_mem hlt))
      have htk : (C.take (i + 1)).filter (fun p => (trues l p).isEmpty) = (C.take i).filter (fun p => (trues l p).isEmpty) ++ (if (trues l C[i]).isEmpty then [C[i]] else []) := by
        rw [List.take_add_one, List.getElem?_eq_getElem hlt, List.filter_append]
        simp [List.filter_cons]
      have hfl : ((C.take i).filter fun p => (trues l p).isEmpty).length ≤ 531441 := by
        have := List.length_filter_le (fun p => (trues l p).isEmpty) (C.take i)
        rw [List.length_take] at this
        omega
      generalize C[i] = p at hgx h55 htk
      repeat (first | refine o_nil ?_ | refine u_seq ?_ | refine z_seq ?_ | refine z_ct rfl ?_ | refine z_skip ?_ | refine z_block ?_)
      refine z_drawn env0_ok [(55, [.agg [.vs (cXs l)], vsI p], vsI (trues l p))] (fun w hw => by obtain rfl := List.mem_singleton.1 hw; exact h55) (fun f => Nat.beq f 55) rfl rfl rfl ?_
      repeat (first | refine o_mov rfl ?_ | refine o_load rfl rfl ?_ | refine o_loadn rfl rfl rfl rfl ?_ | refine o_idxs rfl rfl (by omega) (by assumption) rfl ?_)
      refine o_call rfl rfl lookL_here (fun h => Bool.noConfusion (show false = true from h)) ?_
      repeat (first | refine o_len rfl rfl ?_)
      refine o_cmp rfl rfl rfl (fun h => ?_) fun h => ?_
      · rw [empty_len] at h
        rw [if_pos h] at htk
        repeat (first | refine z_region rfl ?_ | refine o_nil ?_ | refine u_seq ?_ | refine z_ct rfl ?_ | refine o_mov rfl ?_ | refine o_load rfl rfl ?_ | refine o_bslice rfl rfl ?_ | refine o_idxs rfl rfl (by omega) (by assumption) rfl ?_)
        refine o_append_ms [[_]] rfl rfl rfl (fun h => Nat.noConfusion h) rfl (by decide) rfl (by rw [Nat.mul_one]; exact (List.length_map ..).symm) (by show _ + 1 ≤ _; omega) ?_
        repeat (first | refine z_region rfl ?_ | refine o_nil ?_ | refine u_seq ?_ | refine u_blk ?_ | refine o_mov rfl ?_ | refine o_bin (op := .add) rfl rfl rfl ?_)
        rw [wrap_succ i (by omega)]
        exact u_round (show C.length - (i + 1) < C.length - i by omega) (sub_renw [(some (0, 2), rowI ((C.take (i + 1)).filter fun p => (trues l p).isEmpty))] [] rfl rfl rfl .nil (.cons (by rw [htk, rowI_snoc]; rfl) (.keep (rowI_hasM _)) .nil) (.cons rfl (.same rfl) (.cons (by rw [htk, List.length_append]; rfl) (.ms rfl) (.cons rfl (.same rfl) (.cons rfl (.same rfl) .nil))))) ⟨i + 1, rfl, hlt, rfl⟩
      · rw [empty_len] at h
        rw [if_neg (by rw [h]; simp), List.append_nil] at htk
        repeat (first | refine z_region rfl ?_ | refine o_nil ?_ | refine u_seq ?_ | refine u_blk ?_ | refine z_skip ?_ | refine z_cf rfl ?_ | refine o_mov rfl ?_ | refine o_bin (op := .add) rfl rfl rfl ?_)
        rw [wrap_succ i (by omega)]
        exact u_round (show C.length - (i + 1) < C.length - i by omega) (sub_keep (.cons rfl (.cons rfl (.cons rfl (.cons rfl .nil))))) ⟨i + 1, rfl, hlt, by rw [htk]⟩
    · have hi2 : i = C.length := by
        have : ¬ ((i : Nat) : Int) < ((C.map fun c => ([vsI c] : List AV)).length : Nat) := of_decide_eq_false h3
        rw [hCl] at this
        omega
      subst hi2
      rw [List.take_length]
      repeat (first | refine o_nil ?_ | refine u_seq ?_ | refine z_cf rfl ?_ | refine z_exit ?_ | refine u_exit_seq ?_)
      refine u_out ?_
      repeat (first | refine z_seq ?_ | refine z_region rfl ?_ | refine o_nil ?_ | refine u_seq ?_ | refine z_ret ?_ | refine u_exit ?_ | refine o_mov rfl ?_)
      refine u_end ⟨.inr rfl, _, rfl, ?_⟩
      exact congrArg AV.tup (pair_eq (view_row (d := 2) _ rfl) rfl)
  · rw [if_neg hg]
    repeat (first | refine z_seq ?_ | refine z_region rfl ?_ | refine o_nil ?_ | refine u_seq ?_ | refine o_mov rfl ?_)
    refine o_cmp rfl rfl rfl (fun h => ?_) fun h => absurd (by simpa using h) hg
    repeat (first | refine z_seq ?_ | refine z_region rfl ?_ | refine o_nil ?_ | refine u_seq ?_ | refine z_ct rfl ?_ | refine z_ret ?_ | refine u_ret_seq ?_ | refine o_mov rfl ?_)
    exact u_end ⟨.inr rfl, _, rfl, rfl⟩

end Go.Proofs.Ytofkihmckookjaa
namespace Go.Proofs.Ytofkihmckookjaa
open Go Go.Am

/-- A list without the elements at some places. -/
def woL (gone : List Int) : Nat → List Ex → List Ex
  | _, [] => []
  | i, y :: ys => if gone.any (· == (i : Int)) = true then woL gone (i + 1) ys else y :: woL gone (i + 1) ys

theorem woL_len (gone : List Int) : ∀ (i : Nat) (l : List Ex), (woL gone i l).length ≤ l.length
  | _, [] => Nat.le_refl _
  | i, y :: ys => by
    rw [woL]
    have := woL_len gone (i + 1) ys
    split <;> simp only [List.length_cons] <;> omega

theorem woL_mem (gone : List Int) : ∀ (i : Nat) (l : List Ex), ∀ y ∈ woL gone i l, y ∈ l
  | _, [], y, h => h
  | i, x :: xs, y, h => by
    rw [woL] at h
    split at h
    · exact List.mem_cons_of_mem _ (woL_mem gone _ xs y h)
    · rcases List.mem_cons.1 h with rfl | h
      · exact List.mem_cons_self ..
      · exact List.mem_cons_of_mem _ (woL_mem gone _ xs y h)

theorem woL_take (gone : List Int) : ∀ (b : Nat) (l : List Ex) (i : Nat) (h : i < l.length), woL gone b (l.take (i + 1)) = woL gone b (l.take i) ++ (if gone.any (· == ((b + i : Nat) : Int)) = true then [] else [l[i]])
  | b, x :: xs, 0, h => by
    rw [List.take_succ_cons, List.take_zero, List.take_zero, woL, woL, woL]
    rfl
  | b, x :: xs, i + 1, h => by
    have := woL_take gone (b + 1) xs i (by simpa using h)
    rw [show b + 1 + i = b + (i + 1) from by omega] at this
    rw [List.take_succ_cons, List.take_succ_cons, woL, woL, this]
    split <;> simp

theorem cXs_snoc (l : List Ex) (y : Ex) : (cXs (l ++ [y])).flatten = (cXs l).flatten ++ cX y := by
  rw [cXs_eq, cXs_eq, List.map_append, List.flatten_append]
  simp

def b67_2 : IC := .seq (.seq (.region [⟨(some 16), .mov (.t 8), none⟩,
    ⟨(some 17), .mov (.t 1), none⟩,
    ⟨(some 18), .len false (.t 17), none⟩,
    ⟨(some 19), .bin .lss (.t 16) (.t 18), none⟩] none)
  (.cond (.t 19) (.skip)
  (.exit 2)))
  (.seq (.block 3 (.region [⟨(some 22), .mov (.t 7), none⟩,
    ⟨(some 23), .mov (.t 22), none⟩,
    ⟨(some 24), .mov (.t 1), some (23, false)⟩,
    ⟨(some 25), .mov (.t 8), some (23, false)⟩,
    ⟨(some 26), .idxs 1 (.t 24) (.t 25), some (23, false)⟩,
    ⟨(some 27), .load none (.t 26), some (23, false)⟩,
    ⟨(some 28), .mov (.t 6), some (23, false)⟩,
    ⟨(some 29), .bin .eql (.t 27) (.t 28), some (23, false)⟩,
    ⟨(some 30), .pick (.t 23) (.c (.bool true)) (.t 29), none⟩,
    ⟨(some 7), .mov (.t 30), none⟩] none))
  (.region [⟨(some 20), .mov (.t 8), none⟩,
    ⟨(some 21), .bin .add (.t 20) (.c (.int .i64 1)), none⟩,
    ⟨(some 8), .mov (.t 21), none⟩] none))

def b67_0 : IC := .seq (.seq (.region [⟨(some 9), .mov (.t 6), none⟩,
    ⟨(some 10), .faddr 0 (.t 2), none⟩,
    ⟨(some 11), .load none (.t 10), none⟩,
    ⟨(some 12), .len false (.t 11), none⟩,
    ⟨(some 13), .bin .lss (.t 9) (.t 12), none⟩] none)
  (.cond (.t 13) (.skip)
  (.exit 0)))
  (.seq (.block 1 (.seq (.region [⟨(some 7), .mov (.c (.bool false)), none⟩] none)
  (.seq (.seq (.region [⟨(some 8), .mov (.c (.int .i64 0)), none⟩] none)
  (.block 2 (.loop b67_2)))
  (.seq (.region [⟨(some 31), .mov (.t 7), none⟩,
    ⟨(some 32), .un .not (.t 31), none⟩] none)
  (.cond (.t 32) (.region [⟨(some 33), .faddr 0 (.t 5), none⟩,
    ⟨(some 34), .load none (.t 33), none⟩,
    ⟨(some 35), .faddr 0 (.t 2), none⟩,
    ⟨(some 36), .load none (.t 35), none⟩,
    ⟨(some 37), .mov (.t 6), none⟩,
    ⟨(some 38), .idxs 3 (.t 36) (.t 37), none⟩,
    ⟨(some 39), .load (some 3) (.t 38), none⟩,
    ⟨(some 40), .bslice 3 1 [.int .i64 0, .int .i64 0, .nils] [(0, 3, (.t 39))], none⟩,
    ⟨(some 41), .append 3 40 [.int .i64 0, .int .i64 0, .nils] (.t 34) (.t 40), none⟩,
    ⟨(some 42), .faddr 0 (.t 5), none⟩,
    ⟨none, .store 1 (.t 42) (.t 41), none⟩] (some [[], [0], [], [2], [], [3, 4], [5], [6], [1, 7], [0, 1, 2, 3, 4, 5, 6, 7, 8], [9, 8, 8, 0, 1, 2, 3, 4, 5, 6, 7, 8]]))
  (.skip))))))
  (.region [⟨(some 14), .mov (.t 6), none⟩,
    ⟨(some 15), .bin .add (.t 14) (.c (.int .i64 1)), none⟩,
    ⟨(some 6), .mov (.t 15), none⟩] none))

-- pneumatic/pneumaticref49.without
def ic67 : IC := .seq (.region [⟨(some 2), .box (.t 0), none⟩,
    ⟨(some 4), .alloc [.nils], none⟩] none)
  (.seq (.region [⟨(some 5), .alloc [.nils], none⟩] none)
  (.seq (.seq (.region [⟨(some 6), .mov (.c (.int .i64 0)), none⟩] none)
  (.block 0 (.loop b67_0)))
  (.seq (.region [⟨(some 43), .load (some 1) (.t 5), none⟩,
    ⟨none, .store 1 (.t 4) (.t 43), none⟩] none)
  (.ret))))
theorem fn67 : env0.fn 67 = some ⟨44, ic67, [.cell 4 (some 1)]⟩ := by kernel_rfl


theorem view_cXs {S : AS} {d id sp : Nat} {cap : Option Nat} {ys : List AV} (l : List Ex) (hl : Am.look id S.heap = some (sp, .cells ((cXs l).flatten ++ ys))) : S.view (d + 1) (.ms id sp 3 0 l.length cap) = .vs (cXs l) := by
  have e : S.elems 3 (.ms id sp 3 0 l.length cap) = some (cXs l) := by
    obtain ⟨n, t, hp, nx, ck, mk⟩ := S
    exact elems_ms (cap := cap) (n := n) (nx := nx) (ck := ck) (mk := mk) (l := []) (hp := hp) hl (cXs_length l) (cXs_size l)
  simp only [AS.view, e]
  congr 1
  rw [cXs_eq, List.map_map]
  apply List.map_congr_left
  intro x _
  obtain ⟨o, i, a⟩ := x
  cases d <;> rfl

set_option maxHeartbeats 2000000 in
theorem without67 (l : List Ex) (hl : l.length ≤ 600) (gone : List Int) (hgl : gone.length ≤ 100000) : PF Try.prog 67 [.agg [.vs (cXs l)], vsI gone] (.agg [.vs (cXs (woL gone 0 l))]) := by
  have hcl : (cXs l).length = l.length := cXs_length l
  have hgo : (gone.map fun z => ([.int .i64 z] : List AV)).length = gone.length := List.length_map ..
  refine PF_of_Z env0_ok fn67 [(0, .agg [.vs (cXs l)]), (1, vsI gone)] (by show 2 ≤ 44; decide) rfl fun w0 N0 => ?_
  unfold ic67
  repeat (first | refine z_seq ?_ | refine z_region rfl ?_ | refine o_nil ?_ | refine u_seq ?_ | refine z_block ?_ | refine o_mov rfl ?_ | refine o_alloc ?_ | refine o_box rfl rfl ?_)
  refine z_loop (fun mm S => ∃ i, mm = l.length - i ∧ i ≤ l.length ∧
      S = st 44 [(1, vsI gone), (2, .vptr [.vs (cXs l)]), (4, .mptr 0 0 0), (5, .mptr 1 0 0), (6, .int .i64 (i : Nat))] [(0, 0, .cells [.nils]), (1, 0, .cells [.ms 2 0 3 0 (woL gone 0 (l.take i)).length none]), (2, 0, .cells (cXs (woL gone 0 (l.take i))).flatten)] 3 1) l.length
    (sub_renw [(some (1, 1), [.nils]), (some (2, 2), [.ms 2 0 3 0 0 none]), (none, [])] [(0, 0, [.vs (cXs l)])] rfl rfl rfl (.cons rfl rfl .nil) (.cons rfl (.keep rfl) (.cons rfl (.cons (.grow rfl) .nil) (.new .nil))) (l' := [(1, vsI gone), (2, .vptr [.vs (cXs l)]), (4, .mptr 0 0 0), (5, .mptr 1 0 0), (6, .int .i64 ((0 : Nat) : Int))]) (.cons rfl (.same rfl) (.cons rfl (.fptr rfl rfl) (.cons rfl (.mptr rfl) (.cons rfl (.mptr rfl) (.cons rfl (.same rfl) .nil)))))) ⟨0, rfl, Nat.zero_le _, by rw [List.take_zero]; rfl⟩ ?_
  rintro mm S ⟨i, rfl, hi, rfl⟩
  unfold b67_0
  repeat (first | refine z_seq ?_ | refine z_region rfl ?_ | refine o_mov rfl ?_ | refine o_load rfl rfl ?_ | refine o_faddrv rfl rfl rfl ?_ | refine o_len rfl rfl ?_)
  refine o_cmp rfl rfl rfl (fun h3 => ?_) fun h3 => ?_
  · have hlt : i < l.length := by
      have : ((i : Nat) : Int) < ((cXs l).length : Nat) := of_decide_eq_true h3
      rw [hcl] at this
      omega
    have hge := cXs_get hlt
    have htk := woL_take gone 0 l i hlt
    rw [Nat.zero_add] at htk
    have hwl := woL_len gone 0 (l.take i)
    rw [List.length_take] at hwl
    have hwM := cXs_hasM (woL gone 0 (l.take i))
    have hwF : (cXs (woL gone 0 (l.take i))).flatten.length = (woL gone 0 (l.take i)).length * 3 := by rw [flat_length (cXs_size _), cXs_length]
    generalize hW : woL gone 0 (l.take i) = W at *
    repeat (first | refine z_seq ?_ | refine z_region rfl ?_ | refine o_nil ?_ | refine u_seq ?_ | refine z_block ?_ | refine z_skip ?_ | refine z_ct rfl ?_ | refine o_mov rfl ?_)
    refine z_loop (k := [.blk 2, .seq _, .blk 1, .seq _]) (fun mm S => ∃ k, mm = gone.length - k ∧ k ≤ gone.length ∧
        S = st 44 [(1, vsI gone), (2, .vptr [.vs (cXs l)]), (4, .mptr 0 0 0), (5, .mptr 1 0 0), (6, .int .i64 (i : Nat)), (7, .bool ((gone.take k).any (· == (i : Int)))), (8, .int .i64 (k : Nat))] [(0, 0, .cells [.nils]), (1, 0, .cells [.ms 2 0 3 0 W.length none]), (2, 0, .cells (cXs W).flatten)] 3 1) gone.length
      (sub_keep (.cons rfl (.cons rfl (.cons rfl (.cons rfl (.cons rfl (.cons rfl (.cons rfl .nil)))))))) ⟨0, rfl, Nat.zero_le _, rfl⟩ ?_
    rintro mm S ⟨k, rfl, hk, rfl⟩
    unfold b67_2
    repeat (first | refine z_seq ?_ | refine z_region rfl ?_ | refine o_mov rfl ?_ | refine o_len rfl rfl ?_)
    refine o_cmp rfl rfl rfl (fun h4 => ?_) fun h4 => ?_
    · have hlk : k < gone.length := by
        have : ((k : Nat) : Int) < ((gone.map fun z => ([.int .i64 z] : List AV)).length : Nat) := of_decide_eq_true h4
        rw [hgo] at this
        omega
      have hgk := vsI_get gone k hlk
      have hany : (gone.take (k + 1)).any (· == (i : Int)) = ((gone.take k).any (· == (i : Int)) || gone[k] == (i : Int)) := by
        rw [List.take_add_one, List.getElem?_eq_getElem hlk, List.any_append]
        simp
      generalize gone[k] = z at hgk hany
      generalize (gone.take k).any (· == (i : Int)) = b at hany
      cases b with
      | true =>
        repeat (first | refine z_seq ?_ | refine z_region rfl ?_ | refine o_nil ?_ | refine u_seq ?_ | refine u_blk ?_ | refine z_block ?_ | refine z_skip ?_ | refine z_ct rfl ?_ | refine o_gn rfl rfl ?_ | refine o_mov rfl ?_ | refine o_pickt rfl rfl ?_ | refine o_bin (op := .add) rfl rfl rfl ?_)
        rw [wrap_succ k (by omega)]
        exact u_round (show gone.length - (k + 1) < gone.length - k by omega) (sub_keep (.cons rfl (.cons rfl (.cons rfl (.cons rfl (.cons rfl (.cons rfl (.cons rfl .nil)))))))) ⟨k + 1, rfl, hlk, by rw [hany, Bool.true_or]⟩
      | false =>
        repeat (first | refine z_seq ?_ | refine z_region rfl ?_ | refine o_nil ?_ | refine u_seq ?_ | refine z_block ?_ | refine z_skip ?_ | refine z_ct rfl ?_ | refine o_gy rfl ?_ | refine o_mov rfl ?_ | refine o_load rfl rfl ?_ | refine o_idxs rfl rfl (by omega) (by assumption) rfl ?_)
        refine o_cmp rfl rfl rfl (fun h5 => ?_) fun h5 => ?_
        all_goals
          repeat (first | refine z_region rfl ?_ | refine o_nil ?_ | refine u_seq ?_ | refine u_blk ?_ | refine o_mov rfl ?_ | refine o_pickf rfl rfl ?_ | refine o_bin (op := .add) rfl rfl rfl ?_)
          rw [wrap_succ k (by omega)]
          exact u_round (show gone.length - (k + 1) < gone.length - k by omega) (sub_keep (.cons rfl (.cons rfl (.cons rfl (.cons rfl (.cons rfl (.cons rfl (.cons rfl .nil)))))))) ⟨k + 1, rfl, hlk, by rw [hany, Bool.false_or, h5]⟩
    · have hk2 : k = gone.length := by
        have : ¬ ((k : Nat) : Int) < ((gone.map fun z => ([.int .i64 z] : List AV)).length : Nat) := of_decide_eq_false h4
        rw [hgo] at this
        omega
      subst hk2
      rw [List.take_length]
      cases hb : gone.any (· == (i : Int)) with
      | true =>
        rw [hb, if_pos rfl, List.append_nil] at htk
        repeat (first | refine o_nil ?_ | refine u_seq ?_ | refine z_cf rfl ?_ | refine z_exit ?_ | refine u_exit_seq ?_)
        refine u_out ?_
        repeat (first | refine z_seq ?_ | refine z_region rfl ?_ | refine o_nil ?_ | refine u_seq ?_ | refine u_blk ?_ | refine z_skip ?_ | refine z_cf rfl ?_ | refine u_exit ?_ | refine o_mov rfl ?_ | refine o_un rfl rfl ?_ | refine o_bin (op := .add) rfl rfl rfl ?_)
        rw [wrap_succ i (by omega)]
        exact u_round (show l.length - (i + 1) < l.length - i by omega) (sub_keep (.cons rfl (.cons rfl (.cons rfl (.cons rfl (.cons rfl .nil)))))) ⟨i + 1, rfl, hlt, by rw [htk]⟩
      | false =>
        rw [hb, if_neg (by decide)] at htk
        repeat (first | refine o_nil ?_ | refine u_seq ?_ | refine z_cf rfl ?_ | refine z_exit ?_ | refine u_exit_seq ?_)
        refine u_out ?_
        generalize l[i] = y at hge htk
        obtain ⟨yo, yi, ya⟩ := y
        have hsn := cXs_snoc W (.nd yo yi ya)
        repeat (first | refine z_seq ?_ | refine z_region rfl ?_ | refine o_nil ?_ | refine u_seq ?_ | refine z_ct rfl ?_ | refine u_exit ?_ | refine o_mov rfl ?_ | refine o_load rfl rfl ?_ | refine o_loadn rfl rfl rfl rfl ?_ | refine o_faddrm rfl ?_ | refine o_faddrv rfl rfl rfl ?_ | refine o_un rfl rfl ?_ | refine o_bslice rfl rfl ?_ | refine z_drawn0 env0_ok rfl rfl rfl ?_ | refine o_idxs rfl rfl (by omega) (by assumption) rfl ?_)
        refine o_append_ms [cX (.nd yo yi ya)] rfl rfl rfl (fun h => Nat.noConfusion h) rfl (by decide) rfl (by rw [hwF]) (by show _ + 1 ≤ _; omega) ?_
        repeat (first | refine z_region rfl ?_ | refine o_nil ?_ | refine u_seq ?_ | refine u_blk ?_ | refine o_mov rfl ?_ | refine o_store rfl rfl rfl rfl rfl rfl rfl ?_ | refine o_faddrm rfl ?_ | refine o_bin (op := .add) rfl rfl rfl ?_)
        rw [wrap_succ i (by omega)]
        refine u_round (show l.length - (i + 1) < l.length - i by omega) (sub_renw [(some (0, 0), [.nils]), (some (1, 0), [.ms 2 0 3 0 (W ++ [Ex.nd yo yi ya]).length none]), (some (2, 2), (cXs (W ++ [Ex.nd yo yi ya])).flatten)] [] rfl rfl rfl .nil (.cons rfl (.keep rfl) (.cons rfl (.cons ?_ .nil) (.cons (by rw [hsn]; rfl) (.keep (cXs_hasM _)) .nil))) (.cons rfl (.same rfl) (.cons rfl (.same rfl) (.cons rfl (.mptr rfl) (.cons rfl (.mptr rfl) (.cons rfl (.same rfl) .nil)))))) ⟨i + 1, rfl, hlt, by rw [htk]; rfl⟩
        rw [List.length_append]
        exact .ms rfl
  · have hi2 : i = l.length := by
      have : ¬ ((i : Nat) : Int) < ((cXs l).length : Nat) := of_decide_eq_false h3
      rw [hcl] at this
      omega
    subst hi2
    rw [List.take_length]
    repeat (first | refine o_nil ?_ | refine u_seq ?_ | refine z_cf rfl ?_ | refine z_exit ?_ | refine u_exit_seq ?_)
    refine u_out ?_
    repeat (first | refine z_seq ?_ | refine z_region rfl ?_ | refine o_nil ?_ | refine u_seq ?_ | refine z_ret ?_ | refine u_exit ?_ | refine o_loadn rfl rfl rfl rfl ?_ | refine o_store rfl rfl rfl rfl rfl rfl rfl ?_)
    refine u_end ⟨.inr rfl, _, rfl, ?_⟩
    refine congrArg (fun v => AV.agg [v]) (view_cXs (d := 2) (ys := []) (woL gone 0 l) ?_)
    rw [List.append_nil]
    rfl

end Go.Proofs.Ytofkihmckookjaa
namespace Go.Proofs.Ytofkihmckookjaa
open Go Go.Am

mutual
theorem cX_inj : ∀ x y : Ex, cX x = cX y → x = y
  | .nd a b c, .nd a' b' c', h => by
    simp only [cX, List.cons.injEq, AV.int.injEq, true_and, AV.vs.injEq, and_true] at h
    obtain ⟨rfl, rfl, h⟩ := h
    rw [cXs_inj c c' h]
theorem cXs_inj : ∀ l m : List Ex, cXs l = cXs m → l = m
  | [], [], _ => rfl
  | [], y :: ys, h => by simp [cXs] at h
  | x :: xs, [], h => by simp [cXs] at h
  | x :: xs, y :: ys, h => by
    simp only [cXs, List.cons.injEq] at h
    rw [cX_inj x y h.1, cXs_inj xs ys h.2]
end

theorem lookL_or {f : FuncId} {args bs : List AV} {v u : AV} {l : List (FuncId × List AV × AV)} (he : bs = args → u = v) (h : lookL l f args = some v) : lookL ((f, bs, u) :: l) f args = some v := by
  unfold lookL
  by_cases hc : bs = args
  · rw [if_pos ⟨rfl, hc⟩, he hc]
  · rw [if_neg fun hh => hc hh.2]
    exact h

def alikeB (C : List (List Int)) (l m : List Ex) : Bool := C.all fun p => (trues l p).isEmpty == (trues m p).isEmpty

def b40_0 : IC := .seq (.seq (.region [⟨(some 12), .mov (.t 8), none⟩,
    ⟨(some 13), .mov (.t 7), none⟩,
    ⟨(some 14), .len false (.t 13), none⟩,
    ⟨(some 15), .bin .lss (.t 12) (.t 14), none⟩] none)
  (.cond (.t 15) (.skip)
  (.exit 0)))
  (.seq (.block 1 (.seq (.region [⟨(some 18), .load (some 1) (.t 3), none⟩,
    ⟨(some 19), .mov (.t 7), none⟩,
    ⟨(some 20), .mov (.t 8), none⟩,
    ⟨(some 21), .idxs 1 (.t 19) (.t 20), none⟩,
    ⟨(some 22), .load none (.t 21), none⟩,
    ⟨(some 23), .call (.c (.fn 55 [] [])) [(.t 18), (.t 22)], none⟩,
    ⟨(some 24), .len false (.t 23), none⟩,
    ⟨(some 25), .bin .eql (.t 24) (.c (.int .i64 0)), none⟩,
    ⟨(some 26), .load (some 1) (.t 4), none⟩,
    ⟨(some 27), .mov (.t 7), none⟩,
    ⟨(some 28), .mov (.t 8), none⟩,
    ⟨(some 29), .idxs 1 (.t 27) (.t 28), none⟩,
    ⟨(some 30), .load none (.t 29), none⟩,
    ⟨(some 31), .call (.c (.fn 55 [] [])) [(.t 26), (.t 30)], none⟩,
    ⟨(some 32), .len false (.t 31), none⟩,
    ⟨(some 33), .bin .eql (.t 32) (.c (.int .i64 0)), none⟩,
    ⟨(some 34), .eqb true (.t 25) (.t 33), none⟩] (some [[], [], [], [1, 2], [3], [0, 4], [5], [6], [], [], [], [9, 10], [11], [8, 12, 5], [13], [14], [7, 15]]))
  (.cond (.t 34) (.seq (.region [⟨(some 6), .mov (.c (.bool false)), none⟩] none)
  (.ret))
  (.skip))))
  (.region [⟨(some 16), .mov (.t 8), none⟩,
    ⟨(some 17), .bin .add (.t 16) (.c (.int .i64 1)), none⟩,
    ⟨(some 8), .mov (.t 17), none⟩] none))

-- pneumatic/pneumaticref49.Alike
def ic40 : IC := .seq (.region [⟨(some 3), .box (.t 0), none⟩,
    ⟨(some 4), .box (.t 1), none⟩,
    ⟨(some 6), .mov (.c (.bool false)), none⟩] none)
  (.seq (.region [⟨(some 9), .mov (.t 2), none⟩,
    ⟨(some 10), .bslice 1 3 [.int .i64 0, .int .i64 0, .int .i64 0] [(0, 1, (.c (.int .i64 0))), (1, 1, (.c (.int .i64 1))), (2, 1, (.c (.int .i64 2)))], none⟩,
    ⟨(some 11), .call (.c (.fn 65 [] [])) [(.t 9), (.t 10)], none⟩,
    ⟨(some 7), .mov (.t 11), none⟩] none)
  (.seq (.seq (.region [⟨(some 8), .mov (.c (.int .i64 0)), none⟩] none)
  (.block 0 (.loop b40_0)))
  (.seq (.region [⟨(some 6), .mov (.c (.bool true)), none⟩] none)
  (.ret))))
theorem fn40 : env0.fn 40 = some ⟨35, ic40, [.t 6]⟩ := by kernel_rfl


set_option maxHeartbeats 2000000 in
theorem alike40 (l m : List Ex) {n : Nat} (hg : guardC l n = 0) (hm : guardC m n = 0) (h4 : n ≤ 4) : PF Try.prog 40 [.agg [.vs (cXs l)], .agg [.vs (cXs m)], .int .i64 (n : Nat)] (.bool (alikeB (combs (List.replicate n [0, 1, 2])) l m)) := by
  have h1 := (guardC_ok hg).1
  have h65 := all65b (n := n) (by omega) h4
  have hrow := combs_row (List.replicate n [0, 1, 2])
  have hlen := combs_len (List.replicate n [0, 1, 2]) (fun c hc => by obtain rfl := List.eq_of_mem_replicate hc; decide) (by rw [List.length_replicate]; omega)
  rw [List.length_replicate] at hrow
  generalize combs (List.replicate n [0, 1, 2]) = C at *
  have hCl : (C.map fun c => ([vsI c] : List AV)).length = C.length := List.length_map ..
  refine PF_of_Z env0_ok fn40 [(0, .agg [.vs (cXs l)]), (1, .agg [.vs (cXs m)]), (2, .int .i64 (n : Nat))] (by show 3 ≤ 35; decide) rfl fun w0 N0 => ?_
  unfold ic40
  repeat (first | refine z_seq ?_ | refine o_nil ?_ | refine u_seq ?_ | refine z_region rfl ?_ | refine o_mov rfl ?_ | refine o_box rfl rfl ?_)
  refine o_fsl [[.int .i64 0], [.int .i64 1], [.int .i64 2]] rfl rfl rfl rfl ?_
  refine o_call rfl rfl h65 (fun h => Bool.noConfusion (show false = true from h)) ?_
  repeat (first | refine z_seq ?_ | refine z_region rfl ?_ | refine o_nil ?_ | refine u_seq ?_ | refine z_block ?_ | refine o_mov rfl ?_)
  refine z_loop (fun mm S => ∃ i, mm = C.length - i ∧ i ≤ C.length ∧ alikeB C l m = alikeB (C.drop i) l m ∧ S = st 35 [(3, .vptr [.vs (cXs l)]), (4, .vptr [.vs (cXs m)]), (7, css C), (8, .int .i64 (i : Nat))] [] 0 1) C.length
    (sub_renw [] [(0, 0, [.vs (cXs l)]), (1, 1, [.vs (cXs m)])] rfl rfl rfl (.cons rfl rfl (.cons rfl rfl .nil)) .nil (l' := [(3, .vptr [.vs (cXs l)]), (4, .vptr [.vs (cXs m)]), (7, css C), (8, .int .i64 ((0 : Nat) : Int))]) (.cons rfl (.fptr rfl rfl) (.cons rfl (.fptr rfl rfl) (.cons rfl (.same rfl) (.cons rfl (.same rfl) .nil))))) ⟨0, rfl, Nat.zero_le _, rfl, rfl⟩ ?_
  rintro mm S ⟨i, rfl, hi, hall, rfl⟩
  unfold b40_0
  repeat (first | refine z_seq ?_ | refine z_region rfl ?_ | refine o_mov rfl ?_ | refine o_len rfl rfl ?_)
  refine o_cmp rfl rfl rfl (fun h3 => ?_) fun h3 => ?_
  · have hlt : i < C.length := by
      have : ((i : Nat) : Int) < ((C.map fun c => ([vsI c] : List AV)).length : Nat) := of_decide_eq_true h3
      rw [hCl] at this
      omega
    have hgx := css_get hlt
    have ha := trueG hg (hrow _ (List.getElem_mem hlt))
    have hb := trueG hm (hrow _ (List.getElem_mem hlt))
    rw [List.drop_eq_getElem_cons hlt] at hall
    have hst : alikeB (C[i] :: C.drop (i + 1)) l m = (((trues l C[i]).isEmpty == (trues m C[i]).isEmpty) && alikeB (C.drop (i + 1)) l m) := rfl
    rw [hst] at hall
    clear hst
    generalize C[i] = p at hgx ha hb hall
    repeat (first | refine o_nil ?_ | refine u_seq ?_ | refine z_seq ?_ | refine z_ct rfl ?_ | refine z_skip ?_ | refine z_block ?_)
    refine z_drawn env0_ok [(55, [.agg [.vs (cXs l)], vsI p], vsI (trues l p)), (55, [.agg [.vs (cXs m)], vsI p], vsI (trues m p))] (fun w hw => by
      rcases List.mem_cons.1 hw with rfl | hw
      · exact ha
      · obtain rfl := List.mem_singleton.1 hw; exact hb) (fun f => Nat.beq f 55) rfl rfl rfl ?_
    repeat (first | refine o_mov rfl ?_ | refine o_load rfl rfl ?_ | refine o_loadn rfl rfl rfl rfl ?_ | refine o_idxs rfl rfl (by omega) (by assumption) rfl ?_)
    refine o_call rfl rfl lookL_here (fun h => Bool.noConfusion (show false = true from h)) ?_
    refine o_len rfl rfl ?_
    refine o_bin rfl rfl rfl ?_
    repeat (first | refine o_mov rfl ?_ | refine o_load rfl rfl ?_ | refine o_loadn rfl rfl rfl rfl ?_ | refine o_idxs rfl rfl (by omega) (by assumption) rfl ?_)
    refine o_call rfl rfl (lookL_or (fun e => ?_) lookL_here) (fun h => Bool.noConfusion (show false = true from h)) ?_
    · have e : [AV.agg [.vs (cXs l)], vsI p] = [AV.agg [.vs (cXs m)], vsI p] := e
      injection e with e
      injection e with e
      injection e with e
      injection e with e
      rw [cXs_inj l m e]
    refine o_len rfl rfl ?_
    refine o_bin rfl rfl rfl ?_
    rw [empty_len, empty_len]
    refine o_eqb rfl rfl (fun h => ?_) fun h => ?_
    · have h : ((trues l p).isEmpty == (trues m p).isEmpty) = false := by simpa using h
      rw [h, Bool.false_and] at hall
      rw [hall]
      repeat (first | refine z_seq ?_ | refine z_region rfl ?_ | refine o_nil ?_ | refine u_seq ?_ | refine z_ct rfl ?_ | refine z_ret ?_ | refine u_ret_seq ?_ | refine u_ret_blk ?_ | refine o_mov rfl ?_)
      refine u_out_ret ?_
      repeat (first | refine u_ret_seq ?_ | refine u_ret_blk ?_)
      exact u_end ⟨.inr rfl, _, rfl, rfl⟩
    · have h : ((trues l p).isEmpty == (trues m p).isEmpty) = true := by simpa using h
      rw [h, Bool.true_and] at hall
      repeat (first | refine z_region rfl ?_ | refine o_nil ?_ | refine u_seq ?_ | refine u_blk ?_ | refine z_skip ?_ | refine z_cf rfl ?_ | refine o_mov rfl ?_ | refine o_bin (op := .add) rfl rfl rfl ?_)
      rw [wrap_succ i (by omega)]
      exact u_round (show C.length - (i + 1) < C.length - i by omega) (sub_keep (.cons rfl (.cons rfl (.cons rfl (.cons rfl .nil))))) ⟨i + 1, rfl, hlt, hall, rfl⟩
  · have hi2 : i = C.length := by
      have : ¬ ((i : Nat) : Int) < ((C.map fun c => ([vsI c] : List AV)).length : Nat) := of_decide_eq_false h3
      rw [hCl] at this
      omega
    subst hi2
    rw [hall, List.drop_length]
    repeat (first | refine o_nil ?_ | refine u_seq ?_ | refine z_cf rfl ?_ | refine z_exit ?_ | refine u_exit_seq ?_)
    refine u_out ?_
    repeat (first | refine z_seq ?_ | refine z_region rfl ?_ | refine o_nil ?_ | refine u_seq ?_ | refine z_ret ?_ | refine u_exit ?_ | refine o_mov rfl ?_)
    exact u_end ⟨.inr rfl, _, rfl, rfl⟩

end Go.Proofs.Ytofkihmckookjaa
namespace Go.Proofs.Ytofkihmckookjaa
open Go Go.Am

theorem chkL_of {m : Int} : ∀ {l : List Ex}, (∀ y ∈ l, checkR y m = 0) → chkL m l = 0
  | [], _ => rfl
  | x :: xs, h => by
    rw [chkL, if_pos (h x (List.mem_cons_self ..))]
    exact chkL_of fun y hy => h y (List.mem_cons_of_mem _ hy)

theorem guardC_sub {l m : List Ex} {n : Int} (hs : ∀ y ∈ m, y ∈ l) (hl : m.length ≤ l.length) (h : guardC l n = 0) : guardC m n = 0 := by
  obtain ⟨g1, g2, g3, g4⟩ := guardC_ok h
  unfold guardC
  rw [if_neg (by omega), if_neg (by omega)]
  exact chkL_of fun y hy => g4 y (hs y hy)

def redF (C : List (List Int)) (l : List Ex) : Nat → List Int
  | 0 => []
  | i + 1 => if alikeB C l (woL (redF C l i ++ [(i : Int)]) 0 l) = true then redF C l i ++ [(i : Int)] else redF C l i

theorem redF_len (C : List (List Int)) (l : List Ex) : ∀ i, (redF C l i).length ≤ i
  | 0 => Nat.le_refl _
  | i + 1 => by
    have := redF_len C l i
    rw [redF]
    split
    · rw [List.length_append]; show _ + 1 ≤ _; omega
    · omega

def redV (l : List Ex) (n : Int) : AV := if guardC l n = 0 then .tup [vsI (redF (combs (List.replicate n.toNat [0, 1, 2])) l l.length), .int .i64 0] else .tup [vsI [], .int .i64 (guardC l n)]

theorem view_vsI {S : AS} {d : Nat} (l : List Int) : S.view d (vsI l) = vsI l := by cases d <;> rfl

def b37_0 : IC := .seq (.seq (.region [⟨(some 16), .mov (.t 8), none⟩,
    ⟨(some 17), .faddr 0 (.t 2), none⟩,
    ⟨(some 18), .load none (.t 17), none⟩,
    ⟨(some 19), .len false (.t 18), none⟩,
    ⟨(some 20), .bin .lss (.t 16) (.t 19), none⟩] none)
  (.cond (.t 20) (.skip)
  (.exit 0)))
  (.seq (.block 1 (.seq (.region [⟨(some 23), .bslice 1 0 [] [], none⟩,
    ⟨(some 24), .mov (.t 7), none⟩,
    ⟨(some 25), .append 1 8 [.int .i64 0] (.t 23) (.t 24), none⟩,
    ⟨(some 26), .mov (.t 8), none⟩,
    ⟨(some 27), .bslice 1 1 [.int .i64 0] [(0, 1, (.t 26))], none⟩,
    ⟨(some 28), .append 1 8 [.int .i64 0] (.t 25) (.t 27), none⟩,
    ⟨(some 9), .mov (.t 28), none⟩] none)
  (.seq (.region [⟨(some 29), .load (some 1) (.t 2), none⟩,
    ⟨(some 30), .load (some 1) (.t 2), none⟩,
    ⟨(some 31), .mov (.t 9), none⟩,
    ⟨(some 32), .call (.c (.fn 67 [] [])) [(.t 30), (.t 31)], none⟩,
    ⟨(some 33), .mov (.t 1), none⟩,
    ⟨(some 34), .call (.c (.fn 40 [] [])) [(.t 29), (.t 32), (.t 33)], none⟩] (some [[], [], [], [1, 2], [], [0, 3, 4, 3]]))
  (.cond (.t 34) (.region [⟨(some 35), .mov (.t 9), none⟩,
    ⟨(some 7), .mov (.t 35), none⟩] none)
  (.skip)))))
  (.region [⟨(some 21), .mov (.t 8), none⟩,
    ⟨(some 22), .bin .add (.t 21) (.c (.int .i64 1)), none⟩,
    ⟨(some 8), .mov (.t 22), none⟩] none))

-- pneumatic/pneumaticref49.Redundant
def ic37 : IC := .seq (.region [⟨(some 2), .box (.t 0), none⟩,
    ⟨(some 4), .mov (.c (.nils)), none⟩,
    ⟨(some 5), .mov (.c (.int .i64 0)), none⟩] none)
  (.seq (.seq (.region [⟨(some 10), .load (some 1) (.t 2), none⟩,
    ⟨(some 11), .mov (.t 1), none⟩,
    ⟨(some 12), .call (.c (.fn 29 [] [])) [(.t 10), (.t 11)], none⟩,
    ⟨(some 6), .mov (.t 12), none⟩] none)
  (.seq (.region [⟨(some 13), .mov (.t 6), none⟩,
    ⟨(some 14), .bin .neq (.t 13) (.c (.int .i64 0)), none⟩] none)
  (.cond (.t 14) (.seq (.region [⟨(some 15), .mov (.t 6), none⟩,
    ⟨(some 4), .mov (.c (.nils)), none⟩,
    ⟨(some 5), .mov (.t 15), none⟩] none)
  (.ret))
  (.skip))))
  (.seq (.region [⟨(some 7), .mov (.c (.nils)), none⟩] none)
  (.seq (.seq (.region [⟨(some 8), .mov (.c (.int .i64 0)), none⟩] none)
  (.block 0 (.loop b37_0)))
  (.seq (.region [⟨(some 36), .mov (.t 7), none⟩,
    ⟨(some 4), .mov (.t 36), none⟩,
    ⟨(some 5), .mov (.c (.int .i64 0)), none⟩] none)
  (.ret)))))
theorem fn37 : env0.fn 37 = some ⟨37, ic37, [.t 4, .t 5]⟩ := by kernel_rfl


set_option maxHeartbeats 2000000 in
theorem redundant37 (l : List Ex) (hsl : ∀ y ∈ l, Slim y) (n : Int) (h4 : guardC l n = 0 → n ≤ 4) : PF Try.prog 37 [.agg [.vs (cXs l)], .int .i64 n] (redV l n) := by
  have h29 := gcheck29 l hsl n
  have hcl : (cXs l).length = l.length := cXs_length l
  refine PF_of_Z env0_ok fn37 [(0, .agg [.vs (cXs l)]), (1, .int .i64 n)] (by show 2 ≤ 37; decide) rfl fun w0 N0 => ?_
  unfold ic37 redV
  repeat (first | refine z_seq ?_ | refine z_region rfl ?_ | refine o_nil ?_ | refine u_seq ?_ | refine o_mov rfl ?_ | refine o_loadn rfl rfl rfl rfl ?_ | refine o_box rfl rfl ?_)
  refine o_call rfl rfl h29 (fun h => Bool.noConfusion (show false = true from h)) ?_
  by_cases hg : guardC l n = 0
  · rw [if_pos hg, hg]
    obtain ⟨g1, g2, g3, g4⟩ := guardC_ok hg
    have h4 := h4 hg
    obtain ⟨m, rfl⟩ : ∃ m : Nat, n = (m : Int) := ⟨n.toNat, by omega⟩
    rw [Int.toNat_natCast]
    obtain ⟨C, hC⟩ : ∃ C, C = combs (List.replicate m [0, 1, 2]) := ⟨_, rfl⟩
    rw [← hC]
    repeat (first | refine z_seq ?_ | refine z_region rfl ?_ | refine o_nil ?_ | refine u_seq ?_ | refine z_block ?_ | refine z_skip ?_ | refine z_cf rfl ?_ | refine o_mov rfl ?_ | refine o_cmpf rfl rfl rfl ?_)
    refine z_loop (fun mm S => ∃ i, mm = l.length - i ∧ i ≤ l.length ∧ S = st 37 [(1, .int .i64 (m : Nat)), (2, .vptr [.vs (cXs l)]), (7, vsI (redF C l i)), (8, .int .i64 (i : Nat))] [] 0 1) l.length
      (sub_renw [] [(0, 0, [.vs (cXs l)])] rfl rfl rfl (.cons rfl rfl .nil) .nil (l' := [(1, .int .i64 (m : Nat)), (2, .vptr [.vs (cXs l)]), (7, .vs []), (8, .int .i64 ((0 : Nat) : Int))]) (.cons rfl (.same rfl) (.cons rfl (.fptr rfl rfl) (.cons rfl .nilvs (.cons rfl (.same rfl) .nil))))) ⟨0, rfl, Nat.zero_le _, rfl⟩ ?_
    rintro mm S ⟨i, rfl, hi, rfl⟩
    unfold b37_0
    repeat (first | refine z_seq ?_ | refine z_region rfl ?_ | refine o_mov rfl ?_ | refine o_load rfl rfl ?_ | refine o_faddrv rfl rfl rfl ?_ | refine o_len rfl rfl ?_)
    refine o_cmp rfl rfl rfl (fun h3 => ?_) fun h3 => ?_
    · have hlt : i < l.length := by
        have : ((i : Nat) : Int) < ((cXs l).length : Nat) := of_decide_eq_true h3
        rw [hcl] at this
        omega
      have hol := redF_len C l i
      have hmg : guardC (woL (redF C l i ++ [(i : Int)]) 0 l) m = 0 := guardC_sub (woL_mem _ 0 l) (woL_len _ 0 l) hg
      have h67 := without67 l (by omega) (redF C l i ++ [(i : Int)]) (by rw [List.length_append]; show _ + 1 ≤ _; omega)
      have h40 := alike40 l (woL (redF C l i ++ [(i : Int)]) 0 l) hg hmg (by omega)
      rw [← hC] at h40
      have hstep : redF C l (i + 1) = if alikeB C l (woL (redF C l i ++ [(i : Int)]) 0 l) = true then redF C l i ++ [(i : Int)] else redF C l i := rfl
      generalize redF C l i = out at *
      generalize alikeB C l (woL (out ++ [(i : Int)]) 0 l) = b at *
      have fin : Zm Try.prog w0 N0 none (.seq (.region [⟨(some 29), .load (some 1) (.t 2), none⟩, ⟨(some 30), .load (some 1) (.t 2), none⟩, ⟨(some 31), .mov (.t 9), none⟩, ⟨(some 32), .call (.c (.fn 67 [] [])) [(.t 30), (.t 31)], none⟩, ⟨(some 33), .mov (.t 1), none⟩, ⟨(some 34), .call (.c (.fn 40 [] [])) [(.t 29), (.t 32), (.t 33)], none⟩] (some [[], [], [], [1, 2], [], [0, 3, 4, 3]]))
          (.cond (.t 34) (.region [⟨(some 35), .mov (.t 9), none⟩, ⟨(some 7), .mov (.t 35), none⟩] none) (.skip)))
          (st 37 [(1, .int .i64 (m : Nat)), (2, .vptr [.vs (cXs l)]), (7, vsI out), (8, .int .i64 (i : Nat)), (9, vsI (out ++ [(i : Int)]))] [] 0 1) [.blk 1, .seq (.region [⟨(some 21), .mov (.t 8), none⟩, ⟨(some 22), .bin .add (.t 21) (.c (.int .i64 1)), none⟩, ⟨(some 8), .mov (.t 22), none⟩] none)]
          (QLoopm w0 N0 none (fun mm S => ∃ i, mm = l.length - i ∧ i ≤ l.length ∧ S = st 37 [(1, .int .i64 (m : Nat)), (2, .vptr [.vs (cXs l)]), (7, vsI (redF C l i)), (8, .int .i64 (i : Nat))] [] 0 1) (l.length - i) (unw Try.prog w0 N0 none [.blk 0, .seq (.seq (.region [⟨(some 36), .mov (.t 7), none⟩, ⟨(some 4), .mov (.t 36), none⟩, ⟨(some 5), .mov (.c (.int .i64 0)), none⟩] none) .ret)] fun e S' => (e = .normal ∨ e = .ret) ∧ ∃ v0, S'.leave.res [.t 4, .t 5] = some v0 ∧ (⟨0, .nil, S'.leave.heap, S'.leave.next, S'.leave.clk, []⟩ : AS).view VD v0 = .tup [vsI (redF C l l.length), .int .i64 0])) := by
        refine z_seq (z_drawn env0_ok [(67, [.agg [.vs (cXs l)], vsI (out ++ [(i : Int)])], .agg [.vs (cXs (woL (out ++ [(i : Int)]) 0 l))]), (40, [.agg [.vs (cXs l)], .agg [.vs (cXs (woL (out ++ [(i : Int)]) 0 l))], .int .i64 (m : Nat)], .bool b)] (fun w hw => by
          rcases List.mem_cons.1 hw with rfl | hw
          · exact h67
          · obtain rfl := List.mem_singleton.1 hw; exact h40) (fun f => Nat.beq f 67 || Nat.beq f 40) rfl rfl rfl ?_)
        repeat (first | refine o_mov rfl ?_ | refine o_loadn rfl rfl rfl rfl ?_)
        refine o_call rfl rfl lookL_here (fun h => Bool.noConfusion (show false = true from h)) ?_
        repeat (first | refine o_mov rfl ?_)
        refine o_call rfl rfl (lookL_next (by decide) lookL_here) (fun h => Bool.noConfusion (show false = true from h)) ?_
        cases b with
        | true =>
          repeat (first | refine z_region rfl ?_ | refine o_nil ?_ | refine u_seq ?_ | refine u_blk ?_ | refine z_ct rfl ?_ | refine o_mov rfl ?_ | refine o_bin (op := .add) rfl rfl rfl ?_)
          rw [wrap_succ i (by omega)]
          exact u_round (show l.length - (i + 1) < l.length - i by omega) (sub_keep (.cons rfl (.cons rfl (.cons rfl (.cons rfl .nil))))) ⟨i + 1, rfl, hlt, by rw [hstep, if_pos rfl]⟩
        | false =>
          repeat (first | refine z_region rfl ?_ | refine o_nil ?_ | refine u_seq ?_ | refine u_blk ?_ | refine z_skip ?_ | refine z_cf rfl ?_ | refine o_mov rfl ?_ | refine o_bin (op := .add) rfl rfl rfl ?_)
          rw [wrap_succ i (by omega)]
          exact u_round (show l.length - (i + 1) < l.length - i by omega) (sub_keep (.cons rfl (.cons rfl (.cons rfl (.cons rfl .nil))))) ⟨i + 1, rfl, hlt, by rw [hstep, if_neg (by decide)]⟩
      repeat (first | refine o_nil ?_ | refine u_seq ?_ | refine z_seq ?_ | refine z_ct rfl ?_ | refine z_skip ?_ | refine z_block ?_ | refine z_region rfl ?_ | refine o_mov rfl ?_ | refine o_bslice rfl rfl ?_)
      cases out with
      | nil =>
        refine o_append rfl rfl rfl rfl ?_
        refine o_mov rfl (o_fsl [[.int .i64 (i : Nat)]] rfl rfl rfl rfl ?_)
        refine o_append rfl rfl rfl rfl ?_
        refine o_mov rfl (o_nil (u_seq ?_))
        refine z_renw [] [(1, 2, [.int .i64 (i : Nat)])] [(1, .int .i64 (m : Nat)), (2, .vptr [.vs (cXs l)]), (7, vsI []), (8, .int .i64 (i : Nat)), (9, vsI ([] ++ [(i : Int)]))] rfl (.cons rfl rfl .nil) .nil (.cons rfl (.same rfl) (.cons rfl (.same rfl) (.cons rfl (.same rfl) (.cons rfl (.same rfl) (.cons rfl (.fms (cs := [.int .i64 (i : Nat)]) (xs := [[.int .i64 (i : Nat)]]) rfl rfl (fun y hy => by obtain rfl := List.mem_singleton.1 hy; rfl) ⟨[], rfl⟩) .nil))))) ?_
        exact fin
      | cons a out =>
        have hpf : ((a :: out).map fun z => ([.int .i64 z] : List AV)).flatten = (a :: out).map (AV.int .i64) := (flat_ints _).symm
        have hpl : ((a :: out).map fun z => ([.int .i64 z] : List AV)).length = (a :: out).length := List.length_map ..
        refine o_append_new (((a :: out).map fun z => ([.int .i64 z] : List AV))) rfl rfl (elems_vs fun x hx => by obtain ⟨z, _, rfl⟩ := List.mem_map.1 hx; rfl) (by rw [hpl]; exact Nat.succ_ne_zero _) (by rw [hpf]; exact ints_cell _) (by decide) rfl (by omega) ?_
        rw [hpf, hpl]
        refine o_mov rfl (o_fsl [[.int .i64 (i : Nat)]] rfl rfl rfl rfl ?_)
        refine o_append_ms [[.int .i64 (i : Nat)]] rfl rfl rfl (fun h => Nat.noConfusion h) rfl (by decide) rfl (by rw [List.length_map, Nat.mul_one]) (by show _ + 1 ≤ _; omega) ?_
        refine o_mov rfl (o_nil (u_seq ?_))
        have hpx : (a :: out).map (AV.int .i64) ++ [.int .i64 (i : Nat)] = (a :: out ++ [(i : Int)]).map (AV.int .i64) := by rw [List.map_append]; rfl
        refine z_renw [] [(1, 3, (a :: out).map (AV.int .i64) ++ [.int .i64 (i : Nat)])] [(1, .int .i64 (m : Nat)), (2, .vptr [.vs (cXs l)]), (7, vsI (a :: out)), (8, .int .i64 (i : Nat)), (9, vsI (a :: out ++ [(i : Int)]))] rfl (.cons rfl (hasML_append (hasML_ints _) rfl) .nil) .nil (.cons rfl (.same rfl) (.cons rfl (.same rfl) (.cons rfl (.same rfl) (.cons rfl (.same rfl) (.cons rfl (.fms (cs := (a :: out).map (AV.int .i64) ++ [.int .i64 (i : Nat)]) (xs := (a :: out ++ [(i : Int)]).map fun z => [.int .i64 z]) rfl ?_ (fun y hy => by obtain ⟨z, _, rfl⟩ := List.mem_map.1 hy; rfl) ⟨[], ?_⟩) .nil))))) ?_
        · simp
        · rw [List.drop_zero, List.append_nil, hpx, flat_ints]
        exact fin
    · have hi2 : i = l.length := by
        have : ¬ ((i : Nat) : Int) < ((cXs l).length : Nat) := of_decide_eq_false h3
        rw [hcl] at this
        omega
      subst hi2
      repeat (first | refine o_nil ?_ | refine u_seq ?_ | refine z_cf rfl ?_ | refine z_exit ?_ | refine u_exit_seq ?_)
      refine u_out ?_
      repeat (first | refine z_seq ?_ | refine z_region rfl ?_ | refine o_nil ?_ | refine u_seq ?_ | refine z_ret ?_ | refine u_exit ?_ | refine o_mov rfl ?_)
      exact u_end ⟨.inr rfl, _, rfl, rfl⟩
  · rw [if_neg hg]
    repeat (first | refine z_seq ?_ | refine z_region rfl ?_ | refine o_nil ?_ | refine u_seq ?_ | refine o_mov rfl ?_)
    refine o_cmp rfl rfl rfl (fun h => ?_) fun h => absurd (by simpa using h) hg
    repeat (first | refine z_seq ?_ | refine z_region rfl ?_ | refine o_nil ?_ | refine u_seq ?_ | refine z_ct rfl ?_ | refine z_ret ?_ | refine u_ret_seq ?_ | refine o_mov rfl ?_)
    exact u_end ⟨.inr rfl, _, rfl, rfl⟩

end Go.Proofs.Ytofkihmckookjaa
