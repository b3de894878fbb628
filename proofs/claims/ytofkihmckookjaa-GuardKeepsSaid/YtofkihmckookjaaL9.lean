/-
  GuardKeeps: THE LAW'S OWN WALK.
-/
import Derived.Test.YtofkihmckookjaaK1
import Derived.Test.YtofkihmckookjaaL8
import Derived.Test.YtofkihmckookjaaBase
namespace Go.Proofs.Ytofkihmckookjaa
open Go Go.Am

def b9_0 : IC := .seq (.region [⟨(some 32), .bin .lss (.t 31) (.t 30), none⟩] none)
  (.seq (.cond (.t 32) (.skip)
  (.exit 0))
  (.seq (.block 1 (.seq (.region [⟨(some 33), .mov (.t 31), none⟩,
    ⟨(some 34), .idxs 3 (.t 29) (.t 31), none⟩,
    ⟨(some 35), .load (some 3) (.t 34), none⟩,
    ⟨(some 9), .alloc [.int .i64 0, .int .i64 0, .nils], none⟩,
    ⟨(some 8), .mov (.t 33), none⟩,
    ⟨none, .store 3 (.t 9) (.t 35), none⟩] none)
  (.seq (.region [⟨(some 36), .mov (.t 5), none⟩,
    ⟨(some 37), .mov (.t 8), none⟩,
    ⟨(some 38), .call (.c (.fn 39 [] [])) [(.t 36), (.t 37)], none⟩,
    ⟨(some 39), .un .not (.t 38), none⟩] none)
  (.cond (.t 39) (.region [⟨(some 40), .faddr 0 (.t 7), none⟩,
    ⟨(some 41), .load none (.t 40), none⟩,
    ⟨(some 42), .load (some 3) (.t 9), none⟩,
    ⟨(some 43), .bslice 3 1 [.int .i64 0, .int .i64 0, .nils] [(0, 3, (.t 42))], none⟩,
    ⟨(some 44), .append 3 40 [.int .i64 0, .int .i64 0, .nils] (.t 41) (.t 43), none⟩,
    ⟨(some 45), .faddr 0 (.t 7), none⟩,
    ⟨none, .store 1 (.t 45) (.t 44), none⟩] none)
  (.skip)))))
  (.region [⟨(some 46), .bin .add (.t 31) (.c (.int .i64 1)), none⟩,
    ⟨(some 31), .mov (.t 46), none⟩] none)))

-- pneumatic/pneumaticlaw49.GuardKeeps
def ic9 : IC := .seq (.region [⟨(some 2), .box (.t 0), none⟩,
    ⟨(some 4), .mov (.c (.bool false)), none⟩] none)
  (.seq (.seq (.region [⟨(some 15), .load (some 1) (.t 2), none⟩,
    ⟨(some 16), .mov (.t 1), none⟩,
    ⟨(some 17), .call (.c (.fn 31 [] [])) [(.t 15), (.t 16)], none⟩,
    ⟨(some 18), .un .not (.t 17), none⟩] none)
  (.cond (.t 18) (.seq (.region [⟨(some 19), .call (.c (.fn 13 [] [])) [], none⟩,
    ⟨(some 4), .mov (.t 19), none⟩] none)
  (.ret))
  (.skip)))
  (.seq (.region [⟨(some 21), .load (some 1) (.t 2), none⟩,
    ⟨(some 22), .mov (.t 1), none⟩,
    ⟨(some 23), .call (.c (.fn 36 [] [])) [(.t 21), (.t 22)], none⟩,
    ⟨(some 20), .mov (.t 23), none⟩,
    ⟨(some 24), .extract (.t 20) 0, none⟩,
    ⟨(some 25), .extract (.t 20) 1, none⟩,
    ⟨(some 5), .mov (.t 24), none⟩,
    ⟨(some 6), .mov (.t 25), none⟩] none)
  (.seq (.seq (.region [⟨(some 26), .mov (.t 6), none⟩,
    ⟨(some 27), .bin .neq (.t 26) (.c (.int .i64 0)), none⟩] none)
  (.cond (.t 27) (.seq (.region [⟨(some 4), .mov (.c (.bool false)), none⟩] none)
  (.ret))
  (.skip)))
  (.seq (.region [⟨(some 7), .alloc [.nils], none⟩] none)
  (.seq (.seq (.region [⟨(some 28), .faddr 0 (.t 2), none⟩,
    ⟨(some 29), .load none (.t 28), none⟩,
    ⟨(some 30), .len false (.t 29), none⟩,
    ⟨(some 31), .mov (.c (.int .i64 0)), none⟩] none)
  (.block 0 (.loop b9_0)))
  (.seq (.region [⟨(some 48), .load (some 1) (.t 7), none⟩,
    ⟨(some 49), .mov (.t 1), none⟩,
    ⟨(some 50), .call (.c (.fn 36 [] [])) [(.t 48), (.t 49)], none⟩,
    ⟨(some 47), .mov (.t 50), none⟩,
    ⟨(some 51), .extract (.t 47) 0, none⟩,
    ⟨(some 52), .extract (.t 47) 1, none⟩,
    ⟨(some 10), .mov (.t 51), none⟩,
    ⟨(some 6), .mov (.t 52), none⟩] none)
  (.seq (.region [⟨(some 54), .load (some 1) (.t 2), none⟩,
    ⟨(some 55), .mov (.t 1), none⟩,
    ⟨(some 56), .call (.c (.fn 34 [] [])) [(.t 54), (.t 55)], none⟩,
    ⟨(some 53), .mov (.t 56), none⟩,
    ⟨(some 57), .extract (.t 53) 0, none⟩,
    ⟨(some 58), .extract (.t 53) 1, none⟩,
    ⟨(some 11), .mov (.t 57), none⟩,
    ⟨(some 12), .mov (.t 58), none⟩] none)
  (.seq (.region [⟨(some 60), .load (some 1) (.t 7), none⟩,
    ⟨(some 61), .mov (.t 1), none⟩,
    ⟨(some 62), .call (.c (.fn 34 [] [])) [(.t 60), (.t 61)], none⟩,
    ⟨(some 59), .mov (.t 62), none⟩,
    ⟨(some 63), .extract (.t 59) 0, none⟩,
    ⟨(some 64), .extract (.t 59) 1, none⟩,
    ⟨(some 13), .mov (.t 63), none⟩,
    ⟨(some 14), .mov (.t 64), none⟩] none)
  (.seq (.region [⟨(some 65), .mov (.t 6), none⟩,
    ⟨(some 66), .mov (.t 12), none⟩,
    ⟨(some 67), .bin .add (.t 65) (.t 66), none⟩,
    ⟨(some 68), .mov (.t 14), none⟩,
    ⟨(some 69), .bin .add (.t 67) (.t 68), none⟩,
    ⟨(some 70), .bin .eql (.t 69) (.c (.int .i64 0)), none⟩,
    ⟨(some 71), .mov (.t 70), none⟩,
    ⟨(some 72), .faddr 0 (.t 7), some (71, true)⟩,
    ⟨(some 73), .load none (.t 72), some (71, true)⟩,
    ⟨(some 74), .len false (.t 73), some (71, true)⟩,
    ⟨(some 75), .mov (.t 5), some (71, true)⟩,
    ⟨(some 76), .len false (.t 75), some (71, true)⟩,
    ⟨(some 77), .bin .add (.t 74) (.t 76), some (71, true)⟩,
    ⟨(some 78), .faddr 0 (.t 2), some (71, true)⟩,
    ⟨(some 79), .load none (.t 78), some (71, true)⟩,
    ⟨(some 80), .len false (.t 79), some (71, true)⟩,
    ⟨(some 81), .bin .eql (.t 77) (.t 80), some (71, true)⟩,
    ⟨(some 82), .pick (.t 71) (.t 81) (.c (.bool false)), none⟩,
    ⟨(some 83), .mov (.t 82), none⟩,
    ⟨(some 84), .mov (.t 10), some (83, true)⟩,
    ⟨(some 85), .len false (.t 84), some (83, true)⟩,
    ⟨(some 86), .bin .eql (.t 85) (.c (.int .i64 0)), some (83, true)⟩,
    ⟨(some 87), .pick (.t 83) (.t 86) (.c (.bool false)), none⟩,
    ⟨(some 88), .mov (.t 87), none⟩,
    ⟨(some 89), .mov (.t 11), some (88, true)⟩,
    ⟨(some 90), .mov (.t 13), some (88, true)⟩,
    ⟨(some 91), .call (.c (.fn 38 [] [])) [(.t 89), (.t 90)], some (88, true)⟩,
    ⟨(some 92), .pick (.t 88) (.t 91) (.c (.bool false)), none⟩,
    ⟨(some 93), .mov (.t 92), none⟩,
    ⟨(some 94), .load (some 1) (.t 2), some (93, true)⟩,
    ⟨(some 95), .load (some 1) (.t 7), some (93, true)⟩,
    ⟨(some 96), .mov (.t 1), some (93, true)⟩,
    ⟨(some 97), .call (.c (.fn 40 [] [])) [(.t 94), (.t 95), (.t 96)], some (93, true)⟩,
    ⟨(some 98), .pick (.t 93) (.t 97) (.c (.bool false)), none⟩,
    ⟨(some 99), .mov (.t 98), none⟩,
    ⟨(some 100), .call (.c (.fn 13 [] [])) [], some (99, true)⟩,
    ⟨(some 101), .pick (.t 99) (.t 100) (.c (.bool false)), none⟩,
    ⟨(some 4), .mov (.t 101), none⟩] none)
  (.ret))))))))))
theorem fn9 : env0.fn 9 = some ⟨102, ic9, [.t 4]⟩ := by kernel_rfl


def rest9 : IC := .seq (.region [⟨(some 48), .load (some 1) (.t 7), none⟩,
    ⟨(some 49), .mov (.t 1), none⟩,
    ⟨(some 50), .call (.c (.fn 36 [] [])) [(.t 48), (.t 49)], none⟩,
    ⟨(some 47), .mov (.t 50), none⟩,
    ⟨(some 51), .extract (.t 47) 0, none⟩,
    ⟨(some 52), .extract (.t 47) 1, none⟩,
    ⟨(some 10), .mov (.t 51), none⟩,
    ⟨(some 6), .mov (.t 52), none⟩] none)
  (.seq (.region [⟨(some 54), .load (some 1) (.t 2), none⟩,
    ⟨(some 55), .mov (.t 1), none⟩,
    ⟨(some 56), .call (.c (.fn 34 [] [])) [(.t 54), (.t 55)], none⟩,
    ⟨(some 53), .mov (.t 56), none⟩,
    ⟨(some 57), .extract (.t 53) 0, none⟩,
    ⟨(some 58), .extract (.t 53) 1, none⟩,
    ⟨(some 11), .mov (.t 57), none⟩,
    ⟨(some 12), .mov (.t 58), none⟩] none)
  (.seq (.region [⟨(some 60), .load (some 1) (.t 7), none⟩,
    ⟨(some 61), .mov (.t 1), none⟩,
    ⟨(some 62), .call (.c (.fn 34 [] [])) [(.t 60), (.t 61)], none⟩,
    ⟨(some 59), .mov (.t 62), none⟩,
    ⟨(some 63), .extract (.t 59) 0, none⟩,
    ⟨(some 64), .extract (.t 59) 1, none⟩,
    ⟨(some 13), .mov (.t 63), none⟩,
    ⟨(some 14), .mov (.t 64), none⟩] none)
  (.seq (.region [⟨(some 65), .mov (.t 6), none⟩,
    ⟨(some 66), .mov (.t 12), none⟩,
    ⟨(some 67), .bin .add (.t 65) (.t 66), none⟩,
    ⟨(some 68), .mov (.t 14), none⟩,
    ⟨(some 69), .bin .add (.t 67) (.t 68), none⟩,
    ⟨(some 70), .bin .eql (.t 69) (.c (.int .i64 0)), none⟩,
    ⟨(some 71), .mov (.t 70), none⟩,
    ⟨(some 72), .faddr 0 (.t 7), some (71, true)⟩,
    ⟨(some 73), .load none (.t 72), some (71, true)⟩,
    ⟨(some 74), .len false (.t 73), some (71, true)⟩,
    ⟨(some 75), .mov (.t 5), some (71, true)⟩,
    ⟨(some 76), .len false (.t 75), some (71, true)⟩,
    ⟨(some 77), .bin .add (.t 74) (.t 76), some (71, true)⟩,
    ⟨(some 78), .faddr 0 (.t 2), some (71, true)⟩,
    ⟨(some 79), .load none (.t 78), some (71, true)⟩,
    ⟨(some 80), .len false (.t 79), some (71, true)⟩,
    ⟨(some 81), .bin .eql (.t 77) (.t 80), some (71, true)⟩,
    ⟨(some 82), .pick (.t 71) (.t 81) (.c (.bool false)), none⟩,
    ⟨(some 83), .mov (.t 82), none⟩,
    ⟨(some 84), .mov (.t 10), some (83, true)⟩,
    ⟨(some 85), .len false (.t 84), some (83, true)⟩,
    ⟨(some 86), .bin .eql (.t 85) (.c (.int .i64 0)), some (83, true)⟩,
    ⟨(some 87), .pick (.t 83) (.t 86) (.c (.bool false)), none⟩,
    ⟨(some 88), .mov (.t 87), none⟩,
    ⟨(some 89), .mov (.t 11), some (88, true)⟩,
    ⟨(some 90), .mov (.t 13), some (88, true)⟩,
    ⟨(some 91), .call (.c (.fn 38 [] [])) [(.t 89), (.t 90)], some (88, true)⟩,
    ⟨(some 92), .pick (.t 88) (.t 91) (.c (.bool false)), none⟩,
    ⟨(some 93), .mov (.t 92), none⟩,
    ⟨(some 94), .load (some 1) (.t 2), some (93, true)⟩,
    ⟨(some 95), .load (some 1) (.t 7), some (93, true)⟩,
    ⟨(some 96), .mov (.t 1), some (93, true)⟩,
    ⟨(some 97), .call (.c (.fn 40 [] [])) [(.t 94), (.t 95), (.t 96)], some (93, true)⟩,
    ⟨(some 98), .pick (.t 93) (.t 97) (.c (.bool false)), none⟩,
    ⟨(some 99), .mov (.t 98), none⟩,
    ⟨(some 100), .call (.c (.fn 13 [] [])) [], some (99, true)⟩,
    ⟨(some 101), .pick (.t 99) (.t 100) (.c (.bool false)), none⟩,
    ⟨(some 4), .mov (.t 101), none⟩] none)
  (.ret))))

section
variable {w0 : World} {N0 : Nat}

set_option maxHeartbeats 2000000 in
theorem main9 {l k : List Ex} (hsl : ∀ y ∈ l, Slim y) (hsk : ∀ y ∈ k, Slim y) {m : Nat} {out : List Int} (hg : guardC l m = 0) (hgk : guardC k m = 0) (h4 : m ≤ 4) (hk : k.length + out.length = l.length) (hal : alikeB (combs (List.replicate m [0, 1, 2])) l k = true) (hr : redF (combs (List.replicate m [0, 1, 2])) k k.length = []) :
    Zm Try.prog w0 N0 none rest9 (st 102 [(1, .int .i64 (m : Nat)), (2, .vptr [.vs (cXs l)]), (5, vsI out), (7, .vptr [.vs (cXs k)])] [] 0 1) [] fun e S' => (e = .normal ∨ e = .ret) ∧ ∃ v0, S'.leave.res [.t 4] = some v0 ∧ (⟨0, .nil, S'.leave.heap, S'.leave.next, S'.leave.clk, []⟩ : AS).view VD v0 = .bool true := by
  have h36 := redundant36 k hsk m fun _ => by omega
  have h34 := places34 l hsl m fun _ => by omega
  have h34k := places34 k hsk m fun _ => by omega
  have h40 := alike40 l k hg hgk h4
  obtain ⟨g1, g2, g3, g4⟩ := guardC_ok hg
  unfold redV at h36
  unfold placesV at h34 h34k
  rw [if_pos hgk, Int.toNat_natCast, hr] at h36
  rw [if_pos hg, Int.toNat_natCast] at h34
  rw [if_pos hgk, Int.toNat_natCast, ← allowed_alike hal] at h34k
  rw [hal] at h40
  have hA : (allowedL l m).length ≤ 6561 := Nat.le_trans (List.length_filter_le ..) (combs_len4 m h4 _ (by decide))
  have hR : ∀ x ∈ allowedL l m, x.length ≤ 100000 := fun x hx => by
    have := combs_row _ x (List.mem_filter.1 hx).1
    rw [List.length_replicate] at this
    omega
  have h38 := same38 (allowedL l m) (allowedL l m) (by omega) (by omega) hR hR
  rw [decide_eq_true rfl] at h38
  generalize allowedL l m = A at h34 h34k h38
  have hcl : (cXs l).length = l.length := cXs_length l
  have hck : (cXs k).length = k.length := cXs_length k
  have hco : (out.map fun z => ([.int .i64 z] : List AV)).length = out.length := List.length_map ..
  unfold rest9
  repeat (first | refine z_seq ?_ | refine z_region rfl ?_ | refine o_mov rfl ?_ | refine o_loadn rfl rfl rfl rfl ?_)
  refine o_call rfl rfl h36 (fun h => Bool.noConfusion (show false = true from h)) ?_
  repeat (first | refine z_seq ?_ | refine z_region rfl ?_ | refine o_nil ?_ | refine u_seq ?_ | refine o_mov rfl ?_ | refine o_loadn rfl rfl rfl rfl ?_ | refine o_extract rfl rfl ?_)
  refine o_call rfl rfl h34 (fun h => Bool.noConfusion (show false = true from h)) ?_
  repeat (first | refine z_seq ?_ | refine z_region rfl ?_ | refine o_nil ?_ | refine u_seq ?_ | refine o_mov rfl ?_ | refine o_loadn rfl rfl rfl rfl ?_ | refine o_extract rfl rfl ?_)
  refine o_call rfl rfl h34k (fun h => Bool.noConfusion (show false = true from h)) ?_
  repeat (first | refine z_seq ?_ | refine z_region rfl ?_ | refine o_nil ?_ | refine u_seq ?_ | refine o_gy rfl ?_ | refine o_mov rfl ?_ | refine o_load rfl rfl ?_ | refine o_faddrv rfl rfl rfl ?_ | refine o_len rfl rfl ?_ | refine o_extract rfl rfl ?_ | refine o_bin (op := .add) rfl rfl rfl ?_ | refine o_cmpt rfl rfl rfl ?_)
  refine o_cmp rfl rfl rfl (fun _ => ?_) fun h => ?_
  · repeat (first | refine o_gy rfl ?_ | refine o_mov rfl ?_ | refine o_pickt rfl rfl ?_ | refine o_len rfl rfl ?_ | refine o_cmpt rfl rfl rfl ?_)
    refine o_call rfl rfl h38 (fun h => Bool.noConfusion (show false = true from h)) ?_
    repeat (first | refine o_gy rfl ?_ | refine o_mov rfl ?_ | refine o_loadn rfl rfl rfl rfl ?_ | refine o_pickt rfl rfl ?_)
    refine o_call rfl rfl h40 (fun h => Bool.noConfusion (show false = true from h)) ?_
    repeat (first | refine o_gy rfl ?_ | refine o_mov rfl ?_ | refine o_pickt rfl rfl ?_)
    refine o_call rfl rfl awake13 (fun h => Bool.noConfusion (show false = true from h)) ?_
    repeat (first | refine o_nil ?_ | refine u_seq ?_ | refine z_ret ?_ | refine o_mov rfl ?_ | refine o_pickt rfl rfl ?_)
    exact u_end ⟨.inr rfl, _, rfl, rfl⟩
  · have h : ¬ IntKind.i64.wrap ((((cXs k).length : Nat) : Int) + ((out.map fun z => ([.int .i64 z] : List AV)).length : Nat)) = ((cXs l).length : Nat) := by simpa using h
    rw [hck, hco, hcl, wrap_in _ (by omega) (by omega)] at h
    omega

set_option maxHeartbeats 2000000 in
theorem law9 (l : List Ex) (hlen : l.length < 9223372036854775808) (hsl : ∀ y ∈ l, Slim y) (n : Int) : PF Try.prog 9 [.agg [.vs (cXs l)], .int .i64 n] (.bool true) := by
  have h31 := right31 l hlen hsl n
  have hcl : (cXs l).length = l.length := cXs_length l
  refine PF_of_Z env0_ok fn9 [(0, .agg [.vs (cXs l)]), (1, .int .i64 n)] (by show 2 ≤ 102; decide) rfl fun w0 N0 => ?_
  unfold ic9
  repeat (first | refine z_seq ?_ | refine z_region rfl ?_ | refine o_nil ?_ | refine u_seq ?_ | refine o_mov rfl ?_ | refine o_loadn rfl rfl rfl rfl ?_ | refine o_box rfl rfl ?_)
  refine o_call rfl rfl h31 (fun h => Bool.noConfusion (show false = true from h)) ?_
  cases hb : rightB l n with
  | false =>
    repeat (first | refine z_seq ?_ | refine z_region rfl ?_ | refine o_nil ?_ | refine u_seq ?_ | refine z_ct rfl ?_ | refine o_un rfl rfl ?_)
    refine o_call rfl rfl awake13 (fun h => Bool.noConfusion (show false = true from h)) ?_
    repeat (first | refine o_nil ?_ | refine u_seq ?_ | refine z_ret ?_ | refine u_ret_seq ?_ | refine o_mov rfl ?_)
    exact u_end ⟨.inr rfl, _, rfl, rfl⟩
  | true =>
    obtain ⟨r1, r2, r3, r4, hg⟩ := of_decide_eq_true hb
    obtain ⟨m, rfl⟩ : ∃ m : Nat, n = (m : Int) := ⟨n.toNat, by omega⟩
    have h36 := redundant36 l hsl m fun _ => by omega
    unfold redV at h36
    rw [if_pos hg, Int.toNat_natCast] at h36
    have hkl := kp_len (combs (List.replicate m [0, 1, 2])) l
    have hka := kp_alike (combs (List.replicate m [0, 1, 2])) l l.length
    have hkr := kp_red (combs (List.replicate m [0, 1, 2])) l _ (Nat.le_refl _)
    have hol := redF_len (combs (List.replicate m [0, 1, 2])) l l.length
    unfold kp at hkl hka hkr
    generalize redF (combs (List.replicate m [0, 1, 2])) l l.length = out at h36 hkl hka hkr hol
    have hgk : guardC (woL out 0 l) m = 0 := guardC_sub (woL_mem _ 0 l) (woL_len _ 0 l) hg
    have hsk : ∀ y ∈ woL out 0 l, Slim y := fun y hy => hsl y (woL_mem _ 0 l y hy)
    repeat (first | refine z_seq ?_ | refine z_region rfl ?_ | refine o_nil ?_ | refine u_seq ?_ | refine z_skip ?_ | refine z_cf rfl ?_ | refine o_mov rfl ?_ | refine o_loadn rfl rfl rfl rfl ?_ | refine o_un rfl rfl ?_)
    refine o_call rfl rfl h36 (fun h => Bool.noConfusion (show false = true from h)) ?_
    repeat (first | refine z_seq ?_ | refine z_region rfl ?_ | refine o_nil ?_ | refine u_seq ?_ | refine z_block ?_ | refine z_skip ?_ | refine z_cf rfl ?_ | refine o_mov rfl ?_ | refine o_load rfl rfl ?_ | refine o_faddrm rfl ?_ | refine o_alloc ?_ | refine o_len rfl rfl ?_ | refine o_extract rfl rfl ?_ | refine o_cmpf rfl rfl rfl ?_)
    refine z_loop (fun mm S => ∃ i, mm = l.length - i ∧ i ≤ l.length ∧
        S = st 102 [(1, .int .i64 (m : Nat)), (2, .vptr [.vs (cXs l)]), (5, vsI out), (7, .mptr 0 0 0), (29, .vs (cXs l)), (30, .int .i64 (cXs l).length), (31, .int .i64 (i : Nat))] [(0, 0, .cells [.ms 1 0 3 0 (woL out 0 (l.take i)).length none]), (1, 0, .cells (cXs (woL out 0 (l.take i))).flatten)] 2 1) l.length
      (sub_renw [(some (1, 1), [.ms 1 0 3 0 0 none]), (none, [])] [(0, 0, [.vs (cXs l)])] rfl rfl rfl (.cons rfl rfl .nil) (.cons rfl (.cons (.grow rfl) .nil) (.new .nil)) (l' := [(1, .int .i64 (m : Nat)), (2, .vptr [.vs (cXs l)]), (5, vsI out), (7, .mptr 0 0 0), (29, .vs (cXs l)), (30, .int .i64 (cXs l).length), (31, .int .i64 ((0 : Nat) : Int))]) (.cons rfl (.same rfl) (.cons rfl (.fptr rfl rfl) (.cons rfl (.same rfl) (.cons rfl (.mptr rfl) (.cons rfl (.same rfl) (.cons rfl (.same rfl) (.cons rfl (.same rfl) .nil)))))))) ⟨0, rfl, Nat.zero_le _, by rw [List.take_zero]; rfl⟩ ?_
    rintro mm S ⟨i, rfl, hi, rfl⟩
    unfold b9_0
    repeat (first | refine z_seq ?_ | refine z_region rfl ?_)
    refine o_cmp rfl rfl rfl (fun h3 => ?_) fun h3 => ?_
    · have hlt : i < l.length := by
        have : ((i : Nat) : Int) < ((cXs l).length : Nat) := of_decide_eq_true h3
        rw [hcl] at this
        omega
      have hge := cXs_get hlt
      have htk := woL_take out 0 l i hlt
      rw [Nat.zero_add] at htk
      have hwl := woL_len out 0 (l.take i)
      rw [List.length_take] at hwl
      have hwF : (cXs (woL out 0 (l.take i))).flatten.length = (woL out 0 (l.take i)).length * 3 := by rw [flat_length (cXs_size _), cXs_length]
      have h39 := contains39 out (by omega) (i : Int)
      generalize l[i] = y at htk hge
      generalize woL out 0 (l.take i) = W at *
      obtain ⟨yo, yi, ya⟩ := y
      have hsn := cXs_snoc W (.nd yo yi ya)
      repeat (first | refine z_seq ?_ | refine z_region rfl ?_ | refine o_nil ?_ | refine u_seq ?_ | refine z_block ?_ | refine z_skip ?_ | refine z_ct rfl ?_ | refine o_mov rfl ?_ | refine o_loadn rfl rfl rfl rfl ?_ | refine o_store rfl rfl rfl rfl rfl rfl rfl ?_ | refine o_alloc ?_ | refine o_idxs rfl rfl (by omega) (by assumption) rfl ?_)
      refine o_call rfl rfl h39 (fun h => Bool.noConfusion (show false = true from h)) ?_
      cases hb : out.any (· == (i : Int)) with
      | true =>
        rw [hb, if_pos rfl, List.append_nil] at htk
        repeat (first | refine z_region rfl ?_ | refine o_nil ?_ | refine u_seq ?_ | refine u_blk ?_ | refine z_skip ?_ | refine z_cf rfl ?_ | refine o_mov rfl ?_ | refine o_un rfl rfl ?_ | refine o_bin (op := .add) rfl rfl rfl ?_)
        rw [wrap_succ i (by omega)]
        exact u_round (show l.length - (i + 1) < l.length - i by omega) (sub_renw [(some (0, 0), [.ms 1 0 3 0 W.length none]), (some (1, 0), (cXs W).flatten)] [] rfl rfl rfl .nil (.cons rfl (.cons (.ms rfl) .nil) (.cons rfl (.keep (cXs_hasM _)) .nil)) (.cons rfl (.same rfl) (.cons rfl (.same rfl) (.cons rfl (.same rfl) (.cons rfl (.mptr rfl) (.cons rfl (.same rfl) (.cons rfl (.same rfl) (.cons rfl (.same rfl) .nil)))))))) ⟨i + 1, rfl, hlt, by rw [htk]; rfl⟩
      | false =>
        rw [hb, if_neg (by decide)] at htk
        repeat (first | refine z_region rfl ?_ | refine o_nil ?_ | refine u_seq ?_ | refine z_ct rfl ?_ | refine o_load rfl rfl ?_ | refine o_loadn rfl rfl rfl rfl ?_ | refine o_faddrm rfl ?_ | refine o_un rfl rfl ?_ | refine o_bslice rfl rfl ?_)
        refine o_append_ms [cX (.nd yo yi ya)] rfl rfl rfl (fun h => Nat.noConfusion h) rfl (by decide) rfl (by rw [hwF]) (by show _ + 1 ≤ _; omega) ?_
        repeat (first | refine z_region rfl ?_ | refine o_nil ?_ | refine u_seq ?_ | refine u_blk ?_ | refine o_mov rfl ?_ | refine o_store rfl rfl rfl rfl rfl rfl rfl ?_ | refine o_faddrm rfl ?_ | refine o_bin (op := .add) rfl rfl rfl ?_)
        rw [wrap_succ i (by omega)]
        refine u_round (show l.length - (i + 1) < l.length - i by omega) (sub_renw [(some (0, 0), [.ms 1 0 3 0 (W ++ [Ex.nd yo yi ya]).length none]), (some (1, 3), (cXs (W ++ [Ex.nd yo yi ya])).flatten)] [] rfl rfl rfl .nil (.cons rfl (.cons ?_ .nil) (.cons (by rw [hsn]; rfl) (.keep (cXs_hasM _)) .nil)) (.cons rfl (.same rfl) (.cons rfl (.same rfl) (.cons rfl (.same rfl) (.cons rfl (.mptr rfl) (.cons rfl (.same rfl) (.cons rfl (.same rfl) (.cons rfl (.same rfl) .nil)))))))) ⟨i + 1, rfl, hlt, by rw [htk]; rfl⟩
        rw [List.length_append]
        exact .ms rfl
    · have hi2 : i = l.length := by
        have : ¬ ((i : Nat) : Int) < ((cXs l).length : Nat) := of_decide_eq_false h3
        rw [hcl] at this
        omega
      subst hi2
      rw [List.take_length]
      repeat (first | refine z_seq ?_ | refine o_nil ?_ | refine u_seq ?_ | refine z_cf rfl ?_ | refine z_exit ?_ | refine u_exit_seq ?_)
      refine u_out ?_
      refine u_exit (u_seq ?_)
      refine z_renw [(some (0, 0), [.vs (cXs (woL out 0 l))])] [(1, 0, (cXs (woL out 0 l)).flatten)] [(1, .int .i64 (m : Nat)), (2, .vptr [.vs (cXs l)]), (5, vsI out), (7, .mptr 0 0 0)] rfl (.cons rfl (cXs_hasM _) .nil) (.cons rfl (.cons (.fms rfl (cXs_length _) (cXs_size _) ⟨[], by rw [List.append_nil]; rfl⟩) .nil) .nil) (.cons rfl (.same rfl) (.cons rfl (.same rfl) (.cons rfl (.same rfl) (.cons rfl (.mptr rfl) .nil)))) ?_
      exact z_renw [] [(0, 0, [.vs (cXs (woL out 0 l))])] [(1, .int .i64 (m : Nat)), (2, .vptr [.vs (cXs l)]), (5, vsI out), (7, .vptr [.vs (cXs (woL out 0 l))])] rfl (.cons rfl rfl .nil) .nil (.cons rfl (.same rfl) (.cons rfl (.same rfl) (.cons rfl (.same rfl) (.cons rfl (.fptr rfl rfl) .nil)))) (main9 hsl hsk hg hgk (by omega) hkl hka hkr)
end
end Go.Proofs.Ytofkihmckookjaa
