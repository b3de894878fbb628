/-
  THE VARIABLES THAT OCCUR, AS THE REFERENCE LISTS THEM.; RANGING OVER THE NODES OF A TREE, WHEN A STEP MAY ONLY BE TAKEN SO OFTEN.; THE LIBRARY's CONTRACTS of slices.Sort and slices.Compact, laid at this program; the same as told calls.; THE VARIABLES THAT OCCUR, AS THE PROGRAM COLLECTS THEM.; THE VARIABLES: both lists are one; what does not occur does not matter.; Check, Size and Variables answer 
-/
import Derived.Test.YtmnkjofaodbokaaDX3
import Derived.Shelf.Sort.Plain
import Derived.Shelf.Slices.CompactI
import Derived.Test.YtmnkjofaodbokaaRows
import Derived.JoinedCond
namespace Go.Proofs.Ytmnkjofaodbokaa
open Go Go.Am
def b94_0 : IC := .seq (.seq (.region [⟨(some 13), .mov (.t 5), none⟩,
  ⟨(some 14), .faddr 2 (.t 2), none⟩,
  ⟨(some 15), .load none (.t 14), none⟩,
  ⟨(some 16), .len false (.t 15), none⟩,
  ⟨(some 17), .bin .lss (.t 13) (.t 16), none⟩] none)
 (.cond (.t 17) (.skip)
 (.exit 0)))
 (.seq (.block 1 (.seq (.region [⟨(some 20), .faddr 2 (.t 2), none⟩,
  ⟨(some 21), .load none (.t 20), none⟩,
  ⟨(some 22), .mov (.t 5), none⟩,
  ⟨(some 23), .idxs 3 (.t 21) (.t 22), none⟩,
  ⟨(some 24), .load (some 3) (.t 23), none⟩,
  ⟨(some 25), .mov (.t 1), none⟩,
  ⟨(some 26), .call (.c (.fn 94 [] [])) [(.t 24), (.t 25)], none⟩] none)
 (.cond (.t 26) (.seq (.region [⟨(some 4), .mov (.c (.bool true)), none⟩] none)
 (.ret))
 (.skip))))
 (.region [⟨(some 18), .mov (.t 5), none⟩,
  ⟨(some 19), .bin .add (.t 18) (.c (.int .i64 1)), none⟩,
  ⟨(some 5), .mov (.t 19), none⟩] none))
-- pneumatic/pneumaticref05.Occurs
def ic94 : IC := .seq (.region [⟨(some 2), .box (.t 0), none⟩,
  ⟨(some 4), .mov (.c (.bool false)), none⟩] none)
 (.seq (.seq (.region [⟨(some 6), .faddr 0 (.t 2), none⟩,
  ⟨(some 7), .load none (.t 6), none⟩,
  ⟨(some 8), .bin .eql (.t 7) (.c (.int .i64 1)), none⟩] none)
 (.cond (.t 8) (.seq (.region [⟨(some 9), .faddr 1 (.t 2), none⟩,
  ⟨(some 10), .load none (.t 9), none⟩,
  ⟨(some 11), .mov (.t 1), none⟩,
  ⟨(some 12), .bin .eql (.t 10) (.t 11), none⟩,
  ⟨(some 4), .mov (.t 12), none⟩] none)
 (.ret))
 (.skip)))
 (.seq (.seq (.region [⟨(some 5), .mov (.c (.int .i64 0)), none⟩] none)
 (.block 0 (.loop b94_0)))
 (.seq (.region [⟨(some 4), .mov (.c (.bool false)), none⟩] none)
 (.ret))))
theorem fn94 : env0.fn 94 = some ⟨27, ic94, [.t 4]⟩ := by kernel_rfl
def b69_0 : IC := .seq (.seq (.region [⟨(some 7), .mov (.t 6), none⟩,
  ⟨(some 8), .mov (.t 1), none⟩,
  ⟨(some 9), .bin .lss (.t 7) (.t 8), none⟩] none)
 (.cond (.t 9) (.skip)
 (.exit 0)))
 (.seq (.block 1 (.seq (.region [⟨(some 12), .load (some 3) (.t 2), none⟩,
  ⟨(some 13), .mov (.t 6), none⟩,
  ⟨(some 14), .call (.c (.fn 94 [] [])) [(.t 12), (.t 13)], none⟩] none)
 (.cond (.t 14) (.region [⟨(some 15), .mov (.t 5), none⟩,
  ⟨(some 16), .mov (.t 6), none⟩,
  ⟨(some 17), .bslice 1 1 [.int .i64 0] [(0, 1, (.t 16))], none⟩,
  ⟨(some 18), .append 1 8 [.int .i64 0] (.t 15) (.t 17), none⟩,
  ⟨(some 5), .mov (.t 18), none⟩] none)
 (.skip))))
 (.region [⟨(some 10), .mov (.t 6), none⟩,
  ⟨(some 11), .bin .add (.t 10) (.c (.int .i64 1)), none⟩,
  ⟨(some 6), .mov (.t 11), none⟩] none))
-- pneumatic/pneumaticref05.Used
def ic69 : IC := .seq (.region [⟨(some 2), .box (.t 0), none⟩,
  ⟨(some 4), .mov (.c (.nils)), none⟩] none)
 (.seq (.region [⟨(some 5), .mov (.c (.nils)), none⟩] none)
 (.seq (.seq (.region [⟨(some 6), .mov (.c (.int .i64 0)), none⟩] none)
 (.block 0 (.loop b69_0)))
 (.seq (.region [⟨(some 19), .mov (.t 5), none⟩,
  ⟨(some 4), .mov (.t 19), none⟩] none)
 (.ret))))
theorem fn69 : env0.fn 69 = some ⟨20, ic69, [.t 4]⟩ := by kernel_rfl
-- pneumatic/pneumaticref05.Variables
def ic31 : IC := .seq (.region [⟨(some 2), .box (.t 0), none⟩,
  ⟨(some 4), .mov (.c (.nils)), none⟩,
  ⟨(some 5), .mov (.c (.int .i64 0)), none⟩] none)
 (.seq (.seq (.region [⟨(some 7), .load (some 3) (.t 2), none⟩,
  ⟨(some 8), .mov (.t 1), none⟩,
  ⟨(some 9), .call (.c (.fn 33 [] [])) [(.t 7), (.t 8)], none⟩,
  ⟨(some 6), .mov (.t 9), none⟩] none)
 (.seq (.region [⟨(some 10), .mov (.t 6), none⟩,
  ⟨(some 11), .bin .neq (.t 10) (.c (.int .i64 0)), none⟩] none)
 (.cond (.t 11) (.seq (.region [⟨(some 12), .mov (.t 6), none⟩,
  ⟨(some 4), .mov (.c (.nils)), none⟩,
  ⟨(some 5), .mov (.t 12), none⟩] none)
 (.ret))
 (.skip))))
 (.seq (.region [⟨(some 13), .load (some 3) (.t 2), none⟩,
  ⟨(some 14), .mov (.t 1), none⟩,
  ⟨(some 15), .call (.c (.fn 69 [] [])) [(.t 13), (.t 14)], none⟩,
  ⟨(some 4), .mov (.t 15), none⟩,
  ⟨(some 5), .mov (.c (.int .i64 0)), none⟩] none)
 (.ret)))
theorem fn31 : env0.fn 31 = some ⟨16, ic31, [.t 4, .t 5]⟩ := by kernel_rfl
mutual
def zin (v : Int) : Ex → Bool
 | .nd op ix args => if op = 1 then decide (ix = v) else zop v args
def zop (v : Int) : List Ex → Bool
 | [] => false
 | y :: ys => zin v y || zop v ys
end
theorem zst (v : Int) {args : List Ex} {i : Nat} (h : i < args.length) : zop v (args.drop i) = (zin v args[i] || zop v (args.drop (i + 1))) := by
 rw [List.drop_eq_getElem_cons h, zop]
set_option maxHeartbeats 2000000 in
theorem occurs94 (v : Int) : ∀ (q : Nat) (x : Ex), SizeOf.sizeOf x ≤ q → Slim x → PF Try.prog 94 [.agg (cX x), .int .i64 v] (.bool (zin v x)) := by
 intro q
 induction q with
 | zero => intro x hq; cases x; simp at hq
 | succ q ih =>
  intro x hq hs
  obtain ⟨op, ix, args⟩ := x
  obtain ⟨hlen, hsl⟩ := zie hs
  refine zav env0_ok fn94 [(0, .agg (cX (.nd op ix args))), (1, .int .i64 v)] (by show 2 ≤ 27; decide) rfl fun w0 N0 => ?_
  unfold ic94
  rw [zin]
  refine za6 (za0 rfl (zc5 rfl rfl (za3 rfl (za4 (za5 ?_)))))
  refine zd3 [] [(0, 0, cX (.nd op ix args))] [(1, .int .i64 v), (2, .vptr (cX (.nd op ix args)))] rfl (.cons rfl rfl .nil) .nil (.cons rfl (.same rfl) (.cons rfl (.fptr rfl rfl) .nil)) ?_
  repeat (first | refine za6 ?_ | refine za0 rfl ?_ | refine zah rfl rfl ?_ | refine ze4 rfl rfl rfl ?_)
  refine zan rfl rfl rfl (fun h1 => ?_) fun h1 => ?_
  ·rw [if_pos (by simpa using h1)]
   repeat (first | refine za6 ?_ | refine za0 rfl ?_ | refine za4 ?_ | refine za5 ?_ | refine zbf rfl ?_ | refine za3 rfl ?_ | refine zah rfl rfl ?_ | refine ze4 rfl rfl rfl ?_)
   refine zan rfl rfl rfl (fun h2 => ?_) fun h2 => ?_
   ·repeat (first | refine za4 ?_ | refine za5 ?_ | refine zad ?_ | refine za7 ?_ | refine za3 rfl ?_)
    exact zaa ⟨.inr rfl, _, rfl, by rw [decide_eq_true (by simpa using h2)]; rfl⟩
   ·repeat (first | refine za4 ?_ | refine za5 ?_ | refine zad ?_ | refine za7 ?_ | refine za3 rfl ?_)
    exact zaa ⟨.inr rfl, _, rfl, by rw [decide_eq_false (by simpa using h2)]; rfl⟩
  ·rw [if_neg (by simpa using h1)]
   repeat (first | refine za6 ?_ | refine za0 rfl ?_ | refine za4 ?_ | refine za5 ?_ | refine zam ?_ | refine zae ?_ | refine zbp rfl ?_ | refine za3 rfl ?_)
   refine zeb (fun mm S => ∃ i, mm = args.length - i ∧ i ≤ args.length ∧ zop v args = zop v (args.drop i) ∧
     S = st 27 [(1, .int .i64 v), (2, .vptr (cX (.nd op ix args))), (5, .int .i64 (i : Nat))] [] 0 1) args.length
    (zau (.cons rfl (.cons rfl (.cons rfl .nil)))) ⟨0, rfl, Nat.zero_le _, rfl, rfl⟩ ?_
   rintro mm S ⟨i, rfl, hi, hall, rfl⟩
   unfold b94_0
   repeat (first | refine za6 ?_ | refine za0 rfl ?_ | refine za3 rfl ?_ | refine zah rfl rfl ?_ | refine ze4 rfl rfl rfl ?_ | refine zc8 rfl rfl ?_)
   refine zan rfl rfl rfl (fun h3 => ?_) fun h3 => ?_
   ·have hlt : i < args.length := by
     have := of_decide_eq_true h3
     rw [zaq] at this
     omega
    rw [zst v hlt] at hall
    have hge := zdy hlt
    have hmem : args[i] ∈ args := List.getElem_mem hlt
    have py := ih args[i] (by have := zih (op := op) (ix := ix) hmem; omega) (hsl _ hmem)
    generalize args[i] = y at *
    generalize zin v y = oy at *
    obtain ⟨yo, yi, ya⟩ := y
    repeat (first | refine za6 ?_ | refine za0 rfl ?_ | refine za4 ?_ | refine za5 ?_ | refine zam ?_ | refine zae ?_ | refine zbf rfl ?_ | refine za3 rfl ?_ | refine zah rfl rfl ?_ | refine zaj rfl rfl rfl rfl ?_ | refine ze4 rfl rfl rfl ?_ | refine zea rfl rfl (by omega) (by assumption) rfl ?_)
    refine zai rfl rfl py (fun h => Bool.noConfusion (show false = true from h)) ?_
    cases oy with
    | true =>
     repeat (first | refine za6 ?_ | refine za0 rfl ?_ | refine za4 ?_ | refine za5 ?_ | refine zbf rfl ?_ | refine zad ?_ | refine za7 ?_ | refine zar ?_ | refine za3 rfl ?_)
     exact zaa ⟨.inr rfl, _, rfl, by rw [hall]; rfl⟩
    | false =>
     rw [Bool.false_or] at hall
     repeat (first | refine za0 rfl ?_ | refine za4 ?_ | refine za5 ?_ | refine zcb ?_ | refine zae ?_ | refine zbp rfl ?_ | refine za3 rfl ?_ | refine zd5 (op := .add) rfl rfl rfl ?_)
     rw [zbc i (by omega)]
     exact zcg (show args.length - (i + 1) < args.length - i by omega) (zau (.cons rfl (.cons rfl (.cons rfl .nil)))) ⟨i + 1, rfl, hlt, hall, rfl⟩
   ·have hi2 : i = args.length := by
     have := of_decide_eq_false h3
     rw [zaq] at this
     omega
    rw [hi2, List.drop_length, zop] at hall
    repeat (first | refine za4 ?_ | refine za5 ?_ | refine zbp rfl ?_ | refine zdw ?_ | refine zb9 ?_)
    refine zgj ?_
    repeat (first | refine za6 ?_ | refine za0 rfl ?_ | refine za4 ?_ | refine za5 ?_ | refine zad ?_ | refine zdv ?_ | refine za3 rfl ?_)
    exact zaa ⟨.inr rfl, _, rfl, by rw [hall]; rfl⟩
def zjf (x : Ex) (n : Nat) : List Int := ((List.range n).filter fun v => zin (v : Nat) x).map fun v => ((v : Nat) : Int)
theorem ztp (x : Ex) (n : Nat) : zjf x (n + 1) = if zin (n : Nat) x = true then zjf x n ++ [((n : Nat) : Int)] else zjf x n := by
 unfold zjf
 rw [List.range_succ, List.filter_append, List.map_append]
 by_cases h : zin (n : Nat) x = true
 ·rw [if_pos h, List.filter_cons_of_pos (p := fun v : Nat => zin (v : Int) x) h]; rfl
 ·rw [if_neg h, List.filter_cons_of_neg (p := fun v : Nat => zin (v : Int) x) h, List.filter_nil, List.map_nil, List.append_nil]
theorem zks (x : Ex) (n : Nat) : (zjf x n).length ≤ n := by
 unfold zjf
 rw [List.length_map]
 have := List.length_filter_le (fun v => zin (v : Nat) x) (List.range n)
 rw [List.length_range] at this
 exact this
theorem used69 (x : Ex) (hs : Slim x) (n : Nat) (hn : n ≤ 256) : PF Try.prog 69 [.agg (cX x), .int .i64 (n : Nat)] (vsI (zjf x n)) := by
 have p94 := fun v => occurs94 v _ x (Nat.le_refl _) hs
 have hu := fun i => ztp x i
 have hul := zks x
 generalize zjf x = us at *
 have h0 : us 0 = [] := List.length_eq_zero_iff.1 (by have := hul 0; omega)
 generalize (fun v => zin v x) = oc at *
 obtain ⟨op, ix, args⟩ := x
 refine zav env0_ok fn69 [(0, .agg (cX (.nd op ix args))), (1, .int .i64 (n : Nat))] (by show 2 ≤ 20; decide) rfl fun w0 N0 => ?_
 unfold ic69
 refine za6 (za0 rfl (zc5 rfl rfl (za3 rfl (za4 (za5 ?_)))))
 refine zd3 [] [(0, 0, cX (.nd op ix args))] [(1, .int .i64 (n : Nat)), (2, .vptr (cX (.nd op ix args)))] rfl (.cons rfl rfl .nil) .nil (.cons rfl (.same rfl) (.cons rfl (.fptr rfl rfl) .nil)) ?_
 repeat (first | refine za6 ?_ | refine za0 rfl ?_ | refine za4 ?_ | refine za5 ?_ | refine zam ?_ | refine za3 rfl ?_)
 refine zeb (fun mm S => ∃ i w hp nx ck, mm = n - i ∧ i ≤ n ∧ Gv 0 (us i) w hp nx ∧
   S = st 20 [(1, .int .i64 (n : Nat)), (2, .vptr (cX (.nd op ix args))), (5, w), (6, .int .i64 (i : Nat))] hp nx ck) n
  (zau (.cons rfl (.cons rfl (.cons rfl (.cons rfl .nil))))) ⟨0, .nils, _, _, _, rfl, Nat.zero_le _, .inl ⟨h0, rfl⟩, rfl⟩ ?_
 rintro mm S ⟨i, w, hp, nx, ck, rfl, hi, hG, rfl⟩
 unfold b69_0
 repeat (first | refine za6 ?_ | refine za0 rfl ?_ | refine za3 rfl ?_)
 refine zan rfl rfl rfl (fun h3 => ?_) fun h3 => ?_
 ·have hlt : i < n := Int.ofNat_lt.1 (of_decide_eq_true h3)
  have p1 := p94 (i : Nat)
  have hui := hu i
  have hli := hul i
  generalize zin (i : Nat) (.nd op ix args) = b at *
  repeat (first | refine za6 ?_ | refine za0 rfl ?_ | refine za4 ?_ | refine za5 ?_ | refine zam ?_ | refine zae ?_ | refine zbf rfl ?_ | refine za3 rfl ?_ | refine zaj rfl rfl rfl rfl ?_)
  refine zai rfl rfl p1 (fun h => Bool.noConfusion (show false = true from h)) ?_
  cases b with
  | true =>
   rw [if_pos rfl] at hui
   repeat (first | refine za0 rfl ?_ | refine za4 ?_ | refine za5 ?_ | refine zbf rfl ?_ | refine za3 rfl ?_ | refine zfp rfl rfl ?_)
   refine o_gapp (hG.fresh ck _) (Nat.succ_pos nx) (by omega) rfl rfl zat (by decide) fun w' hp' nx' ck' g1 g2 g3 => ?_
   repeat (first | refine za0 rfl ?_ | refine za4 ?_ | refine za5 ?_ | refine zcb ?_ | refine za3 rfl ?_ | refine zd5 (op := .add) rfl rfl rfl ?_)
   rw [zbc i (by omega)]
   exact zcg (show n - (i + 1) < n - i by omega) (zau (.cons rfl (.cons rfl (.cons rfl (.cons rfl .nil))))) ⟨i + 1, w', hp', nx', ck', rfl, hlt, by rw [hui]; exact g1, rfl⟩
  | false =>
   rw [if_neg Bool.false_ne_true] at hui
   repeat (first | refine za0 rfl ?_ | refine za4 ?_ | refine za5 ?_ | refine zcb ?_ | refine zae ?_ | refine zbp rfl ?_ | refine za3 rfl ?_ | refine zd5 (op := .add) rfl rfl rfl ?_)
   rw [zbc i (by omega)]
   exact zcg (show n - (i + 1) < n - i by omega) (zau (.cons rfl (.cons rfl (.cons rfl (.cons rfl .nil))))) ⟨i + 1, w, hp, nx, ck, rfl, hlt, by rw [hui]; exact hG, rfl⟩
 ·have hi2 : i = n := by
   have : ¬ i < n := fun h => of_decide_eq_false h3 (Int.ofNat_lt.2 h)
   omega
  subst hi2
  repeat (first | refine za4 ?_ | refine za5 ?_ | refine zbp rfl ?_ | refine zdw ?_ | refine zb9 ?_)
  refine zgj ?_
  repeat (first | refine za6 ?_ | refine za0 rfl ?_ | refine za4 ?_ | refine za5 ?_ | refine zad ?_ | refine zdv ?_ | refine za3 rfl ?_)
  exact zaa ⟨.inr rfl, _, rfl, hG.view⟩
def znk (x : Ex) (n : Int) : AV := if zbi x n = 0 then .tup [vsI (zjf x n.toNat), .int .i64 0] else .tup [.vs [], .int .i64 (zbi x n)]
theorem znj (x : Ex) (hs : Slim x) (n : Int) : PF Try.prog 31 [.agg (cX x), .int .i64 n] (znk x n) := by
 have p33 := zmm x hs n
 unfold znk
 have p69 : zbi x n = 0 → PF Try.prog 69 [.agg (cX x), .int .i64 n] (vsI (zjf x n.toNat)) := fun h => by
  have hn : 0 ≤ n ∧ n ≤ 256 := by
   unfold zbi at h
   split at h <;> omega
  obtain ⟨m, rfl⟩ := Int.eq_ofNat_of_zero_le hn.1
  exact used69 x hs m (by omega)
 generalize zjf x n.toNat = u at *
 generalize zbi x n = e at *
 obtain ⟨op, ix, args⟩ := x
 refine zav env0_ok fn31 [(0, .agg (cX (.nd op ix args))), (1, .int .i64 n)] (by show 2 ≤ 16; decide) rfl fun w0 N0 => ?_
 unfold ic31
 refine za6 (za0 rfl (zc5 rfl rfl (za3 rfl (za3 rfl (za4 (za5 ?_))))))
 refine zd3 [] [(0, 0, cX (.nd op ix args))] [(1, .int .i64 n), (2, .vptr (cX (.nd op ix args)))] rfl (.cons rfl rfl .nil) .nil (.cons rfl (.same rfl) (.cons rfl (.fptr rfl rfl) .nil)) ?_
 repeat (first | refine za6 ?_ | refine za0 rfl ?_ | refine za3 rfl ?_ | refine zaj rfl rfl rfl rfl ?_)
 refine zai rfl rfl p33 (fun h => Bool.noConfusion (show false = true from h)) ?_
 repeat (first | refine za6 ?_ | refine za0 rfl ?_ | refine za4 ?_ | refine za5 ?_ | refine za3 rfl ?_)
 refine zan rfl rfl rfl (fun h => ?_) fun h => ?_
 ·rw [if_neg (by simpa using h)]
  repeat (first | refine za6 ?_ | refine za0 rfl ?_ | refine za4 ?_ | refine za5 ?_ | refine zbf rfl ?_ | refine zad ?_ | refine za7 ?_ | refine za3 rfl ?_)
  exact zaa ⟨.inr rfl, _, rfl, rfl⟩
 ·have h : e = 0 := by simpa using h
  rw [if_pos h]
  repeat (first | refine za6 ?_ | refine za0 rfl ?_ | refine za4 ?_ | refine za5 ?_ | refine zae ?_ | refine zbp rfl ?_ | refine za3 rfl ?_ | refine zaj rfl rfl rfl rfl ?_)
  refine zai rfl rfl (p69 h) (fun h => Bool.noConfusion (show false = true from h)) ?_
  repeat (first | refine za4 ?_ | refine za5 ?_ | refine zad ?_ | refine za3 rfl ?_)
  exact zaa ⟨.inr rfl, _, rfl, rfl⟩
end Go.Proofs.Ytmnkjofaodbokaa
namespace Go.Proofs.Ytmnkjofaodbokaa
open Go Go.Am
section
variable {σ τ : Type} {step : σ → Int → Ex → σ ⊕ τ} {M : Nat → Prop} {I : σ → HS → Prop} {J : τ → HS → Prop}
mutual
theorem ztv {m : σ → Int} (hm : ∀ s d x s1, step s d x = .inl s1 → m s1 ≤ m s + 1) : ∀ (x : Ex) (d : Int) (s s1 : σ), zch step d x s = .inl s1 → m s1 ≤ m s + szX x
 | .nd op ix args => fun d s s1 h => by
  rw [zch] at h
  rw [szX]
  cases hst : step s d (.nd op ix args) with
  | inr t => rw [hst] at h; cases h
  | inl s2 =>
   rw [hst] at h
   have h1 := hm s d _ s2 hst
   have h2 := znm hm args d s2 s1 h
   omega
theorem znm {m : σ → Int} (hm : ∀ s d x s1, step s d x = .inl s1 → m s1 ≤ m s + 1) : ∀ (l : List Ex) (d : Int) (s s1 : σ), zcc step d l s = .inl s1 → m s1 ≤ m s + szL l
 | [] => fun d s s1 h => by
  rw [zcc] at h
  injection h with h
  subst h
  rw [szL]; omega
 | y :: ys => fun d s s1 h => by
  have hp := zdd y
  rw [zcc] at h
  rw [szL]
  by_cases hd : d ≤ 16
  ·rw [if_pos hd] at h
   cases hw : zch step (d + 1) y s with
   | inr t => rw [hw] at h; cases h
   | inl s2 =>
    rw [hw] at h
    have h1 := ztv hm y (d + 1) s s2 hw
    have h2 := znm hm ys d s2 s1 h
    omega
  ·rw [if_neg hd] at h
   have h2 := znm hm ys d s s1 h
   omega
end
set_option maxHeartbeats 4000000 in
theorem visitB {w0 : World} {N0 a sa b sb id sp : Nat} (hloc : Local M I) {B : Int} {m : σ → Int} (hm : ∀ s d x s1, step s d x = .inl s1 → m s1 ≤ m s + 1) (hy : ∀ s d x H, m s + 1 ≤ B → I s H → CT Try.prog w0 N0 (.yield id sp) [.int .i64 d, .agg (cX x)] H (zpb M I J H (step s d x))) :
  ∀ (n : Nat) (x : Ex) (d : Int) (H : HS) (s : σ), SizeOf.sizeOf x ≤ n → Slim x → 0 ≤ d → d ≤ 17 → I s H → Cap M a sa b sb id sp H → m s + szX x ≤ B →
   FT Try.prog w0 N0 91 [.agg (cX x), .int .i64 d, .mptr a sa 0, .mptr b sb 0] H (zpb M I J H (zch step d x s)) := by
 intro n
 induction n with
 | zero => intro x d H s hn; cases x; simp at hn
 | succ n ih =>
  intro x d H s hn hw h0 h17 hI hC hB
  have hszp := zdd x
  obtain ⟨op, ix, args⟩ := x
  refine zg0 env0_ok fn91 [(0, .agg (cX (.nd op ix args))), (1, .int .i64 d), (2, .mptr a sa 0), (3, .mptr b sb 0)] (by show 4 ≤ 32; decide) rfl ?_
  unfold ic91
  repeat (first | refine za6 ?_ | refine za0 rfl ?_ | refine za4 ?_ | refine za5 ?_ | refine za3 rfl ?_ | refine zc5 rfl rfl ?_)
  have hC1 := hC.keep (Keep.new M H (H.clk, .cells (cX (.nd op ix args))))
  refine zbt rfl hC1.ha hC1.la rfl ?_
  repeat (first | refine za3 rfl ?_)
  refine zeq rfl zat (Nat.lt_succ_self _) rfl rfl ?_
  refine o_ct _ rfl rfl (hy s d (.nd op ix args) ⟨_, _, _⟩ (by omega) (hloc.new hI _ _)) (fun _ _ _ _ hm => absurd hm List.not_mem_nil) fun v H2 hF => ?_
  obtain ⟨hK, hF⟩ := hF
  have hK2 : Keep M H H2 := (Keep.new M H _).trans hK
  have hC2 := hC.keep hK2
  obtain ⟨hlen, hsl⟩ : args.length < 9223372036854775808 ∧ ∀ y ∈ args, Slim y := by cases hw with | nd h k => exact ⟨h, k⟩
  have hwx : zch step d (.nd op ix args) s = match step s d (.nd op ix args) with | .inr t => .inr t | .inl s' => zcc step d args s' := by rw [zch]; cases step s d (.nd op ix args) <;> rfl
  rw [hwx]
  cases hst : step s d (.nd op ix args) with
  | inr t =>
   rw [hst] at hF
   obtain ⟨rfl, hJ⟩ := hF
   repeat (first | refine za6 ?_ | refine za0 rfl ?_ | refine za4 ?_ | refine za5 ?_ | refine zbf rfl ?_ | refine zad ?_ | refine za7 ?_ | refine za3 rfl ?_ | refine zfz rfl rfl ?_)
   exact zaa ⟨.inr rfl, _, rfl, hK2, rfl, hJ⟩
  | inl s1 =>
   rw [hst] at hF
   obtain ⟨rfl, hI1⟩ := hF
   repeat (first | refine za6 ?_ | refine za0 rfl ?_ | refine za4 ?_ | refine za5 ?_ | refine zae ?_ | refine zbp rfl ?_ | refine zab rfl ?_ | refine zfz rfl rfl ?_)
   refine zbt rfl ((hK.look H.next (fun hm => Nat.lt_irrefl _ (hloc.lt s H hI _ hm)) (Nat.lt_succ_self _)).trans zat) (Nat.lt_of_lt_of_le (Nat.lt_succ_self _) hK.next) rfl ?_
   repeat (first | refine za4 ?_ | refine za5 ?_ | refine zam ?_ | refine za3 rfl ?_ | refine zc8 rfl rfl ?_)
   refine zeb (fun mm S => ∃ i s' H', mm = args.length - i ∧ i ≤ args.length ∧ zcc step d args s1 = zcc step d (args.drop i) s' ∧ m s' + szL (args.drop i) ≤ B ∧ I s' H' ∧ Keep M H H' ∧
     S = st 32 [(1, .int .i64 d), (3, .mptr b sb 0), (15, .vs (cXs args)), (16, .int .i64 (cXs args).length), (17, .int .i64 (i : Nat))] H'.heap H'.next H'.clk) args.length
    (zau (.cons rfl (.cons rfl (.cons rfl (.cons rfl (.cons rfl .nil)))))) ⟨0, s1, H2, rfl, Nat.zero_le _, rfl, (by have := hm s d _ s1 hst; rw [szX] at hB; rw [List.drop_zero]; omega), hI1, hK2, rfl⟩ ?_
   rintro mm S ⟨i, s', H', rfl, hi, hwl, hB', hI', hK', rfl⟩
   have hC' := hC.keep hK'
   unfold zr4
   repeat (first | refine za6 ?_ | refine za0 rfl ?_)
   refine zan rfl rfl rfl (fun h1 => ?_) fun h1 => ?_
   ·have hlt : i < args.length := by
     have := of_decide_eq_true h1
     rw [zaq] at this
     omega
    have hd : args.drop i = args[i] :: args.drop (i + 1) := List.drop_eq_getElem_cons hlt
    rw [hd] at hwl hB'
    rw [szL] at hB'
    have hszq := zbn (args.drop (i + 1))
    have hszy := zdd args[i]
    have hge := zdy hlt
    have hmem : args[i] ∈ args := List.getElem_mem hlt
    generalize args[i] = y at hwl hge hmem hB' hszy
    obtain ⟨yo, yi, ya⟩ := y
    repeat (first | refine za6 ?_ | refine za0 rfl ?_ | refine za4 ?_ | refine za5 ?_ | refine zam ?_ | refine zae ?_ | refine zbf rfl ?_)
    refine zea rfl rfl (Int.natCast_nonneg i) hge rfl ?_
    repeat (first | refine zaj rfl rfl rfl rfl ?_ | refine zc4 ?_)
    refine zaw rfl rfl rfl rfl zat rfl rfl ?_
    rw [zd6]
    repeat (first | refine za6 ?_ | refine za0 rfl ?_ | refine za4 ?_ | refine za5 ?_ | refine za3 rfl ?_)
    refine zan rfl rfl rfl (fun h2 => ?_) fun h2 => ?_
    ·have hd1 : d ≤ 16 := of_decide_eq_true h2
     repeat (first | refine zc1 rfl ?_ | refine za3 rfl ?_)
     refine zbt rfl ((zb1 hC'.lb).trans hC'.hb) (Nat.lt_succ_of_lt hC'.lb) rfl ?_
     repeat (first | refine zc1 rfl ?_)
     refine zeq rfl zat (Nat.lt_succ_self _) rfl rfl ?_
     repeat (first | refine zc1 rfl ?_ | refine za3 rfl ?_ | refine zd5 (op := .add) rfl rfl rfl ?_)
     rw [show IntKind.wrap .i64 (d + 1) = d + 1 from wrap_small _ (by omega) (by omega)]
     refine o_ct _ rfl rfl (ct_fn (ih (.nd yo yi ya) (d + 1) ⟨_, _, _⟩ s' (by have := zih (op := op) (ix := ix) hmem; omega) (hsl _ hmem) (by omega) (by omega) (hloc.new hI' _ _) (hC'.keep (Keep.new M H' _)) (by omega))) (fun _ _ _ _ hm => absurd hm List.not_mem_nil) fun v H3 hF3 => ?_
     obtain ⟨hK3, hF3⟩ := hF3
     have hK4 : Keep M H H3 := hK'.trans ((Keep.new M H' _).trans hK3)
     cases hwk : zch step (d + 1) (.nd yo yi ya) s' with
     | inr t =>
      rw [hwk] at hF3
      obtain ⟨rfl, hJ⟩ := hF3
      repeat (first | refine za6 ?_ | refine za0 rfl ?_ | refine za4 ?_ | refine za5 ?_ | refine zbf rfl ?_ | refine zad ?_ | refine za7 ?_ | refine zar ?_ | refine zc1 rfl ?_ | refine za3 rfl ?_ | refine zaf rfl rfl ?_ | refine zfz rfl rfl ?_)
      refine zel ?_
      repeat (first | refine za7 ?_ | refine zar ?_)
      refine zaa ⟨.inr rfl, _, rfl, hK4, ?_⟩
      simp only [hwl, zcc, if_pos hd1, hwk]
      exact ⟨trivial, hJ⟩
     | inl s2 =>
      rw [hwk] at hF3
      obtain ⟨rfl, hI2⟩ := hF3
      repeat (first | refine za0 rfl ?_ | refine za4 ?_ | refine za5 ?_ | refine zcb ?_ | refine zae ?_ | refine zbp rfl ?_ | refine zc1 rfl ?_ | refine za3 rfl ?_ | refine zaf rfl rfl ?_ | refine zfz rfl rfl ?_ | refine zd5 (op := .add) rfl rfl rfl ?_)
      rw [zbc i (by omega)]
      exact zcg (show args.length - (i + 1) < args.length - i by omega) (zau (.cons rfl (.cons rfl (.cons rfl (.cons rfl (.cons rfl .nil)))))) ⟨i + 1, s2, H3, rfl, hlt, by rw [hwl]; simp only [zcc, if_pos hd1, hwk], by have := ztv hm (.nd yo yi ya) (d + 1) s' s2 hwk; omega, hI2, hK4, rfl⟩
    ·have hd1 : ¬ d ≤ 16 := of_decide_eq_false h2
     repeat (first | refine za0 rfl ?_ | refine za4 ?_ | refine za5 ?_ | refine zcb ?_ | refine zae ?_ | refine zbp rfl ?_ | refine ze9 rfl rfl ?_ | refine za3 rfl ?_ | refine zac rfl rfl ?_ | refine zd5 (op := .add) rfl rfl rfl ?_)
     rw [zbc i (by omega)]
     exact zcg (show args.length - (i + 1) < args.length - i by omega) (zau (.cons rfl (.cons rfl (.cons rfl (.cons rfl (.cons rfl .nil)))))) ⟨i + 1, s', ⟨_, _, _⟩, rfl, hlt, by rw [hwl]; simp only [zcc, if_neg hd1], by omega, hloc.new hI' _ _, hK'.trans (Keep.new M H' _), rfl⟩
   ·have hi2 : i = args.length := by
     have := of_decide_eq_false h1
     rw [zaq] at this
     omega
    repeat (first | refine za6 ?_ | refine za4 ?_ | refine za5 ?_ | refine zbp rfl ?_ | refine zdw ?_ | refine zb9 ?_)
    refine zgj ?_
    repeat (first | refine za6 ?_ | refine za0 rfl ?_ | refine za4 ?_ | refine za5 ?_ | refine zad ?_ | refine zdv ?_ | refine za3 rfl ?_)
    refine zaa ⟨.inr rfl, _, rfl, hK', ?_⟩
    subst hi2
    simp only [hwl, List.drop_length, zcc]
    exact ⟨trivial, hI'⟩
theorem rangeB {w0 : World} {N0 id sp : Nat} (hloc : Local M I) {B : Int} {m : σ → Int} (hm : ∀ s d x s1, step s d x = .inl s1 → m s1 ≤ m s + 1) (hy : ∀ s d x H, m s + 1 ≤ B → I s H → CT Try.prog w0 N0 (.yield id sp) [.int .i64 d, .agg (cX x)] H (zpb M I J H (step s d x))) (x : Ex) (H : HS) (s : σ) (hx : Slim x) (hI : I s H) (hB : m s + szX x ≤ B) :
  FT Try.prog w0 N0 90 [.yield id sp, .vptr (cX x)] H fun _ H' => Keep M H H' ∧ match zch step 1 x s with
   | .inl s' => I s' H'
   | .inr t => J t H' := by
 refine zg0 env0_ok fn90 [(0, .yield id sp), (1, .vptr (cX x))] (by show 2 ≤ 8; decide) rfl ?_
 obtain ⟨op, ix, args⟩ := x
 unfold ic90
 repeat (first | refine za6 ?_ | refine za0 rfl ?_ | refine za4 ?_ | refine za5 ?_ | refine zc4 ?_ | refine zc5 rfl rfl ?_ | refine zj3 rfl rfl ?_)
 refine zaw rfl rfl rfl rfl zat rfl rfl ?_
 rw [zd6]
 repeat (first | refine za0 rfl ?_ | refine za4 ?_ | refine za5 ?_)
 refine zbt rfl zat (Nat.lt_succ_self _) rfl ?_
 repeat (first | refine zaj rfl rfl rfl rfl ?_)
 have hlt := hloc.lt s H hI
 have hk0 : Keep M H ⟨(H.next + 1, H.clk + 1, .cells (setAt 0 [.nilf] [.fn 91 [] [.mptr H.next H.clk 0, .mptr (H.next + 1) (H.clk + 1) 0]])) :: (H.next, H.clk, .cells [.yield id sp]) :: H.heap, H.next + 1 + 1, H.clk + 1 + 1⟩ := (Keep.new M H (H.clk, .cells [.yield id sp])).trans (Keep.new M ⟨(H.next, H.clk, .cells [.yield id sp]) :: H.heap, H.next + 1, H.clk + 1⟩ (H.clk + 1, _))
 refine o_ct _ rfl rfl (ct_fn (visitB hloc hm hy (SizeOf.sizeOf (Ex.nd op ix args)) (.nd op ix args) 1 ⟨_, _, _⟩ s (Nat.le_refl _) hx (by decide) (by decide) (hloc.of s H ⟨_, _, _⟩ hI hk0.next fun i hm => (zb1 (Nat.lt_succ_of_lt (hlt i hm))).trans (zb1 (hlt i hm)))
  ⟨fun hm => Nat.lt_irrefl _ (hlt _ hm), fun hm => Nat.not_succ_lt_self (hlt _ hm), (zb1 (Nat.lt_succ_self _)).trans zat, zat, Nat.lt_succ_of_lt (Nat.lt_succ_self _), Nat.lt_succ_self _⟩ hB)) (fun _ _ _ _ hm => absurd hm List.not_mem_nil) fun v H2 hF => ?_
 obtain ⟨hK, hF⟩ := hF
 repeat (first | refine za4 ?_)
 refine zaa ⟨.inl rfl, _, rfl, hk0.trans hK, ?_⟩
 cases hw : zch step 1 (.nd op ix args) s with
 | inl s' => rw [hw] at hF; exact hF.2
 | inr t => rw [hw] at hF; exact hF.2
end
end Go.Proofs.Ytmnkjofaodbokaa
namespace Go.Proofs
open Go.Shelf
def Try.lays189_ren : Go.Shelf.Ren := ⟨fun | 189 => 64 | 125 => 93 | 257 => 92 | 128 => 115 | 129 => 116 | 294 => 106 | 295 => 107 | 296 => 108 | 297 => 109 | 298 => 110 | 299 => 111 | 216 => 112 | 300 => 113 | 301 => 114 | 328 => 120 | 329 => 121 | 330 => 122 | 331 => 123 | 332 => 124 | 215 => 125 | 343 => 126 | n => n, fun | 28 => 61 | 3 => 3 | 46 => 137 | 0 => 0 | 51 => 151 | 53 => 43 | 4 => 4 | 183 => 143 | 182 => 142 | 131 => 148 | 5 => 5 | 9 => 9 | 218 => 155 | 222 => 159 | 228 => 162 | 229 => 163 | n => n, fun | n => n⟩
theorem Try.lays189 : Go.Proofs.Lays.n189 Try.prog Try.lays189_ren := {
 mixed := by kernel_rfl
 f125 := Try.func93.trans (congrArg some (by kernel_rfl))
 f128 := Try.func115.trans (congrArg some (by kernel_rfl))
 f129 := Try.func116.trans (congrArg some (by kernel_rfl))
 f189 := Try.func64.trans (congrArg some (by kernel_rfl))
 f215 := Try.func125.trans (congrArg some (by kernel_rfl))
 f216 := Try.func112.trans (congrArg some (by kernel_rfl))
 f257 := Try.func92.trans (congrArg some (by kernel_rfl))
 f294 := Try.func106.trans (congrArg some (by kernel_rfl))
 f295 := Try.func107.trans (congrArg some (by kernel_rfl))
 f296 := Try.func108.trans (congrArg some (by kernel_rfl))
 f297 := Try.func109.trans (congrArg some (by kernel_rfl))
 f298 := Try.func110.trans (congrArg some (by kernel_rfl))
 f299 := Try.func111.trans (congrArg some (by kernel_rfl))
 f300 := Try.func113.trans (congrArg some (by kernel_rfl))
 f301 := Try.func114.trans (congrArg some (by kernel_rfl))
 f328 := Try.func120.trans (congrArg some (by kernel_rfl))
 f329 := Try.func121.trans (congrArg some (by kernel_rfl))
 f330 := Try.func122.trans (congrArg some (by kernel_rfl))
 f331 := Try.func123.trans (congrArg some (by kernel_rfl))
 f332 := Try.func124.trans (congrArg some (by kernel_rfl))
 f343 := Try.func126.trans (congrArg some (by kernel_rfl))
 t0 := Try.underlying0
 a0 := Try.isAgg0
 z0 := Try.sizeOf0
 v0 := Try.zeroValue0
 t3 := Try.underlying3
 a3 := Try.isAgg3
 z3 := Try.sizeOf3
 v3 := Try.zeroValue3
 t4 := Try.underlying4
 a4 := Try.isAgg4
 z4 := Try.sizeOf4
 v4 := Try.zeroValue4
 t5 := Try.underlying5
 a5 := Try.isAgg5
 z5 := Try.sizeOf5
 v5 := Try.zeroValue5
 t9 := Try.underlying9
 a9 := Try.isAgg9
 z9 := Try.sizeOf9
 v9 := Try.zeroValue9
 t28 := Try.underlying61
 a28 := Try.isAgg61
 z28 := Try.sizeOf61
 v28 := Try.zeroValue61
 t46 := Try.underlying137
 a46 := Try.isAgg137
 z46 := Try.sizeOf137
 v46 := Try.zeroValue137
 t51 := Try.underlying151
 a51 := Try.isAgg151
 z51 := Try.sizeOf151
 v51 := Try.zeroValue151
 t53 := Try.underlying43
 a53 := Try.isAgg43
 z53 := Try.sizeOf43
 v53 := Try.zeroValue43
 t131 := Try.underlying148
 a131 := Try.isAgg148
 z131 := Try.sizeOf148
 v131 := Try.zeroValue148
 t182 := Try.underlying142
 a182 := Try.isAgg142
 z182 := Try.sizeOf142
 v182 := Try.zeroValue142
 t183 := Try.underlying143
 a183 := Try.isAgg143
 z183 := Try.sizeOf143
 v183 := Try.zeroValue143
 t218 := Try.underlying155
 a218 := Try.isAgg155
 z218 := Try.sizeOf155
 v218 := Try.zeroValue155
 t222 := Try.underlying159
 a222 := Try.isAgg159
 z222 := Try.sizeOf159
 v222 := Try.zeroValue159
 t228 := Try.underlying162
 a228 := Try.isAgg162
 z228 := Try.sizeOf162
 v228 := Try.zeroValue162
 t229 := Try.underlying163
 a229 := Try.isAgg163
 z229 := Try.sizeOf163
 v229 := Try.zeroValue163 }
open Go.Sort Go.RowKit in
theorem Try.slices_Sort_int (blk off cap : Nat) (zs : List Int) (w : World) (hH : Holds (Value.int .i64) w blk off zs.toArray) (hblk : blk < w.heap.size) (hsz : zs.length < 4611686018427387904) :
  Calls Try.prog 64 #[.slice (some ⟨blk, off, none⟩) zs.length cap] w fun e w' =>
   e = .returned (.tuple #[]) ∧ ∃ n os, w' = grow (putRow (Value.int .i64) (Sort.ahead w n) blk off (zs.mergeSort fun x y => decide (x ≤ y)).toArray) os := Any.slices_Sort_int Try.lays189 blk off cap zs w hH hblk hsz
def Try.laysNm220_ren : Go.Shelf.Ren := ⟨fun | 20 => 65 | n => n, fun | 22 => 61 | 3 => 3 | 4 => 4 | 0 => 0 | n => n, fun | n => n⟩
theorem Try.laysNm220 : Go.Proofs.Lays2.n20 Try.prog Try.laysNm220_ren := {
 mixed := by kernel_rfl
 f20 := Try.func65.trans (congrArg some (by kernel_rfl))
 t0 := Try.underlying0
 a0 := Try.isAgg0
 z0 := Try.sizeOf0
 v0 := Try.zeroValue0
 t3 := Try.underlying3
 a3 := Try.isAgg3
 z3 := Try.sizeOf3
 v3 := Try.zeroValue3
 t4 := Try.underlying4
 a4 := Try.isAgg4
 z4 := Try.sizeOf4
 v4 := Try.zeroValue4
 t22 := Try.underlying61
 a22 := Try.isAgg61
 z22 := Try.sizeOf61
 v22 := Try.zeroValue61
 i3 := by kernel_rfl }
open Go.RowKit Go.Lib Go.Sort in
theorem Try.slices_Compact_int (blk off cap : Nat) (zs : List Int) (w : World) (hH : Holds (Value.int .i64) w blk off zs.toArray) (hsz : zs.length ≤ 9223372036854775807) (hcap : zs.length ≤ cap) :
  Calls Try.prog 65 #[.slice (some ⟨blk, off, none⟩) zs.length cap] w fun e w' => e = .returned (.slice (some ⟨blk, off, none⟩) (Lib.compact zs).length cap) ∧ ∃ q, w' = putRow (Value.int .i64) (Sort.ahead w q) blk off (Lib.compact zs ++ List.replicate (zs.length - (Lib.compact zs).length) 0).toArray := Any.slices_Compact_int Try.laysNm220 blk off cap zs w hH hsz hcap
namespace Ytmnkjofaodbokaa
open Go Go.Am Go.RowKit
theorem ent64 : Ent Try.prog 64 := zrn Try.func64 rfl (by kernel_rfl)
theorem ent65 : Ent Try.prog 65 := zrn Try.func65 rfl (by kernel_rfl)
theorem sorts64 : Sorts Try.prog 64 := fun blk off cap zs w hH hb hz => Try.slices_Sort_int blk off cap zs w hH hb hz
theorem cpts65 : Cpts Try.prog 65 := fun blk off cap zs w hH hz hc => Try.slices_Compact_int blk off cap zs w hH hz hc
end Ytmnkjofaodbokaa
end Go.Proofs
namespace Go.Proofs.Ytmnkjofaodbokaa
open Go Go.Am
noncomputable def zl6 : Code := match env0.fn 28 with
 | some i => ((zbu i.ic)[0]?.getD (.skip, .skip)).1
 | none => .skip
noncomputable def zl7 : Code := match env0.fn 28 with
 | some i => ((zbu i.ic)[0]?.getD (.skip, .skip)).2
 | none => .skip
def zmh : IC := .region [⟨(some 9), .alloc [.int .i64 0, .int .i64 0, .nils], none⟩,
  ⟨none, .store 3 (.t 9) (.t 19), none⟩] none
def zt1 : IC := .block 1 (.seq (.region [⟨(some 20), .faddr 0 (.t 9), none⟩,
  ⟨(some 21), .load none (.t 20), none⟩,
  ⟨(some 22), .bin .eql (.t 21) (.c (.int .i64 1)), none⟩] none)
 (.cond (.t 22) (.region [⟨(some 23), .load none (.t 7), none⟩,
  ⟨(some 24), .faddr 1 (.t 9), none⟩,
  ⟨(some 25), .load none (.t 24), none⟩,
  ⟨(some 26), .bslice 1 1 [.int .i64 0] [(0, 1, (.t 25))], none⟩,
  ⟨(some 27), .append 1 8 [.int .i64 0] (.t 23) (.t 26), none⟩,
  ⟨none, .store 1 (.t 7) (.t 27), none⟩] none)
 (.skip)))
-- pneumatic/boolexp.Variables
noncomputable def ic28 : IC := .seq (.region [⟨(some 2), .box (.t 0), none⟩,
  ⟨(some 4), .mov (.c (.nils)), none⟩,
  ⟨(some 5), .mov (.c (.int .i64 0)), none⟩] none)
 (.seq (.seq (.region [⟨(some 10), .load (some 3) (.t 2), none⟩,
  ⟨(some 11), .mov (.t 1), none⟩,
  ⟨(some 12), .call (.c (.fn 32 [] [])) [(.t 10), (.t 11)], none⟩,
  ⟨(some 6), .mov (.t 12), none⟩] none)
 (.seq (.region [⟨(some 13), .mov (.t 6), none⟩,
  ⟨(some 14), .bin .neq (.t 13) (.c (.int .i64 0)), none⟩] none)
 (.cond (.t 14) (.seq (.region [⟨(some 15), .mov (.t 6), none⟩,
  ⟨(some 4), .mov (.c (.nils)), none⟩,
  ⟨(some 5), .mov (.t 15), none⟩] none)
 (.ret))
 (.skip))))
 (.seq (.region [⟨(some 7), .alloc [.nils], none⟩] none)
 (.seq (.seq (.region [⟨(some 16), .load (some 3) (.t 2), none⟩,
  ⟨(some 17), .call (.c (.fn 63 [] [])) [(.t 16)], none⟩] none)
 (.block 0 (.rangeFunc (.t 17) [18, 19] zl6 zl7 zmh zt1)))
 (.seq (.region [⟨(some 28), .load none (.t 7), none⟩,
  ⟨(some 29), .call (.c (.fn 64 [] [])) [(.t 28)], none⟩] none)
 (.seq (.region [⟨(some 30), .load none (.t 7), none⟩,
  ⟨(some 31), .call (.c (.fn 65 [] [])) [(.t 30)], none⟩,
  ⟨(some 4), .mov (.t 31), none⟩,
  ⟨(some 5), .mov (.c (.int .i64 0)), none⟩] none)
 (.ret))))))
theorem fn28 : env0.fn 28 = some ⟨32, ic28, [.t 4, .t 5]⟩ := by kernel_rfl
mutual
def zpm : Ex → List Int
 | .nd op ix args => (if op = 1 then [ix] else []) ++ zl9 args
def zl9 : List Ex → List Int
 | [] => []
 | y :: ys => zpm y ++ zl9 ys
end
def zm7 (s : List Int) (_ : Int) (x : Ex) : List Int ⊕ Unit := match x with
 | .nd op ix _ => .inl (if op = 1 then s ++ [ix] else s)
theorem stepV_m (s : List Int) (d : Int) (x : Ex) (s1 : List Int) (h : zm7 s d x = .inl s1) : (s1.length : Int) ≤ (s.length : Int) + 1 := by
 obtain ⟨op, ix, args⟩ := x
 unfold zm7 at h
 injection h with h
 subst h
 split
 ·rw [List.length_append]; show ((s.length + 1 : Nat) : Int) ≤ _; omega
 ·omega
mutual
theorem walkV : ∀ (x : Ex) (d : Int) (s : List Int), d ≤ 17 → zce (17 - d).toNat x = true → zch zm7 d x s = .inl (s ++ zpm x)
 | .nd op ix args => fun d s h17 hb => by
  have h16 : d ≤ 16 := by
   by_cases h : d ≤ 16
   ·exact h
   ·rw [show (17 - d).toNat = 0 by omega] at hb
    simp [zce] at hb
  rw [show (17 - d).toNat = (16 - d).toNat + 1 by omega, zen] at hb
  rw [zch, zpm]
  have hst : zm7 s d (.nd op ix args) = .inl (if op = 1 then s ++ [ix] else s) := rfl
  rw [hst]
  dsimp only
  rw [walkLV args d _ h16 hb]
  by_cases h1 : op = 1
  ·rw [if_pos h1, if_pos h1, List.append_assoc]
  ·rw [if_neg h1, if_neg h1, List.nil_append]
theorem walkLV : ∀ (l : List Ex) (d : Int) (s : List Int), d ≤ 16 → l.all (zce (16 - d).toNat) = true → zcc zm7 d l s = .inl (s ++ zl9 l)
 | [] => fun d s h16 hb => by rw [zcc, zl9, List.append_nil]
 | y :: ys => fun d s h16 hb => by
  rw [List.all_cons, Bool.and_eq_true] at hb
  rw [zcc, if_pos h16, walkV y (d + 1) s (by omega) (by rw [show (17 - (d + 1)).toNat = (16 - d).toNat by omega]; exact hb.1)]
  dsimp only
  rw [walkLV ys d _ h16 hb.2, zl9, List.append_assoc]
end
structure I28 (ltm : List (Nat × AV)) (s : List Int) (H : HS) : Prop where
 nx : 4 ≤ H.next
 h3 : Am.look 3 H.heap = some (2, .loop .ready none 32 (zdh ltm) [18, 19] zl6 zl7 (2, 1))
 h2 : Am.look 2 H.heap = some (1, .deferred)
 h0 : ∃ sp, Am.look 0 H.heap = some (0, .cells [.ms 1 sp 1 0 s.length none]) ∧ Am.look 1 H.heap = some (sp, .cells (s.map (AV.int .i64)))
theorem local28 (ltm : List (Nat × AV)) : Local (fun i => i < 4) (I28 ltm) :=
 ⟨fun s H h i hi => Nat.lt_of_lt_of_le hi h.nx, fun s H H' h hn hl =>
  ⟨Nat.le_trans h.nx hn, (hl 3 (by decide)).trans h.h3, (hl 2 (by decide)).trans h.h2, let ⟨sp, a, b⟩ := h.h0; ⟨sp, (hl 0 (by decide)).trans a, (hl 1 (by decide)).trans b⟩⟩⟩
set_option maxHeartbeats 2000000 in
theorem yield28 {w0 : World} {N0 : Nat} (ltm : List (Nat × AV)) (g7 : zba (.t 7) ltm = some (.mptr 0 0 0)) (ha : Com Try.prog zl6 zmh) (hb : Com Try.prog zl7 zt1) (s : List Int) (d : Int) (x : Ex) (H : HS) (hm : (s.length : Int) + 1 ≤ 256) (h : I28 ltm s H) :
  CT Try.prog w0 N0 (.yield 3 2) [.int .i64 d, .agg (cX x)] H (zpb (fun i => i < 4) (I28 ltm) (fun (_ : Unit) _ => False) H (zm7 s d x)) := by
 obtain ⟨op, ix, args⟩ := x
 obtain ⟨nx, h3, h2, sp, h0, h1⟩ := h
 refine zlb (l0 := (19, .agg (cX (.nd op ix args))) :: (18, .int .i64 d) :: ltm) h3 ha hb rfl (by decide) rfl ?_
 unfold zmh
 repeat (first | refine za0 rfl ?_ | refine zc4 ?_)
 refine zaw (sp := H.clk) (cs := [.int .i64 0, .int .i64 0, .nils]) rfl rfl rfl rfl zat rfl rfl ?_
 repeat (first | refine za4 ?_)
 refine zaa ⟨rfl, _, _, _, _, rfl, ?_, ?_⟩
 ·rw [zd6, zal, if_neg (by omega)]; exact h3
 rw [zd6]
 unfold zt1
 repeat (first | refine za6 ?_ | refine za0 rfl ?_ | refine zam ?_)
 repeat (first | refine zab rfl ?_)
 refine zbt (sp := H.clk) (cs := cX (.nd op ix args)) rfl (by rw [za1, if_neg (by omega)]; exact zat) (by omega) rfl ?_
 refine zan rfl rfl rfl (fun hg => ?_) fun hg => ?_
 ·have hg : op = 1 := by simpa using hg
  have hst : zm7 s d (.nd op ix args) = .inl (s ++ [ix]) := by
   show Sum.inl (if op = 1 then s ++ [ix] else s) = _
   rw [if_pos hg]
  rw [hst]
  repeat (first | refine za0 rfl ?_ | refine za4 ?_ | refine za5 ?_ | refine zbf rfl ?_)
  refine zbt (sp := 0) (cs := [.ms 1 sp 1 0 s.length none]) g7 (by rw [za1, if_neg (by decide), zb1 (by omega)]; exact h0) (by omega) rfl ?_
  refine zab rfl ?_
  refine zbt (sp := H.clk) (cs := cX (.nd op ix args)) rfl (by rw [za1, if_neg (by omega)]; exact zat) (by omega) rfl ?_
  refine zfp rfl rfl ?_
  refine zi6 [[.int .i64 ix]] (id := 1) (sp := sp) (len := s.length) (cs := s.map (AV.int .i64)) rfl rfl (zjw (xs := [[.int .i64 ix]]) (ys := []) zat rfl fun x hx => by obtain rfl := List.mem_singleton.1 hx; rfl) (fun h => Nat.noConfusion h) rfl (by decide) (by rw [zal, if_neg (by omega), za1, if_neg (by decide), zb1 (by omega)]; exact h1) (by rw [List.length_map, Nat.mul_one]) (by show _ + 1 ≤ _; omega) ?_
  refine zaw (sp := 0) (cs := [.ms 1 sp 1 0 s.length none]) g7 rfl rfl rfl (by rw [za1, if_neg (by decide), zal, if_neg (by omega), za1, if_neg (by decide), zb1 (by omega)]; exact h0) rfl rfl ?_
  repeat (first | refine za4 ?_ | refine zcb ?_)
  refine zaa ⟨32, zdh ltm, [18, 19], zl6, zl7, (2, 1), ?_, none, rfl, ⟨by show H.next ≤ H.next + 1 + 1; omega, by show H.clk ≤ H.clk + 1 + 1 + 1; omega, fun i hi hj => ?_⟩, ?_⟩
  ·dsimp only [st]
   rw [za1, if_neg (by decide), za1, if_neg (by decide), zal, if_neg (by omega), za1, if_pos rfl]
  ·dsimp only [st]
   rw [za1, if_neg (by omega), za1, if_neg (by omega), za1, if_neg (by omega), zal, if_neg (by omega), za1, if_neg (by omega), zb1 (by omega)]
  ·refine ⟨rfl, by show 4 ≤ H.next + 1 + 1; omega, ?_, ?_, H.clk + 1 + 1, ?_, ?_⟩
   ·dsimp only [st]
    rw [za1, if_pos rfl]; rfl
   all_goals
    dsimp only [st]
    rw [za1, if_neg (by decide)]
   ·rw [za1, if_neg (by decide), za1, if_neg (by decide), zal, if_neg (by omega), za1, if_neg (by decide), zb1 (by omega)]; exact h2
   ·rw [za1, if_pos rfl, List.length_append]; rfl
   ·rw [za1, if_neg (by decide), za1, if_pos rfl, List.map_append]; rfl
 ·have hg : ¬ op = 1 := by simpa using hg
  have hst : zm7 s d (.nd op ix args) = .inl s := by
   show Sum.inl (if op = 1 then s ++ [ix] else s) = _
   rw [if_neg hg]
  rw [hst]
  repeat (first | refine za4 ?_ | refine za5 ?_ | refine zcb ?_ | refine zae ?_ | refine zbp rfl ?_)
  refine zaa ⟨32, zdh ltm, [18, 19], zl6, zl7, (2, 1), ?_, none, rfl, ⟨Nat.le_succ _, Nat.le_succ _, fun i hi hj => ?_⟩, ?_⟩
  ·dsimp only [st]
   rw [za1, if_pos rfl]
  ·dsimp only [st]
   rw [za1, if_neg (by omega), za1, if_neg (by omega), zb1 (by omega)]
  ·refine ⟨rfl, Nat.le_succ_of_le nx, ?_, ?_, sp, ?_, ?_⟩
   ·dsimp only [st]
    rw [za1, if_pos rfl]; rfl
   all_goals
    dsimp only [st]
    rw [za1, if_neg (by decide), za1, if_neg (by decide), zb1 (by omega)]
   ·exact h2
   ·exact h0
   ·exact h1
def tabS64 : Tab := [(64, [([.vs []], .tup [])]), (65, [([.vs []], .vs [])])]
theorem zm9 : TabOk Try.prog tabS64 := TabOk.of_run (env0_ok.tab TabOk.nil (pure := [])) (n := 60) (by kernel_rfl)
theorem ints64 : PF Try.prog 64 [.vs []] (.tup []) := zm9 _ (List.mem_cons_self ..) _ (List.mem_cons_self ..)
theorem zrf : PF Try.prog 65 [.vs []] (.vs []) := zm9 _ (List.mem_cons_of_mem _ (List.mem_cons_self ..)) _ (List.mem_cons_self ..)
mutual
theorem zo3 : ∀ x : Ex, ((zpm x).length : Int) ≤ szX x
 | .nd op ix args => by
  rw [zpm, szX, List.length_append]
  have h := zla args
  split
  ·show ((1 + (zl9 args).length : Nat) : Int) ≤ _; omega
  ·show ((0 + (zl9 args).length : Nat) : Int) ≤ _; omega
theorem zla : ∀ l : List Ex, ((zl9 l).length : Int) ≤ szL l
 | [] => by rw [zl9, szL]; show ((0 : Nat) : Int) ≤ 0; omega
 | y :: ys => by
  rw [zl9, szL, List.length_append]
  have h1 := zo3 y
  have h2 := zla ys
  omega
end
def varL (x : Ex) : List Int := cps (srt (zpm x))
def varsP (x : Ex) (n : Int) : AV := if zbi x n = 0 then .tup [vsI (varL x), .int .i64 0] else .tup [.vs [], .int .i64 (zbi x n)]
set_option maxHeartbeats 2000000 in
theorem zii (x : Ex) (hs : Slim x) (n : Int) : PF Try.prog 28 [.agg (cX x), .int .i64 n] (varsP x n) := by
 have p32 := zjo x hs n
 rw [zdz] at p32
 unfold varsP
 have hlt : zbi x n = 0 → zd2 x = true := fun h => by
  unfold zbi at h
  split at h
  ·omega
  ·split at h
   ·assumption
   ·omega
 generalize zbi x n = e at *
 obtain ⟨op, ix, args⟩ := x
 refine zav env0_ok fn28 [(0, .agg (cX (.nd op ix args))), (1, .int .i64 n)] (by show 2 ≤ 32; decide) rfl fun w0 N0 => ?_
 unfold ic28
 refine za6 (za0 rfl (zc5 rfl rfl (za3 rfl (za3 rfl (za4 (za5 ?_))))))
 refine zd3 [] [(0, 0, cX (.nd op ix args))] [(1, .int .i64 n), (2, .vptr (cX (.nd op ix args)))] rfl (.cons rfl rfl .nil) .nil (.cons rfl (.same rfl) (.cons rfl (.fptr rfl rfl) .nil)) ?_
 repeat (first | refine za6 ?_ | refine za0 rfl ?_ | refine za3 rfl ?_ | refine zaj rfl rfl rfl rfl ?_)
 refine zai rfl rfl p32 (fun h => Bool.noConfusion (show false = true from h)) ?_
 repeat (first | refine za6 ?_ | refine za0 rfl ?_ | refine za4 ?_ | refine za5 ?_ | refine za3 rfl ?_)
 refine zan rfl rfl rfl (fun h => ?_) fun h => ?_
 ·rw [if_neg (by simpa using h)]
  repeat (first | refine za6 ?_ | refine za0 rfl ?_ | refine za4 ?_ | refine za5 ?_ | refine zbf rfl ?_ | refine zad ?_ | refine za7 ?_ | refine za3 rfl ?_)
  exact zaa ⟨.inr rfl, _, rfl, rfl⟩
 have h : e = 0 := by simpa using h
 rw [if_pos h]
 have hl := hlt h
 repeat (first | refine za6 ?_ | refine za0 rfl ?_ | refine za4 ?_ | refine za5 ?_ | refine zae ?_ | refine zbp rfl ?_ | refine zaj rfl rfl rfl rfl ?_ | refine zc4 ?_)
 refine zai rfl rfl (zgc (.nd op ix args)) (fun h => Bool.noConfusion (show false = true from h)) ?_
 refine za4 (za5 ?_)
 refine zd3 [(some (0, 1), [.ms 1 0 1 0 0 none]), (none, [])] [] [(2, .vptr (cX (.nd op ix args))), (7, .mptr 0 0 0), (17, .fn 90 [] [.vptr (cX (.nd op ix args))])] rfl .nil (.cons rfl (.cons (.grow rfl) .nil) (.new .nil)) (.cons rfl (.same rfl) (.cons rfl (.mptr rfl) (.cons rfl (.same rfl) .nil))) ?_
 refine zam ?_
 have hsz := (zck _).1 hl
 refine zkx (.inl rfl) rfl fun ha hb => (rangeB (local28 _) (B := 256) (m := fun s : List Int => (s.length : Int)) stepV_m (fun s d x H hm h => yield28 _ rfl ha hb s d x H hm h) (.nd op ix args) ⟨_, _, _⟩ [] hs ⟨Nat.le_refl _, rfl, rfl, 0, rfl, rfl⟩ (by show ((0 : Nat) : Int) + _ ≤ _; omega)).mono fun v H2 hF => ?_
 obtain ⟨hK, hF⟩ := hF
 rw [walkV _ 1 [] (by decide) hsz.2, List.nil_append] at hF
 obtain ⟨nx, h3, h2, sp, h0, h1⟩ := hF
 refine ⟨_, _, .normal, _, _, _, _, _, _, h3, by simp, rfl, fun z hz => ?_, ?_⟩
 ·obtain rfl := List.mem_singleton.1 hz
  rw [za9, if_neg (by decide)]; exact h2
 have hcl := zo3 (.nd op ix args)
 have hcl : (zpm (.nd op ix args)).length ≤ 256 := by have := hsz.1; omega
 unfold varL
 generalize zpm (.nd op ix args) = L at *
 refine zcb (za5 ?_)
 by_cases hL : L = []
 ·subst hL
  refine ztz [(some (0, 0), [.vs []])] [(1, sp, [])] [(2, .vptr (cX (.nd op ix args))), (7, .mptr 0 0 0)] rfl (.cons (by show Am.look 1 (zbd 3 H2.heap) = _; rw [za9, if_neg (by decide)]; exact h1) rfl .nil) (.cons (by show Am.look 0 (zbd 3 H2.heap) = _; rw [za9, if_neg (by decide)]; exact h0) (.cons (.fms (cs := []) (xs := []) (by simp [fzl]) rfl (fun y hy => by cases hy) ⟨[], rfl⟩) .nil) .nil) (.cons rfl (.same rfl) (.cons rfl (.mptr rfl) .nil)) ?_
  repeat (first | refine za6 ?_ | refine za0 rfl ?_ | refine zah rfl rfl ?_)
  refine zai rfl rfl ints64 (fun h => Bool.noConfusion (show false = true from h)) ?_ (fun m hm => by obtain rfl := List.mem_singleton.1 hm; rfl)
  repeat (first | refine za6 ?_ | refine za0 rfl ?_ | refine za4 ?_ | refine za5 ?_ | refine zah rfl rfl ?_)
  refine zai rfl rfl zrf (fun h => Bool.noConfusion (show false = true from h)) ?_ (fun m hm => by obtain rfl := List.mem_singleton.1 hm; rfl)
  repeat (first | refine za4 ?_ | refine za5 ?_ | refine zad ?_ | refine za3 rfl ?_)
  have e0 : cps (srt []) = [] := List.length_eq_zero_iff.1 (by have h1 := zrg (srt []); have h2 := zif []; rw [h2] at h1; exact Nat.le_zero.1 h1)
  exact zaa ⟨.inr rfl, _, rfl, by rw [e0]; rfl⟩
 ·refine ztz [(some (0, 0), [.ms 1 0 1 0 L.length none]), (some (1, sp), L.map (AV.int .i64))] [] [(2, .vptr (cX (.nd op ix args))), (7, .mptr 0 0 0)] rfl .nil (.cons (by show Am.look 0 (zbd 3 H2.heap) = _; rw [za9, if_neg (by decide)]; exact h0) (.cons (.ms rfl) .nil) (.cons (by show Am.look 1 (zbd 3 H2.heap) = _; rw [za9, if_neg (by decide)]; exact h1) (.keep (ziw _)) .nil)) (.cons rfl (.same rfl) (.cons rfl (.mptr rfl) .nil)) ?_
  have hne2 : srt L ≠ [] := fun e => hL (by have := zif L; rw [e] at this; exact List.length_eq_zero_iff.1 this.symm)
  repeat (first | refine za6 ?_ | refine za0 rfl ?_ | refine zah rfl rfl ?_)
  refine o_ct _ rfl rfl (zem (FT_sort (cap := none) (zs := L) ent64 sorts64 hL (by omega) rfl)) (fun v H hF => ?_) fun v H hF => ?_
  ·obtain ⟨rfl, rfl⟩ := hF
   intro m hm
   obtain rfl := List.mem_singleton.1 hm
   rfl
  obtain ⟨rfl, rfl⟩ := hF
  repeat (first | refine za6 ?_ | refine za0 rfl ?_ | refine za4 ?_ | refine za5 ?_ | refine zah rfl rfl ?_)
  refine o_ct _ rfl (by rw [← zif L]; rfl) (zem (zpa (cap := none) (zs := srt L) (sp := 0) (id := 1) ent65 cpts65 hne2 (by rw [zif]; omega) rfl)) (fun v H hF => ?_) fun v H hF => ?_
  ·obtain ⟨rfl, rfl⟩ := hF
   intro m hm
   obtain rfl := List.mem_singleton.1 hm
   rfl
  obtain ⟨rfl, rfl⟩ := hF
  repeat (first | refine za4 ?_ | refine za5 ?_ | refine zad ?_ | refine za3 rfl ?_)
  exact zaa ⟨.inr rfl, _, rfl, congrArg AV.tup (pair_eq (zmb (J := (List.replicate ((srt L).length - (cps (srt L)).length) 0).map (AV.int .i64)) (cps (srt L)) rfl (by rw [← List.map_append]; rfl)) rfl)⟩
end Go.Proofs.Ytmnkjofaodbokaa
namespace Go.Proofs.Ytmnkjofaodbokaa
open Go Go.Am
theorem asc_eq : ∀ {a b : List Int}, a.Pairwise (· < ·) → b.Pairwise (· < ·) → (∀ x, x ∈ a ↔ x ∈ b) → a = b
 | [], [], _, _, _ => rfl
 | [], y :: b, _, _, h => absurd ((h y).2 (List.mem_cons_self ..)) List.not_mem_nil
 | x :: a, [], _, _, h => absurd ((h x).1 (List.mem_cons_self ..)) List.not_mem_nil
 | x :: a, y :: b, ha, hb, h => by
  obtain ⟨a1, a2⟩ := List.pairwise_cons.1 ha
  obtain ⟨b1, b2⟩ := List.pairwise_cons.1 hb
  have hxy : x = y := by
   have h1 := (h x).1 (List.mem_cons_self ..)
   have h2 := (h y).2 (List.mem_cons_self ..)
   rcases List.mem_cons.1 h1 with e | h1
   ·exact e
   ·rcases List.mem_cons.1 h2 with e | h2
    ·exact e.symm
    ·have := a1 y h2
     have := b1 x h1
     omega
  subst hxy
  rw [asc_eq a2 b2 fun z => ?_]
  constructor
  ·intro hz
   rcases List.mem_cons.1 ((h z).1 (List.mem_cons_of_mem _ hz)) with e | hz2
   ·have := a1 z hz; omega
   ·exact hz2
  ·intro hz
   rcases List.mem_cons.1 ((h z).2 (List.mem_cons_of_mem _ hz)) with e | hz2
   ·have := b1 z hz; omega
   ·exact hz2
theorem zjs : ∀ {l : List Int} {p z : Int}, z ∈ p :: zo6 p l ↔ z ∈ p :: l
 | [], _, _ => Iff.rfl
 | y :: l, p, z => by
  rw [zo6]
  split
  ·rename_i e
   rw [zjs (l := l), List.mem_cons, List.mem_cons, List.mem_cons, e]
   constructor
   ·rintro (h | h)
    ·exact .inl h
    ·exact .inr (.inr h)
   ·rintro (h | h | h)
    ·exact .inl h
    ·exact .inl h
    ·exact .inr h
  ·have := zjs (l := l) (p := y) (z := z)
   rw [List.mem_cons, this, List.mem_cons, List.mem_cons, List.mem_cons]
theorem zjr : ∀ {l : List Int} {p : Int}, (p :: l).Pairwise (· ≤ ·) → (p :: zo6 p l).Pairwise (· < ·)
 | [], _, _ => List.pairwise_singleton ..
 | y :: l, p, h => by
  obtain ⟨h1, h2⟩ := List.pairwise_cons.1 h
  rw [zo6]
  split
  ·rename_i e
   subst e
   exact zjr h2
  ·rename_i e
   have ih := zjr h2
   rw [List.pairwise_cons]
   refine ⟨fun z hz => ?_, ih⟩
   have hy := h1 y (List.mem_cons_self ..)
   rcases List.mem_cons.1 hz with rfl | hz2
   ·omega
   ·have := (List.pairwise_cons.1 ih).1 z hz2
    omega
theorem cpt_asc {l : List Int} (h : l.Pairwise (· ≤ ·)) : (cpt l).Pairwise (· < ·) := by
 cases l with
 | nil => exact List.Pairwise.nil
 | cons x l => exact zjr h
theorem cpt_mem {l : List Int} {z : Int} : z ∈ cpt l ↔ z ∈ l := by
 cases l with
 | nil => exact Iff.rfl
 | cons x l => exact zjs
mutual
theorem zmo {n : Int} : ∀ x : Ex, nds n x = 0 → ∀ v, v ∈ zpm x ↔ zin v x = true
 | .nd op ix args => fun h v => by
  obtain ⟨h1, h2⟩ := zgv h
  rw [zpm, zin, List.mem_append]
  by_cases ho : op = 1
  ·rw [if_pos ho, if_pos ho]
   have hk := zgw h1
   have ha : args = [] := List.length_eq_zero_iff.1 (by
    have := hk.2.2.2.1
    unfold zb8 at this
    rw [if_neg (by omega), if_neg (by omega)] at this
    omega)
   subst ha
   rw [zl9, List.mem_singleton, decide_eq_true_eq]
   constructor
   ·rintro (e | e)
    ·exact e.symm
    ·cases e
   ·exact fun e => .inl e.symm
  ·rw [if_neg ho, if_neg ho]
   constructor
   ·rintro (e | e)
    ·cases e
    ·exact (zjp args h2 v).1 e
   ·exact fun e => .inr ((zjp args h2 v).2 e)
theorem zjp {n : Int} : ∀ l : List Ex, (∀ y ∈ l, nds n y = 0) → ∀ v, v ∈ zl9 l ↔ zop v l = true
 | [] => fun _ v => by rw [zl9, zop]; simp
 | y :: ys => fun h v => by
  rw [zl9, zop, List.mem_append, Bool.or_eq_true, zmo y (h y (List.mem_cons_self ..)) v, zjp ys (fun z hz => h z (List.mem_cons_of_mem _ hz)) v]
end
mutual
theorem zrd {n : Int} : ∀ x : Ex, nds n x = 0 → ∀ v ∈ zpm x, 0 ≤ v ∧ v < n
 | .nd op ix args => fun h v hv => by
  obtain ⟨h1, h2⟩ := zgv h
  rw [zpm, List.mem_append] at hv
  rcases hv with hv | hv
  ·split at hv
   ·rename_i ho
    obtain rfl := List.mem_singleton.1 hv
    have hk := zgw h1
    have hm := hk.2.2.2.2.2
    unfold zbb at hm
    rw [if_neg (by omega), if_pos ho] at hm
    exact ⟨hk.2.2.2.2.1, by omega⟩
   ·cases hv
  ·exact zo2 args h2 v hv
theorem zo2 {n : Int} : ∀ l : List Ex, (∀ y ∈ l, nds n y = 0) → ∀ v ∈ zl9 l, 0 ≤ v ∧ v < n
 | [] => fun _ v hv => by rw [zl9] at hv; cases hv
 | y :: ys => fun h v hv => by
  rw [zl9, List.mem_append] at hv
  rcases hv with hv | hv
  ·exact zrd y (h y (List.mem_cons_self ..)) v hv
  ·exact zo2 ys (fun z hz => h z (List.mem_cons_of_mem _ hz)) v hv
end
theorem vars_eq {x : Ex} {n : Nat} (h : nds (n : Nat) x = 0) : varL x = zjf x n := by
 unfold varL
 rw [cps_eq]
 refine asc_eq (cpt_asc ?_) ?_ fun v => ?_
 ·have := List.pairwise_mergeSort (le := fun x y : Int => decide (x ≤ y)) (fun a b c h1 h2 => by rw [decide_eq_true_eq] at *; omega) (fun a b => by rw [Bool.or_eq_true, decide_eq_true_eq, decide_eq_true_eq]; omega) (zpm x)
  exact this.imp fun h => of_decide_eq_true h
 ·unfold zjf
  rw [List.pairwise_map]
  refine List.Pairwise.imp (R := fun a b : Nat => a < b) (fun h => by omega) (List.Pairwise.filter _ List.pairwise_lt_range)
 ·rw [cpt_mem]
  unfold srt
  rw [List.mem_mergeSort]
  unfold zjf
  rw [List.mem_map]
  constructor
  ·intro hv
   obtain ⟨b1, b2⟩ := zrd x h v hv
   obtain ⟨u, rfl⟩ := Int.eq_ofNat_of_zero_le b1
   exact ⟨u, List.mem_filter.2 ⟨List.mem_range.2 (by omega), (zmo x h _).1 hv⟩, rfl⟩
  ·rintro ⟨u, hu, rfl⟩
   exact (zmo x h _).2 (List.mem_filter.1 hu).2
theorem zma (x : Ex) (n : Int) : varsP x n = znk x n := by
 unfold varsP znk
 by_cases h : zbi x n = 0
 ·rw [if_pos h, if_pos h]
  have hn : 0 ≤ n := by
   unfold zbi at h
   split at h <;> omega
  obtain ⟨m, rfl⟩ := Int.eq_ofNat_of_zero_le hn
  rw [vars_eq (zso h), Int.toNat_natCast]
 ·rw [if_neg h, if_neg h]
end Go.Proofs.Ytmnkjofaodbokaa
namespace Go.Proofs.Ytmnkjofaodbokaa
open Go Go.Am
-- pneumatic/pneumaticlaw05.BoolexpChecks
def ic8 : IC := .seq (.region [⟨(some 2), .box (.t 0), none⟩,
  ⟨(some 4), .mov (.c (.bool false)), none⟩] none)
 (.seq (.seq (.region [⟨(some 15), .load (some 3) (.t 2), none⟩,
  ⟨(some 16), .bslice 3 1 [.int .i64 0, .int .i64 0, .nils] [(0, 3, (.t 15))], none⟩,
  ⟨(some 17), .call (.c (.fn 17 [] [])) [(.t 16)], none⟩,
  ⟨(some 18), .un .not (.t 17), none⟩] none)
 (.cond (.t 18) (.seq (.region [⟨(some 19), .call (.c (.fn 13 [] [])) [], none⟩,
  ⟨(some 4), .mov (.t 19), none⟩] none)
 (.ret))
 (.skip)))
 (.seq (.region [⟨(some 21), .load (some 3) (.t 2), none⟩,
  ⟨(some 22), .call (.c (.fn 27 [] [])) [(.t 21)], none⟩,
  ⟨(some 20), .mov (.t 22), none⟩,
  ⟨(some 23), .extract (.t 20) 0, none⟩,
  ⟨(some 24), .extract (.t 20) 1, none⟩,
  ⟨(some 25), .extract (.t 20) 2, none⟩,
  ⟨(some 5), .mov (.t 23), none⟩,
  ⟨(some 6), .mov (.t 24), none⟩,
  ⟨(some 7), .mov (.t 25), none⟩] none)
 (.seq (.region [⟨(some 27), .load (some 3) (.t 2), none⟩,
  ⟨(some 28), .call (.c (.fn 30 [] [])) [(.t 27)], none⟩,
  ⟨(some 26), .mov (.t 28), none⟩,
  ⟨(some 29), .extract (.t 26) 0, none⟩,
  ⟨(some 30), .extract (.t 26) 1, none⟩,
  ⟨(some 31), .extract (.t 26) 2, none⟩,
  ⟨(some 8), .mov (.t 29), none⟩,
  ⟨(some 9), .mov (.t 30), none⟩,
  ⟨(some 10), .mov (.t 31), none⟩] none)
 (.seq (.region [⟨(some 33), .load (some 3) (.t 2), none⟩,
  ⟨(some 34), .mov (.t 1), none⟩,
  ⟨(some 35), .call (.c (.fn 28 [] [])) [(.t 33), (.t 34)], none⟩,
  ⟨(some 32), .mov (.t 35), none⟩,
  ⟨(some 36), .extract (.t 32) 0, none⟩,
  ⟨(some 37), .extract (.t 32) 1, none⟩,
  ⟨(some 11), .mov (.t 36), none⟩,
  ⟨(some 12), .mov (.t 37), none⟩] none)
 (.seq (.region [⟨(some 39), .load (some 3) (.t 2), none⟩,
  ⟨(some 40), .mov (.t 1), none⟩,
  ⟨(some 41), .call (.c (.fn 31 [] [])) [(.t 39), (.t 40)], none⟩,
  ⟨(some 38), .mov (.t 41), none⟩,
  ⟨(some 42), .extract (.t 38) 0, none⟩,
  ⟨(some 43), .extract (.t 38) 1, none⟩,
  ⟨(some 13), .mov (.t 42), none⟩,
  ⟨(some 14), .mov (.t 43), none⟩] none)
 (.seq (.region [⟨(some 44), .call (.c (.fn 13 [] [])) [], none⟩,
  ⟨(some 45), .mov (.t 44), none⟩,
  ⟨(some 46), .load (some 3) (.t 2), some (45, true)⟩,
  ⟨(some 47), .mov (.t 1), some (45, true)⟩,
  ⟨(some 48), .call (.c (.fn 32 [] [])) [(.t 46), (.t 47)], some (45, true)⟩,
  ⟨(some 49), .load (some 3) (.t 2), some (45, true)⟩,
  ⟨(some 50), .mov (.t 1), some (45, true)⟩,
  ⟨(some 51), .call (.c (.fn 33 [] [])) [(.t 49), (.t 50)], some (45, true)⟩,
  ⟨(some 52), .bin .eql (.t 48) (.t 51), some (45, true)⟩,
  ⟨(some 53), .pick (.t 45) (.t 52) (.c (.bool false)), none⟩,
  ⟨(some 54), .mov (.t 53), none⟩,
  ⟨(some 55), .mov (.t 5), some (54, true)⟩,
  ⟨(some 56), .mov (.t 8), some (54, true)⟩,
  ⟨(some 57), .bin .eql (.t 55) (.t 56), some (54, true)⟩,
  ⟨(some 58), .pick (.t 54) (.t 57) (.c (.bool false)), none⟩,
  ⟨(some 59), .mov (.t 58), none⟩,
  ⟨(some 60), .mov (.t 6), some (59, true)⟩,
  ⟨(some 61), .mov (.t 9), some (59, true)⟩,
  ⟨(some 62), .bin .eql (.t 60) (.t 61), some (59, true)⟩,
  ⟨(some 63), .pick (.t 59) (.t 62) (.c (.bool false)), none⟩,
  ⟨(some 64), .mov (.t 63), none⟩,
  ⟨(some 65), .mov (.t 7), some (64, true)⟩,
  ⟨(some 66), .mov (.t 10), some (64, true)⟩,
  ⟨(some 67), .bin .eql (.t 65) (.t 66), some (64, true)⟩,
  ⟨(some 68), .pick (.t 64) (.t 67) (.c (.bool false)), none⟩,
  ⟨(some 69), .mov (.t 68), none⟩,
  ⟨(some 70), .mov (.t 11), some (69, true)⟩,
  ⟨(some 71), .mov (.t 13), some (69, true)⟩,
  ⟨(some 72), .call (.c (.fn 34 [] [])) [(.t 70), (.t 71)], some (69, true)⟩,
  ⟨(some 73), .pick (.t 69) (.t 72) (.c (.bool false)), none⟩,
  ⟨(some 74), .mov (.t 73), none⟩,
  ⟨(some 75), .mov (.t 12), some (74, true)⟩,
  ⟨(some 76), .mov (.t 14), some (74, true)⟩,
  ⟨(some 77), .bin .eql (.t 75) (.t 76), some (74, true)⟩,
  ⟨(some 78), .pick (.t 74) (.t 77) (.c (.bool false)), none⟩,
  ⟨(some 4), .mov (.t 78), none⟩] (some [[], [0, 0], [1], [1], [2, 3, 1, 1], [1], [1], [5, 6, 4, 1], [4, 7, 1], [1, 8], [9, 7], [10], [10], [11, 12, 10], [10, 13], [14, 10], [15], [15], [16, 17, 15], [15, 18], [19, 15], [20], [20], [21, 22, 20], [20, 23], [24, 20], [25], [25], [26, 27, 25, 25], [25, 28], [29, 28], [30], [30], [31, 32, 30], [30, 33], [34, 30, 0, 1, 2, 3, 4, 5, 6, 7, 8, 9, 10, 11, 12, 13, 14, 15, 16, 17, 18, 19, 20, 21, 22, 23, 24, 25, 26, 27, 28, 29, 30, 31, 32, 33, 34]]))
 (.ret)))))))
theorem fn8 : env0.fn 8 = some ⟨79, ic8, [.t 4]⟩ := by kernel_rfl
set_option maxRecDepth 100000 in
set_option maxHeartbeats 8000000 in
theorem law8 (x : Ex) (hs : Slim x) (n : Int) : PF Try.prog 8 [.agg (cX x), .int .i64 n] (.bool true) := by
 have p17 := few17 [x] (show (1 : Nat) < 9223372036854775807 by decide) (fun y hy => by obtain rfl := List.mem_singleton.1 hy; exact hs)
 rw [List.all_cons, List.all_nil, Bool.and_true] at p17
 have p27 := size27 x hs
 have p30 := size30 x hs
 have p28 := zii x hs n
 have p31 := znj x hs n
 have p32 := zjo x hs n
 have p33 := zmm x hs n
 rw [zdz] at p32
 rw [zma] at p28
 obtain ⟨a, b, c, hsv⟩ : ∃ a b c : Int, zq3 x = .tup [.int .i64 a, .int .i64 b, .int .i64 c] := by
  unfold zq3
  split
  ·exact ⟨_, _, _, rfl⟩
  ·exact ⟨_, _, _, rfl⟩
 obtain ⟨u, e2, hvv, hul⟩ : ∃ (u : List Int) (e2 : Int), znk x n = .tup [vsI u, .int .i64 e2] ∧ u.length ≤ 256 := by
  unfold znk
  split
  ·rename_i h
   have hn : n ≤ 256 := by
    unfold zbi at h
    split at h <;> omega
   have := zks x n.toNat
   exact ⟨_, _, rfl, by omega⟩
  ·exact ⟨[], _, rfl, by decide⟩
 rw [hsv] at p27 p30
 rw [hvv] at p28 p31
 have p34 := equal34 u (by omega)
 generalize zky x = fx at *
 generalize zbi x n = e at *
 obtain ⟨op, ix, args⟩ := x
 refine zav env0_ok fn8 [(0, .agg (cX (.nd op ix args))), (1, .int .i64 n)] (by show 2 ≤ 79; decide) rfl fun w0 N0 => ?_
 unfold ic8
 refine za6 (za0 rfl (zc5 rfl rfl (za3 rfl (za4 (za5 ?_)))))
 refine zd3 [] [(0, 0, cX (.nd op ix args))] [(1, .int .i64 n), (2, .vptr (cX (.nd op ix args)))] rfl (.cons rfl rfl .nil) .nil (.cons rfl (.same rfl) (.cons rfl (.fptr rfl rfl) .nil)) ?_
 repeat (first | refine za6 ?_ | refine za0 rfl ?_ | refine zaj rfl rfl rfl rfl ?_ | refine zfp rfl rfl ?_)
 refine zai rfl rfl p17 (fun _ => rfl) ?_
 cases fx with
 | false =>
  repeat (first | refine za6 ?_ | refine za0 rfl ?_ | refine za4 ?_ | refine za5 ?_ | refine zbf rfl ?_ | refine zfz rfl rfl ?_)
  refine zai rfl rfl zf0 (fun h => Bool.noConfusion (show false = true from h)) ?_
  repeat (first | refine za4 ?_ | refine za5 ?_ | refine zad ?_ | refine za7 ?_ | refine za3 rfl ?_)
  exact zaa ⟨.inr rfl, _, rfl, rfl⟩
 | true =>
  refine zfz rfl rfl (za4 (za5 (zbp rfl (zae (za5 ?_)))))
  refine zd3 [] [] [(1, .int .i64 n), (2, .vptr (cX (.nd op ix args)))] rfl .nil .nil (.cons rfl (.same rfl) (.cons rfl (.same rfl) .nil)) ?_
  repeat (first | refine za6 ?_ | refine za0 rfl ?_ | refine zaj rfl rfl rfl rfl ?_)
  refine zai rfl rfl p27 (fun h => Bool.noConfusion (show false = true from h)) ?_
  repeat (first | refine za6 ?_ | refine za0 rfl ?_ | refine za4 ?_ | refine za5 ?_ | refine za3 rfl ?_ | refine zaj rfl rfl rfl rfl ?_ | refine zbx rfl rfl ?_)
  refine zai rfl rfl p30 (fun h => Bool.noConfusion (show false = true from h)) ?_
  repeat (first | refine za6 ?_ | refine za0 rfl ?_ | refine za4 ?_ | refine za5 ?_ | refine za3 rfl ?_ | refine zaj rfl rfl rfl rfl ?_ | refine zbx rfl rfl ?_)
  refine zai rfl rfl p28 (fun h => Bool.noConfusion (show false = true from h)) ?_
  repeat (first | refine za6 ?_ | refine za0 rfl ?_ | refine za4 ?_ | refine za5 ?_ | refine za3 rfl ?_ | refine zaj rfl rfl rfl rfl ?_ | refine zbx rfl rfl ?_)
  refine zai rfl rfl p31 (fun h => Bool.noConfusion (show false = true from h)) ?_
  repeat (first | refine za6 ?_ | refine za4 ?_ | refine za5 ?_ | refine za3 rfl ?_ | refine zbx rfl rfl ?_)
  refine zfb env0_ok [(13, [], .bool true), (32, [.agg (cX (.nd op ix args)), .int .i64 n], .int .i64 e), (33, [.agg (cX (.nd op ix args)), .int .i64 n], .int .i64 e), (34, [vsI u, vsI u], .bool true)] (fun x hx => by
   simp only [List.mem_cons, List.not_mem_nil, or_false] at hx
   rcases hx with rfl | rfl | rfl | rfl
   ·exact zf0
   ·exact p32
   ·exact p33
   ·exact p34) (fun f => Nat.beq f 13 || Nat.beq f 32 || Nat.beq f 33 || Nat.beq f 34) rfl rfl rfl ?_
  refine zai rfl rfl zb7 (fun h => Bool.noConfusion (show false = true from h)) ?_
  repeat (first | refine zc1 rfl ?_ | refine za3 rfl ?_ | refine zaj rfl rfl rfl rfl ?_)
  refine zai rfl rfl (zcf (by decide) zb7) (fun h => Bool.noConfusion (show false = true from h)) ?_
  repeat (first | refine zc1 rfl ?_ | refine za3 rfl ?_ | refine zaj rfl rfl rfl rfl ?_)
  refine zai rfl rfl (zcf (by decide) (zcf (by decide) zb7)) (fun h => Bool.noConfusion (show false = true from h)) ?_
  repeat (first | refine zc1 rfl ?_)
  refine zcv rfl rfl (by show some (AV.bool (e == e)) = _; rw [beq_self_eq_true]) ?_
  repeat (first | refine zc1 rfl ?_ | refine za3 rfl ?_ | refine zaf rfl rfl ?_)
  refine zcv rfl rfl (by show some (AV.bool (a == a)) = _; rw [beq_self_eq_true]) ?_
  repeat (first | refine zc1 rfl ?_ | refine za3 rfl ?_ | refine zaf rfl rfl ?_)
  refine zcv rfl rfl (by show some (AV.bool (b == b)) = _; rw [beq_self_eq_true]) ?_
  repeat (first | refine zc1 rfl ?_ | refine za3 rfl ?_ | refine zaf rfl rfl ?_)
  refine zcv rfl rfl (by show some (AV.bool (c == c)) = _; rw [beq_self_eq_true]) ?_
  repeat (first | refine zc1 rfl ?_ | refine za3 rfl ?_ | refine zaf rfl rfl ?_)
  refine zai rfl rfl (zcf (by decide) (zcf (by decide) (zcf (by decide) zb7))) (fun h => Bool.noConfusion (show false = true from h)) ?_
  repeat (first | refine zc1 rfl ?_ | refine za3 rfl ?_ | refine zaf rfl rfl ?_)
  refine zcv rfl rfl (by show some (AV.bool (e2 == e2)) = _; rw [beq_self_eq_true]) ?_
  repeat (first | refine za4 ?_ | refine za5 ?_ | refine zad ?_ | refine za3 rfl ?_ | refine zaf rfl rfl ?_)
  exact zaa ⟨.inr rfl, _, rfl, rfl⟩
end Go.Proofs.Ytmnkjofaodbokaa
namespace Go.Proofs.Ytmnkjofaodbokaa
open Go Go.Am Go.ChangeShapes Go.WideShapes Go.ChangeAt Go.RowKit
theorem own : ownKnob Try.prog.godebug = none := by kernel_rfl
theorem gok {W : World} : GOk (fun _ => True) W := fun _ hx => absurd hx List.not_mem_nil
theorem solid : zqg Try.prog Try.prog.types.size := solid_of (by kernel_rfl)
end Go.Proofs.Ytmnkjofaodbokaa
namespace Go.Proofs.Ytmnkjofaodbokaa
open Go Go.Am Go.ChangeShapes Go.WideShapes Go.ChangeAt Go.RowKit Go.Deep
section
variable {H : Type} {enc : TypeId × Value → H} {w : World} {base : Nat} {spare : Nat → Bool} {held : Bool}
theorem rdN : Rd enc Try.prog w base spare held 3 (cInt .i64) := zox Try.underlying3 (by kernel_rfl)
theorem rdT : Rd enc Try.prog w base spare held 24 fun d => cX (exD d) :=
 rd_tree Try.underlying24 rfl Try.underlying3 (by kernel_rfl) Try.underlying22 (by kernel_rfl) (by rw [show Try.prog.cellsOf 24 = 3 from by kernel_rfl]; decide) (by kernel_rfl)
theorem slimX {n : Nat} {cs : List Value} {d : DataW H} {p : List MemPlace} (h : DataW.trod enc Try.prog w base spare held n 24 cs = some (d, p)) : Slim (exD d) :=
 ztf Try.underlying24 rfl Try.underlying22 _ d (Nat.le_refl _) _ _ _ h
theorem rdB : Rd enc Try.prog w base spare held 37 (zhb cBool) :=
 rd_slice Try.underlying37 (by kernel_rfl) (by rw [show Try.prog.cellsOf 4 = 1 from by kernel_rfl]; decide) (rd_bool Try.underlying4 (by kernel_rfl))
end
end Go.Proofs.Ytmnkjofaodbokaa
namespace Go.Proofs.Ytmnkjofaodbokaa
open Go Go.Am
-- slices.Clone[[]bool,bool]
def ic35 : IC := .seq (.region [⟨(some 2), .mov (.c (.nils)), none⟩] none)
 (.seq (.seq (.region [⟨(some 3), .mov (.t 0), none⟩,
  ⟨(some 4), .nilq false (.t 3), none⟩] none)
 (.cond (.t 4) (.seq (.region [⟨(some 2), .mov (.c (.nils)), none⟩] none)
 (.ret))
 (.skip)))
 (.seq (.region [⟨(some 5), .bslice 1 0 [] [], none⟩,
  ⟨(some 6), .mov (.t 0), none⟩,
  ⟨(some 7), .append 1 1 [.bool false] (.t 5) (.t 6), none⟩,
  ⟨(some 2), .mov (.t 7), none⟩] none)
 (.ret)))
theorem fn35 : env0.fn 35 = some ⟨8, ic35, [.t 2]⟩ := by kernel_rfl
theorem znl (l : List Bool) : (l.map AV.bool) = (l.map fun b => ([.bool b] : List AV)).flatten := by
 induction l with
 | nil => rfl
 | cons b l ih => rw [List.map_cons, List.map_cons, List.flatten_cons, ih]; rfl
theorem ztr {l : List Bool} : ∀ x ∈ (l.map fun b => ([.bool b] : List AV)), x.length = 1 := fun x hx => by
 obtain ⟨b, _, rfl⟩ := List.mem_map.1 hx; rfl
theorem ztq : ∀ l : List Bool, (l.map AV.bool).all AV.isCell = true
 | [] => rfl
 | b :: l => by rw [List.map_cons, List.all_cons, ztq l]; rfl
theorem clone35t {w0 : World} {N0 : Nat} (c : List Bool) (h0 : c ≠ []) (hl : c.length ≤ 1000000) (H : HS) : FT Try.prog w0 N0 35 [vsB c] H fun v H' => v = .ms (H.next + 1) (H.clk + 1) 1 0 c.length none ∧ H' = ⟨(H.next + 1, H.clk + 1, .cells (c.map AV.bool)) :: (H.next, H.clk, .cells []) :: H.heap, H.next + 1 + 1, H.clk + 1 + 1⟩ := by
 obtain ⟨x, d, rfl⟩ := List.exists_cons_of_ne_nil h0
 have hcl : ((x :: d).map fun b => ([.bool b] : List AV)).length = (x :: d).length := List.length_map ..
 refine zg0 env0_ok fn35 [(0, vsB (x :: d))] (by show 1 ≤ 8; decide) rfl ?_
 unfold ic35
 refine za6 (za0 rfl (za3 rfl (za4 (za5 (za6 (za6 (za0 rfl (za3 rfl ?_))))))))
 refine zew (v := .bool false) (by rfl) ?_
 repeat (first | refine za6 ?_ | refine za0 rfl ?_ | refine za4 ?_ | refine za5 ?_ | refine zae ?_ | refine zbp rfl ?_ | refine za3 rfl ?_ | refine zfp rfl rfl ?_)
 refine zlt ((x :: d).map fun b => ([.bool b] : List AV)) rfl rfl (elems_vs ztr) (by rw [hcl]; exact Nat.succ_ne_zero _) (by rw [← znl]; exact ztq _) (by decide) zat (by rw [hcl]; omega) ?_
 repeat (first | refine za4 ?_ | refine za5 ?_ | refine zad ?_ | refine za3 rfl ?_)
 exact zaa ⟨.inr rfl, _, rfl, by rw [hcl], by rw [← znl]; rfl⟩
mutual
theorem zof {v w : List Bool} {n : Int} (hvw : ∀ i : Nat, v.getD i false = w.getD i false ∨ True) : ∀ x : Ex, nds n x = 0 → (∀ i : Nat, zin (i : Nat) x = true → v.getD i false = w.getD i false) → zbw v x = zbw w x
 | .nd op ix args => fun h ho => by
  obtain ⟨h1, h2⟩ := zgv h
  rw [zbw, zbw]
  by_cases o0 : op = 0
  ·rw [if_pos o0, if_pos o0]
  rw [if_neg o0, if_neg o0]
  by_cases o1 : op = 1
  ·rw [if_pos o1, if_pos o1]
   have hk := zgw h1
   refine ho ix.toNat ?_
   rw [zin, if_pos o1, decide_eq_true_eq]
   have := hk.2.2.2.2.1
   omega
  ·rw [if_neg o1, if_neg o1]
   have hl : zdn v args = zdn w args := zll hvw args h2 fun i hi => ho i (by rw [zin, if_neg o1]; exact hi)
   rw [hl]
theorem zll {v w : List Bool} {n : Int} (hvw : ∀ i : Nat, v.getD i false = w.getD i false ∨ True) : ∀ l : List Ex, (∀ y ∈ l, nds n y = 0) → (∀ i : Nat, zop (i : Nat) l = true → v.getD i false = w.getD i false) → zdn v l = zdn w l
 | [] => fun _ _ => by rw [zdn, zdn]
 | y :: ys => fun h ho => by
  rw [zdn, zdn, zof hvw y (h y (List.mem_cons_self ..)) fun i hi => ho i (by rw [zop, hi]; rfl), zll hvw ys (fun z hz => h z (List.mem_cons_of_mem _ hz)) fun i hi => ho i (by rw [zop, hi, Bool.or_true])]
end
theorem rem_nat (z : Int) (h0 : 0 ≤ z) {m : Nat} (hm : m ≠ 0) : Am.binOp .rem (.int .i64 z) (.int .i64 (m : Nat)) = some (.int .i64 ((z.toNat % m : Nat) : Int)) := by
 show (if ((m : Nat) : Int) = 0 then none else some (AV.int .i64 (Int.tmod z (m : Nat)))) = _
 rw [if_neg (by omega)]
 obtain ⟨u, rfl⟩ := Int.eq_ofNat_of_zero_le h0
 rfl
-- pneumatic/pneumaticlaw05.BoolexpIgnores
def ic9 : IC := .seq (.region [⟨(some 3), .box (.t 0), none⟩,
  ⟨(some 6), .mov (.c (.bool false)), none⟩] none)
 (.seq (.seq (.region [⟨(some 15), .mov (.t 1), none⟩,
  ⟨(some 16), .len false (.t 15), none⟩,
  ⟨(some 17), .bin .eql (.t 16) (.c (.int .i64 0)), none⟩,
  ⟨(some 18), .mov (.t 17), none⟩,
  ⟨(some 19), .mov (.t 1), some (18, false)⟩,
  ⟨(some 20), .len false (.t 19), some (18, false)⟩,
  ⟨(some 21), .bin .gtr (.t 20) (.c (.int .i64 20)), some (18, false)⟩,
  ⟨(some 22), .pick (.t 18) (.c (.bool true)) (.t 21), none⟩,
  ⟨(some 23), .mov (.t 22), none⟩,
  ⟨(some 24), .load (some 3) (.t 3), some (23, false)⟩,
  ⟨(some 25), .mov (.t 1), some (23, false)⟩,
  ⟨(some 26), .len false (.t 25), some (23, false)⟩,
  ⟨(some 27), .call (.c (.fn 11 [] [])) [(.t 24), (.t 26)], some (23, false)⟩,
  ⟨(some 28), .un .not (.t 27), some (23, false)⟩,
  ⟨(some 29), .pick (.t 23) (.c (.bool true)) (.t 28), none⟩] none)
 (.cond (.t 29) (.seq (.region [⟨(some 30), .call (.c (.fn 13 [] [])) [], none⟩,
  ⟨(some 6), .mov (.t 30), none⟩] none)
 (.ret))
 (.skip)))
 (.seq (.region [⟨(some 31), .mov (.t 2), none⟩,
  ⟨(some 32), .conv .i64 (.t 31), none⟩,
  ⟨(some 33), .mov (.t 1), none⟩,
  ⟨(some 34), .len false (.t 33), none⟩,
  ⟨(some 35), .bin .rem (.t 32) (.t 34), none⟩,
  ⟨(some 7), .mov (.t 35), none⟩] none)
 (.seq (.region [⟨(some 37), .load (some 3) (.t 3), none⟩,
  ⟨(some 38), .mov (.t 1), none⟩,
  ⟨(some 39), .len false (.t 38), none⟩,
  ⟨(some 40), .call (.c (.fn 28 [] [])) [(.t 37), (.t 39)], none⟩,
  ⟨(some 36), .mov (.t 40), none⟩,
  ⟨(some 41), .extract (.t 36) 0, none⟩,
  ⟨(some 42), .extract (.t 36) 1, none⟩,
  ⟨(some 8), .mov (.t 41), none⟩,
  ⟨(some 9), .mov (.t 42), none⟩] none)
 (.seq (.region [⟨(some 43), .mov (.t 1), none⟩,
  ⟨(some 44), .call (.c (.fn 35 [] [])) [(.t 43)], none⟩,
  ⟨(some 10), .mov (.t 44), none⟩] none)
 (.seq (.region [⟨(some 45), .mov (.t 10), none⟩,
  ⟨(some 46), .mov (.t 7), none⟩,
  ⟨(some 47), .mov (.t 10), none⟩,
  ⟨(some 48), .mov (.t 7), none⟩,
  ⟨(some 49), .idxs 1 (.t 47) (.t 48), none⟩,
  ⟨(some 50), .load none (.t 49), none⟩,
  ⟨(some 51), .un .not (.t 50), none⟩,
  ⟨(some 52), .idxs 1 (.t 45) (.t 46), none⟩,
  ⟨none, .store 1 (.t 52) (.t 51), none⟩] none)
 (.seq (.region [⟨(some 54), .load (some 3) (.t 3), none⟩,
  ⟨(some 55), .mov (.t 1), none⟩,
  ⟨(some 56), .call (.c (.fn 18 [] [])) [(.t 54), (.t 55)], none⟩,
  ⟨(some 53), .mov (.t 56), none⟩,
  ⟨(some 57), .extract (.t 53) 0, none⟩,
  ⟨(some 58), .extract (.t 53) 1, none⟩,
  ⟨(some 11), .mov (.t 57), none⟩,
  ⟨(some 12), .mov (.t 58), none⟩] none)
 (.seq (.region [⟨(some 60), .load (some 3) (.t 3), none⟩,
  ⟨(some 61), .mov (.t 10), none⟩,
  ⟨(some 62), .call (.c (.fn 18 [] [])) [(.t 60), (.t 61)], none⟩,
  ⟨(some 59), .mov (.t 62), none⟩,
  ⟨(some 63), .extract (.t 59) 0, none⟩,
  ⟨(some 64), .extract (.t 59) 1, none⟩,
  ⟨(some 13), .mov (.t 63), none⟩,
  ⟨(some 14), .mov (.t 64), none⟩] none)
 (.seq (.region [⟨(some 65), .mov (.t 9), none⟩,
  ⟨(some 66), .mov (.t 12), none⟩,
  ⟨(some 67), .bin .add (.t 65) (.t 66), none⟩,
  ⟨(some 68), .mov (.t 14), none⟩,
  ⟨(some 69), .bin .add (.t 67) (.t 68), none⟩,
  ⟨(some 70), .bin .eql (.t 69) (.c (.int .i64 0)), none⟩,
  ⟨(some 71), .mov (.t 70), none⟩,
  ⟨(some 72), .mov (.t 11), some (71, true)⟩,
  ⟨(some 73), .mov (.t 13), some (71, true)⟩,
  ⟨(some 74), .eqb false (.t 72) (.t 73), some (71, true)⟩,
  ⟨(some 75), .mov (.t 74), some (71, true)⟩,
  ⟨(some 76), .mov (.t 8), some (75, false)⟩,
  ⟨(some 77), .mov (.t 7), some (75, false)⟩,
  ⟨(some 78), .call (.c (.fn 29 [] [])) [(.t 76), (.t 77)], some (75, false)⟩,
  ⟨(some 79), .pick (.t 75) (.c (.bool true)) (.t 78), some (71, true)⟩,
  ⟨(some 80), .pick (.t 71) (.t 79) (.c (.bool false)), none⟩,
  ⟨(some 81), .mov (.t 80), none⟩,
  ⟨(some 82), .call (.c (.fn 13 [] [])) [], some (81, true)⟩,
  ⟨(some 83), .pick (.t 81) (.t 82) (.c (.bool false)), none⟩,
  ⟨(some 6), .mov (.t 83), none⟩] none)
 (.ret)))))))))
theorem fn9 : env0.fn 9 = some ⟨84, ic9, [.t 6]⟩ := by kernel_rfl
set_option maxRecDepth 100000 in
set_option maxHeartbeats 8000000 in
theorem law9 (x : Ex) (hs : Slim x) (v : List Bool) (a : Int) (ha : 0 ≤ a ∧ a ≤ 255) : PF Try.prog 9 [.agg (cX x), vsB v, .int .u8 a] (.bool true) := by
 have p11 := right11 x hs (v.length : Nat)
 have p28 := zii x hs (v.length : Nat)
 have p18 := fun w : List Bool => eval81 x hs w
 have hvl : (v.map fun b => ([.bool b] : List AV)).length = v.length := List.length_map ..
 obtain ⟨op, ix, args⟩ := x
 refine zav env0_ok fn9 [(0, .agg (cX (.nd op ix args))), (1, vsB v), (2, .int .u8 a)] (by show 3 ≤ 84; decide) rfl fun w0 N0 => ?_
 unfold ic9
 refine za6 (za0 rfl (zc5 rfl rfl (za3 rfl (za4 (za5 ?_)))))
 refine zd3 [] [(0, 0, cX (.nd op ix args))] [(1, vsB v), (2, .int .u8 a), (3, .vptr (cX (.nd op ix args)))] rfl (.cons rfl rfl .nil) .nil (.cons rfl (.same rfl) (.cons rfl (.same rfl) (.cons rfl (.fptr rfl rfl) .nil))) ?_
 repeat (first | refine za6 ?_ | refine za0 rfl ?_ | refine za3 rfl ?_ | refine zc8 rfl rfl ?_)
 refine zan rfl rfl rfl (fun h1 => ?_) fun h1 => ?_
 ·repeat (first | refine za6 ?_ | refine za0 rfl ?_ | refine za4 ?_ | refine za5 ?_ | refine zbf rfl ?_ | refine ze9 rfl rfl ?_ | refine za3 rfl ?_ | refine zaf rfl rfl ?_)
  refine zai rfl rfl zf0 (fun h => Bool.noConfusion (show false = true from h)) ?_
  repeat (first | refine za4 ?_ | refine za5 ?_ | refine zad ?_ | refine za7 ?_ | refine za3 rfl ?_)
  exact zaa ⟨.inr rfl, _, rfl, rfl⟩
 have h1 : v.length ≠ 0 := by
  have h1 : ¬ (((v.map fun b => ([.bool b] : List AV)).length : Nat) : Int) = 0 := by simpa using h1
  rw [hvl] at h1
  omega
 repeat (first | refine zc1 rfl ?_ | refine za3 rfl ?_ | refine zc8 rfl rfl ?_)
 refine zan rfl rfl rfl (fun h2 => ?_) fun h2 => ?_
 ·repeat (first | refine za6 ?_ | refine za0 rfl ?_ | refine za4 ?_ | refine za5 ?_ | refine zbf rfl ?_ | refine ze9 rfl rfl ?_ | refine za3 rfl ?_ | refine zaf rfl rfl ?_ | refine zac rfl rfl ?_)
  refine zai rfl rfl zf0 (fun h => Bool.noConfusion (show false = true from h)) ?_
  repeat (first | refine za4 ?_ | refine za5 ?_ | refine zad ?_ | refine za7 ?_ | refine za3 rfl ?_)
  exact zaa ⟨.inr rfl, _, rfl, rfl⟩
 have h2 : v.length ≤ 20 := by
  have h2 : ¬ (((v.map fun b => ([.bool b] : List AV)).length : Nat) : Int) > 20 := of_decide_eq_false h2
  rw [hvl] at h2
  omega
 repeat (first | refine zc1 rfl ?_ | refine za3 rfl ?_ | refine zaj rfl rfl rfl rfl ?_ | refine zac rfl rfl ?_ | refine zc8 rfl rfl ?_)
 refine zai rfl (by rw [hvl]; rfl) p11 (fun h => Bool.noConfusion (show false = true from h)) ?_
 cases hr : rgtX (.nd op ix args) (v.length : Nat) with
 | false =>
  repeat (first | refine za6 ?_ | refine za0 rfl ?_ | refine za4 ?_ | refine za5 ?_ | refine zbf rfl ?_ | refine zc1 rfl ?_ | refine zac rfl rfl ?_ | refine zfz rfl rfl ?_)
  refine zai rfl rfl zf0 (fun h => Bool.noConfusion (show false = true from h)) ?_
  repeat (first | refine za4 ?_ | refine za5 ?_ | refine zad ?_ | refine za7 ?_ | refine za3 rfl ?_)
  exact zaa ⟨.inr rfl, _, rfl, rfl⟩
 | true =>
 have hck : zbi (.nd op ix args) (v.length : Nat) = 0 := by
  unfold rgtX at hr
  exact of_decide_eq_true (Bool.and_eq_true_iff.1 hr).2
 have hnd := zso hck
 rw [zma] at p28
 unfold znk at p28
 rw [if_pos hck, Int.toNat_natCast] at p28
 have hk := Nat.mod_lt a.toNat (Nat.pos_of_ne_zero h1)
 have r1 := rem_nat a ha.1 h1
 have w1 : IntKind.wrap .i64 a = a := wrap_in _ (by omega) (by omega)
 generalize a.toNat % v.length = kk at *
 repeat (first | refine za6 ?_ | refine za0 rfl ?_ | refine za4 ?_ | refine za5 ?_ | refine zae ?_ | refine zbp rfl ?_ | refine zc1 rfl ?_ | refine za3 rfl ?_ | refine zac rfl rfl ?_ | refine zfz rfl rfl ?_ | refine zc8 rfl rfl ?_ | refine o_conv rfl rfl ?_)
 rw [w1]
 refine zd5 (op := .rem) rfl (by rw [hvl]; rfl) r1 ?_
 repeat (first | refine za6 ?_ | refine za0 rfl ?_ | refine za4 ?_ | refine za5 ?_ | refine za3 rfl ?_ | refine zaj rfl rfl rfl rfl ?_ | refine zc8 rfl rfl ?_)
 refine zai rfl (by rw [hvl]; rfl) p28 (fun h => Bool.noConfusion (show false = true from h)) ?_
 repeat (first | refine za6 ?_ | refine za0 rfl ?_ | refine za4 ?_ | refine za5 ?_ | refine za3 rfl ?_ | refine zbx rfl rfl ?_)
 refine o_ct _ rfl rfl (zem (clone35t v (fun e => h1 (by rw [e]; rfl)) (by omega) ⟨_, _, _⟩)) (fun _ _ _ m hm => absurd hm List.not_mem_nil) fun r H hF => ?_
 obtain ⟨rfl, rfl⟩ := hF
 refine za3 rfl (za4 (za5 ?_))
 refine zd3 [(some (1, 2), v.map AV.bool)] [] [(1, vsB v), (3, .vptr (cX (.nd op ix args))), (7, .int .i64 (kk : Nat)), (8, vsI (zjf (.nd op ix args) v.length)), (9, .int .i64 0), (10, .ms 0 0 1 0 v.length none)] rfl .nil (.cons rfl (.keep (zf2 v)) .nil) (.cons rfl (.same rfl) (.cons rfl (.same rfl) (.cons rfl (.same rfl) (.cons rfl (.same rfl) (.cons rfl (.same rfl) (.cons rfl (.ms rfl) .nil)))))) ?_
 repeat (first | refine za6 ?_ | refine za0 rfl ?_ | refine za3 rfl ?_ | refine zss rfl rfl (by omega) (by omega) ?_)
 have ez : 0 + (((kk : Nat) : Int)).toNat * 1 = kk := by simp
 rw [ez]
 have hg : (v.map AV.bool)[kk]? = some (.bool (v.getD kk false)) := by
  rw [List.getElem?_map, List.getD_eq_getElem?_getD, List.getElem?_eq_getElem hk]
  rfl
 refine o_loadg (id := 0) (sp := 0) (off := kk) rfl rfl (Nat.succ_pos 0) hg ?_
 repeat (first | refine zfz rfl rfl ?_ | refine zss rfl rfl (by omega) (by omega) ?_)
 rw [ez]
 refine o_storeg (id := 0) (sp := 0) (off := kk) rfl rfl rfl rfl (by rw [List.length_map]; exact hk) rfl ?_
 refine za4 (za5 ?_)
 have hset : (v.map AV.bool).set kk (.bool (!v.getD kk false)) = (v.set kk (!v.getD kk false)).map AV.bool := (List.map_set ..).symm
 rw [hset]
 have hwl : (v.set kk (!v.getD kk false)).length = v.length := List.length_set ..
 have hirr : zin (kk : Nat) (.nd op ix args) = false → zbw v (.nd op ix args) = zbw (v.set kk (!v.getD kk false)) (.nd op ix args) := fun ho => zof (n := (v.length : Nat)) (fun _ => .inr trivial) _ hnd fun i hi => by
  have hne : kk ≠ i := fun e => by subst e; rw [ho] at hi; cases hi
  rw [List.getD_eq_getElem?_getD, List.getD_eq_getElem?_getD, List.getElem?_set_ne hne]
 have pv := p18 v
 have pw := p18 (v.set kk (!v.getD kk false))
 unfold evalV at pv pw
 rw [hwl, if_pos hck] at pw
 rw [if_pos hck] at pv
 generalize v.set kk (!v.getD kk false) = w at *
 refine zd3 [] [(0, 0, w.map AV.bool)] [(1, vsB v), (3, .vptr (cX (.nd op ix args))), (7, .int .i64 (kk : Nat)), (8, vsI (zjf (.nd op ix args) v.length)), (9, .int .i64 0), (10, vsB w)] rfl (.cons rfl (zf2 w) .nil) .nil (.cons rfl (.same rfl) (.cons rfl (.same rfl) (.cons rfl (.same rfl) (.cons rfl (.same rfl) (.cons rfl (.same rfl) (.cons rfl (.fms (cs := w.map AV.bool) (xs := w.map fun b => [.bool b]) rfl (by rw [List.length_map, hwl]) ztr ⟨[], by rw [List.append_nil, znl]; rfl⟩) .nil)))))) ?_
 have p29 := zpn (zjf (.nd op ix args) v.length) (kk : Nat) (by have := zks (.nd op ix args) v.length; omega)
 have hcon : (zjf (.nd op ix args) v.length).contains ((kk : Nat) : Int) = zin (kk : Nat) (.nd op ix args) := by
  rw [Bool.eq_iff_iff, List.contains_iff_mem]
  unfold zjf
  rw [List.mem_map]
  constructor
  ·rintro ⟨u, hu, e⟩
   rw [← Int.ofNat_inj.1 e]
   exact (List.mem_filter.1 hu).2
  ·exact fun h => ⟨kk, List.mem_filter.2 ⟨List.mem_range.2 hk, h⟩, rfl⟩
 rw [hcon] at p29
 generalize zjf (.nd op ix args) v.length = us at *
 generalize zbw v (.nd op ix args) = b1 at *
 generalize zbw w (.nd op ix args) = b2 at *
 generalize zin (kk : Nat) (.nd op ix args) = oc at *
 repeat (first | refine za6 ?_ | refine za0 rfl ?_ | refine za3 rfl ?_ | refine zaj rfl rfl rfl rfl ?_)
 refine zai rfl rfl pv (fun h => Bool.noConfusion (show false = true from h)) ?_
 repeat (first | refine za6 ?_ | refine za0 rfl ?_ | refine za4 ?_ | refine za5 ?_ | refine za3 rfl ?_ | refine zaj rfl rfl rfl rfl ?_ | refine zbx rfl rfl ?_)
 refine zai rfl rfl pw (fun h => Bool.noConfusion (show false = true from h)) ?_
 repeat (first | refine za6 ?_ | refine za0 rfl ?_ | refine za4 ?_ | refine za5 ?_ | refine zc1 rfl ?_ | refine za3 rfl ?_ | refine zbx rfl rfl ?_ | refine zd5 (op := .add) rfl rfl rfl ?_ | refine zcv rfl rfl rfl ?_)
 by_cases hb : b1 = b2
 ·refine zew (v := .bool true) (by show some (AV.bool (b1 == b2), _) = _; rw [hb, beq_self_eq_true]) ?_
  repeat (first | refine zc1 rfl ?_ | refine ze9 rfl rfl ?_ | refine za3 rfl ?_ | refine zaf rfl rfl ?_)
  refine zai rfl rfl zf0 (fun h => Bool.noConfusion (show false = true from h)) ?_
  repeat (first | refine za4 ?_ | refine za5 ?_ | refine zad ?_ | refine za3 rfl ?_ | refine zaf rfl rfl ?_)
  exact zaa ⟨.inr rfl, _, rfl, rfl⟩
 ·cases oc with
  | false => exact absurd (hirr rfl) hb
  | true =>
   refine zew (v := .bool false) (by show some (AV.bool (b1 == b2), _) = _; rw [beq_eq_false_iff_ne.2 hb]) ?_
   repeat (first | refine zc1 rfl ?_ | refine za3 rfl ?_)
   refine zai rfl rfl p29 (fun h => Bool.noConfusion (show false = true from h)) ?_
   repeat (first | refine zc1 rfl ?_ | refine za3 rfl ?_ | refine zaf rfl rfl ?_ | refine zac rfl rfl ?_)
   refine zai rfl rfl zf0 (fun h => Bool.noConfusion (show false = true from h)) ?_
   repeat (first | refine za4 ?_ | refine za5 ?_ | refine zad ?_ | refine za3 rfl ?_ | refine zaf rfl rfl ?_)
   exact zaa ⟨.inr rfl, _, rfl, rfl⟩
end Go.Proofs.Ytmnkjofaodbokaa
