/-
  THE READER: the next byte behind blanks.; THE READER: variables.; THE READER: several arguments with a sign between.; WHERE THE PARTS OF A TEXT LIE.; THE READER: conjunctions, disjunctions, single expressions.; THE READER: brackets, constants, variables.; SIMPLE FORMS: what they are, in plain Lean.; THE READER READS WHAT THE WRITER WRITES.
-/
import Derived.Test.YtmnkjofaodbokaaYX4
namespace Go.Proofs.Ytmnkjofaodbokaa
open Go Go.Am
structure Rdr (S : List UInt8) (nm : AV) (p j sj : Nat) (H0 : HS) (hp : List (Nat × Nat × AObj)) (nx : Nat) : Prop where
 obj : Am.look j hp = some (sj, .cells [.str S, nm, .int .i64 (p : Nat), .int .i64 0])
 keep : ∀ i, i < H0.next → i ≠ j → Am.look i hp = Am.look i H0.heap
 nx : H0.next ≤ nx
 jn : j < H0.next
section
variable {S : List UInt8} {nm : AV} {p p' j sj nx nx1 : Nat} {H0 : HS} {hp hp1 : List (Nat × Nat × AObj)} {ck : Nat}
theorem Rdr.jx (h : Rdr S nm p j sj H0 hp nx) : j < nx := Nat.lt_of_lt_of_le h.jn h.nx
theorem Rdr.self (h : Rdr S nm p j sj H0 hp nx) (ck : Nat) : Rdr S nm p j sj ⟨hp, nx, ck⟩ hp nx := ⟨h.obj, fun _ _ _ => rfl, Nat.le_refl _, h.jx⟩
theorem Rdr.trans (h : Rdr S nm p j sj H0 hp nx) (k : Rdr S nm p' j sj ⟨hp, nx, ck⟩ hp1 nx1) : Rdr S nm p' j sj H0 hp1 nx1 :=
 ⟨k.obj, fun i hi hj => (k.keep i (Nat.lt_of_lt_of_le hi h.nx) hj).trans (h.keep i hi hj), Nat.le_trans h.nx k.nx, h.jn⟩
theorem Rdr.at (h : Rdr S nm p j sj H0 hp nx) (q : Nat) : Rdr S nm q j sj H0 (zb6 j (sj, .cells [.str S, nm, .int .i64 (q : Nat), .int .i64 0]) hp) nx :=
 ⟨by rw [za1, if_pos rfl], fun i hi hj => by rw [za1, if_neg (fun e => hj e.symm)]; exact h.keep i hi hj, h.nx, h.jn⟩
theorem Rdr.fresh (h : Rdr S nm p j sj H0 hp nx) (ck : Nat) (x : AObj) : Rdr S nm p j sj H0 ((nx, ck, x) :: hp) (nx + 1) := by
 have h1 := h.jx
 have h2 := h.nx
 exact ⟨by rw [zaj, if_neg (by omega)]; exact h.obj, fun i hi hj => by rw [zaj, if_neg (by omega)]; exact h.keep i hi hj, by omega, h.jn⟩
theorem Rdr.put (h : Rdr S nm p j sj H0 hp nx) {i : Nat} (hi : H0.next ≤ i) (x : Nat × AObj) : Rdr S nm p j sj H0 (zb6 i x hp) nx := by
 have h1 := h.jn
 exact ⟨by rw [za1, if_neg (by omega)]; exact h.obj, fun k hk hj => by rw [za1, if_neg (by omega)]; exact h.keep k hk hj, h.nx, h.jn⟩
theorem Rdr.drop (h : Rdr S nm p j sj H0 hp nx) {i : Nat} (hi : H0.next ≤ i) : Rdr S nm p j sj H0 (zbj i hp) nx := by
 have h1 := h.jn
 exact ⟨by rw [zac, if_neg (by omega)]; exact h.obj, fun k hk hj => by rw [zac, if_neg (by omega)]; exact h.keep k hk hj, h.nx, h.jn⟩
end
structure Nx (S : List UInt8) (p p' : Nat) (c : UInt8) : Prop where
 le : p ≤ p'
 sp : ∀ i, p ≤ i → i < p' → S[i]? = some 32
 at_ : p' = S.length ∧ c = 0 ∨ S[p']? = some c ∧ c ≠ 32
 len : S.length < 1000000
theorem Nx.lp {S : List UInt8} {p p' : Nat} {c : UInt8} (h : Nx S p p' c) : p' ≤ S.length := by
 rcases h.at_ with ⟨e, _⟩ | ⟨e, _⟩
 ·omega
 ·have := (List.getElem?_eq_some_iff.1 e).1; omega
def b45_0 : IC := .seq (.seq (.region [⟨(some 3), .mov (.t 0), none⟩,
  ⟨(some 4), .nilchk (.t 3), none⟩,
  ⟨(some 5), .faddr 2 (.t 4), none⟩,
  ⟨(some 6), .load none (.t 5), none⟩,
  ⟨(some 7), .mov (.t 0), none⟩,
  ⟨(some 8), .nilchk (.t 7), none⟩,
  ⟨(some 9), .faddr 0 (.t 8), none⟩,
  ⟨(some 10), .load none (.t 9), none⟩,
  ⟨(some 11), .len true (.t 10), none⟩,
  ⟨(some 12), .bin .lss (.t 6) (.t 11), none⟩,
  ⟨(some 13), .mov (.t 12), none⟩,
  ⟨(some 14), .mov (.t 0), some (13, true)⟩,
  ⟨(some 15), .nilchk (.t 14), some (13, true)⟩,
  ⟨(some 16), .faddr 0 (.t 15), some (13, true)⟩,
  ⟨(some 17), .load none (.t 16), some (13, true)⟩,
  ⟨(some 18), .mov (.t 0), some (13, true)⟩,
  ⟨(some 19), .nilchk (.t 18), some (13, true)⟩,
  ⟨(some 20), .faddr 2 (.t 19), some (13, true)⟩,
  ⟨(some 21), .load none (.t 20), some (13, true)⟩,
  ⟨(some 22), .idxstr (.t 17) (.t 21), some (13, true)⟩,
  ⟨(some 23), .bin .eql (.t 22) (.c (.int .u8 32)), some (13, true)⟩,
  ⟨(some 24), .pick (.t 13) (.t 23) (.c (.bool false)), none⟩] (some [[], [0], [1], [2], [], [4], [5], [6], [7], [3, 8], [9], [10], [11, 10], [12, 10], [13, 10], [10], [15, 10], [16, 10], [17, 10], [14, 18, 10], [19, 10], [10, 20]]))
 (.cond (.t 24) (.skip)
 (.exit 0)))
 (.block 1 (.region [⟨(some 25), .mov (.t 0), none⟩,
  ⟨(some 26), .nilchk (.t 25), none⟩,
  ⟨(some 27), .faddr 2 (.t 26), none⟩,
  ⟨(some 28), .load none (.t 27), none⟩,
  ⟨(some 29), .bin .add (.t 28) (.c (.int .i64 1)), none⟩,
  ⟨(some 30), .nilchk (.t 25), none⟩,
  ⟨(some 31), .faddr 2 (.t 30), none⟩,
  ⟨none, .store 1 (.t 31) (.t 29), none⟩] none))
-- (*pneumatic/boolexp.reader).next
def ic45 : IC := .seq (.region [⟨(some 2), .mov (.c (.int .u8 0)), none⟩] none)
 (.seq (.block 0 (.loop b45_0))
 (.seq (.seq (.region [⟨(some 32), .mov (.t 0), none⟩,
  ⟨(some 33), .nilchk (.t 32), none⟩,
  ⟨(some 34), .faddr 3 (.t 33), none⟩,
  ⟨(some 35), .load none (.t 34), none⟩,
  ⟨(some 36), .bin .neq (.t 35) (.c (.int .i64 0)), none⟩,
  ⟨(some 37), .mov (.t 36), none⟩,
  ⟨(some 38), .mov (.t 0), some (37, false)⟩,
  ⟨(some 39), .nilchk (.t 38), some (37, false)⟩,
  ⟨(some 40), .faddr 2 (.t 39), some (37, false)⟩,
  ⟨(some 41), .load none (.t 40), some (37, false)⟩,
  ⟨(some 42), .mov (.t 0), some (37, false)⟩,
  ⟨(some 43), .nilchk (.t 42), some (37, false)⟩,
  ⟨(some 44), .faddr 0 (.t 43), some (37, false)⟩,
  ⟨(some 45), .load none (.t 44), some (37, false)⟩,
  ⟨(some 46), .len true (.t 45), some (37, false)⟩,
  ⟨(some 47), .bin .eql (.t 41) (.t 46), some (37, false)⟩,
  ⟨(some 48), .pick (.t 37) (.c (.bool true)) (.t 47), none⟩] (some [[], [0], [1], [2], [3], [4], [5], [6, 5], [7, 5], [8, 5], [5], [10, 5], [11, 5], [12, 5], [13, 5], [9, 14, 5], [5, 15]]))
 (.cond (.t 48) (.seq (.region [⟨(some 2), .mov (.c (.int .u8 0)), none⟩] none)
 (.ret))
 (.skip)))
 (.seq (.region [⟨(some 49), .mov (.t 0), none⟩,
  ⟨(some 50), .nilchk (.t 49), none⟩,
  ⟨(some 51), .faddr 0 (.t 50), none⟩,
  ⟨(some 52), .load none (.t 51), none⟩,
  ⟨(some 53), .mov (.t 0), none⟩,
  ⟨(some 54), .nilchk (.t 53), none⟩,
  ⟨(some 55), .faddr 2 (.t 54), none⟩,
  ⟨(some 56), .load none (.t 55), none⟩,
  ⟨(some 57), .idxstr (.t 52) (.t 56), none⟩,
  ⟨(some 2), .mov (.t 57), none⟩] (some [[], [0], [1], [2], [], [4], [5], [6], [3, 7], [8, 0, 1, 2, 3, 4, 5, 6, 7, 8]]))
 (.ret))))
theorem fn45 : env0.fn 45 = some ⟨58, ic45, [.t 2]⟩ := by kernel_rfl
set_option maxHeartbeats 2000000 in
theorem zjx {w0 : World} {N0 : Nat} {S : List UInt8} {nm : AV} {p p' j sj : Nat} {c : UInt8} {H0 H : HS} (hN : Nx S p p' c) (hR : Rdr S nm p j sj H0 H.heap H.next) : FT Try.prog w0 N0 45 [.mptr j sj 0] H fun v H' => v = .int .u8 c.toNat ∧ Rdr S nm p' j sj H0 H'.heap H'.next := by
 have hlp := hN.lp
 have hsl := hN.len
 refine zco env0_ok fn45 [(0, .mptr j sj 0)] (by show 1 ≤ 58; decide) rfl ?_
 obtain ⟨hp, nx, ck⟩ := H
 replace hR : Rdr S nm p j sj H0 hp nx := hR
 show Zm _ _ _ _ _ (st 58 _ hp nx ck) _ _
 unfold ic45
 repeat (first | refine za7 ?_ | refine za0 rfl ?_ | refine za4 ?_ | refine za3 ?_ | refine zai ?_ | refine za2 rfl ?_)
 refine zdr (fun mm S' => ∃ i hp nx ck, mm = p' - i ∧ p ≤ i ∧ i ≤ p' ∧ Rdr S nm i j sj H0 hp nx ∧ S' = st 58 [(0, .mptr j sj 0)] hp nx ck) (p' - p)
  (zal (.cons rfl .nil)) ⟨p, _, _, _, rfl, Nat.le_refl _, hN.le, hR, rfl⟩ ?_
 clear hR
 rintro mm S' ⟨i, hp, nx, ck, rfl, hpi, hip, hR, rfl⟩
 unfold b45_0
 repeat (first | refine za7 ?_ | refine za2 rfl ?_ | refine za8 rfl ?_ | refine zbr env0_ok rfl rfl rfl ?_ | refine zaq rfl ?_)
 refine zc3 (id := j) (sp := sj) (off := 0 + 2) rfl hR.obj hR.jx rfl ?_
 repeat (first | refine za2 rfl ?_ | refine za8 rfl ?_ | refine zaq rfl ?_)
 refine zc3 (id := j) (sp := sj) (off := 0 + 0) rfl hR.obj hR.jx rfl ?_
 repeat (first | refine zb7 rfl rfl ?_)
 -- behind the blanks
 have tail : ∀ (hp : List (Nat × Nat × AObj)) (nx ck : Nat), Rdr S nm p' j sj H0 hp nx → Zm Try.prog w0 N0 (some none) (tlD (tlD ic45)) (st 58 [(0, .mptr j sj 0)] hp nx ck) [] fun e S' => (e = .normal ∨ e = .ret) ∧ ∃ v, S'.leave.res [.t 2] = some v ∧ v = .int .u8 c.toNat ∧ Rdr S nm p' j sj H0 S'.leave.hs.heap S'.leave.hs.next := by
  clear hR
  intro hp nx ck hR
  show Zm _ _ _ _ (.seq _ _) _ _ _
  repeat (first | refine za7 ?_ | refine za2 rfl ?_ | refine za8 rfl ?_ | refine zbr env0_ok rfl rfl rfl ?_ | refine zaq rfl ?_)
  refine zc3 (id := j) (sp := sj) (off := 0 + 3) rfl hR.obj hR.jx rfl ?_
  repeat (first | refine zbz rfl ?_ | refine za2 rfl ?_ | refine za8 rfl ?_ | refine zav rfl rfl rfl ?_ | refine zaq rfl ?_)
  refine zc3 (id := j) (sp := sj) (off := 0 + 2) rfl hR.obj hR.jx rfl ?_
  repeat (first | refine zbz rfl ?_ | refine za2 rfl ?_ | refine za8 rfl ?_ | refine zaq rfl ?_)
  refine zc3 (id := j) (sp := sj) (off := 0 + 0) rfl hR.obj hR.jx rfl ?_
  repeat (first | refine zbz rfl ?_ | refine zb7 rfl rfl ?_)
  refine zar rfl rfl rfl (fun h => ?_) fun h => ?_
  ·have h : p' = S.length := by
    have h : ((p' : Nat) : Int) = ((S.length : Nat) : Int) := by simpa using h
    omega
   have hc : c = 0 := by
    rcases hN.at_ with ⟨_, e⟩ | ⟨e, _⟩
    ·exact e
    ·rw [h, List.getElem?_eq_none (Nat.le_refl _)] at e; cases e
   subst hc
   repeat (first | refine za7 ?_ | refine za0 rfl ?_ | refine za4 ?_ | refine za3 ?_ | refine zbe rfl ?_ | refine zae ?_ | refine za6 ?_ | refine za2 rfl ?_ | refine zaa rfl rfl ?_)
   exact zad ⟨.inr rfl, _, rfl, rfl, hR⟩
  ·have h : ¬ p' = S.length := by
    have h : ¬ ((p' : Nat) : Int) = ((S.length : Nat) : Int) := by simpa using h
    omega
   have hg : S[((p' : Nat) : Int).toNat]? = some c := by
    rw [Int.toNat_natCast]
    rcases hN.at_ with ⟨e, _⟩ | ⟨e, _⟩
    ·exact absurd e h
    ·exact e
   repeat (first | refine za7 ?_ | refine za4 ?_ | refine za3 ?_ | refine zab ?_ | refine zbi rfl ?_ | refine za2 rfl ?_ | refine za8 rfl ?_ | refine zaa rfl rfl ?_ | refine zbr env0_ok rfl rfl rfl ?_ | refine zaq rfl ?_)
   refine zc3 (id := j) (sp := sj) (off := 0 + 0) rfl hR.obj hR.jx rfl ?_
   repeat (first | refine za2 rfl ?_ | refine za8 rfl ?_ | refine zaq rfl ?_)
   refine zc3 (id := j) (sp := sj) (off := 0 + 2) rfl hR.obj hR.jx rfl ?_
   refine zjk rfl rfl (Int.natCast_nonneg p') hg ?_
   repeat (first | refine za4 ?_ | refine za3 ?_ | refine zae ?_ | refine za2 rfl ?_)
   exact zad ⟨.inr rfl, _, rfl, rfl, hR⟩
 refine zar rfl rfl rfl (fun h3 => ?_) fun h3 => ?_
 ·have hlt : i < S.length := by
   have h4 : ((i : Nat) : Int) < ((S.length : Nat) : Int) := of_decide_eq_true h3
   omega
  repeat (first | refine zbz rfl ?_ | refine za2 rfl ?_ | refine za8 rfl ?_ | refine zaq rfl ?_)
  refine zc3 (id := j) (sp := sj) (off := 0 + 0) rfl hR.obj hR.jx rfl ?_
  repeat (first | refine zbz rfl ?_ | refine za2 rfl ?_ | refine za8 rfl ?_ | refine zaq rfl ?_)
  refine zc3 (id := j) (sp := sj) (off := 0 + 2) rfl hR.obj hR.jx rfl ?_
  repeat (first | refine zbz rfl ?_)
  by_cases hi2 : i < p'
  ·have hg : S[((i : Nat) : Int).toNat]? = some 32 := by rw [Int.toNat_natCast]; exact hN.sp i hpi hi2
   have w1 : IntKind.wrap .i64 (((i : Nat) : Int) + 1) = ((i + 1 : Nat) : Int) := zbb i (by omega)
   refine zjk rfl rfl (Int.natCast_nonneg i) hg ?_
   repeat (first | refine za0 rfl ?_ | refine za4 ?_ | refine za3 ?_ | refine zai ?_ | refine zab ?_ | refine zbe rfl ?_ | refine zbz rfl ?_ | refine za2 rfl ?_ | refine za8 rfl ?_ | refine zag rfl rfl ?_ | refine zbm rfl rfl rfl ?_ | refine zaq rfl ?_)
   refine zc3 (id := j) (sp := sj) (off := 0 + 2) rfl hR.obj hR.jx rfl ?_
   repeat (first | refine za8 rfl ?_ | refine zb8 (op := .add) rfl rfl rfl ?_ | refine zaq rfl ?_)
   rw [w1]
   refine zet (id := j) (sp := sj) (off := 0 + 2) rfl rfl rfl hR.obj (by show 2 < 4; decide) rfl ?_
   repeat (first | refine za4 ?_ | refine zc2 ?_)
   exact zcj (show p' - (i + 1) < p' - i by omega) (zal (.cons rfl .nil)) ⟨i + 1, _, _, _, rfl, by omega, hi2, hR.at (i + 1), rfl⟩
  ·have hie : i = p' := by omega
   subst hie
   obtain ⟨hg, hc⟩ : S[i]? = some c ∧ c ≠ 32 := by
    rcases hN.at_ with ⟨e, _⟩ | e
    ·omega
    ·exact e
   refine zjk rfl rfl (Int.natCast_nonneg i) (by rw [Int.toNat_natCast]; exact hg) ?_
   have hne : ((c.toNat : Int) == (32 : Int)) = false := beq_eq_false_iff_ne.2 fun e => hc (by
    have : c.toNat = (32 : UInt8).toNat := by
     have h32 : (32 : UInt8).toNat = 32 := rfl
     omega
    exact UInt8.toNat_inj.1 this)
   repeat (first | refine zbz rfl ?_)
   refine zav rfl rfl (show some (AV.bool ((c.toNat : Int) == (32 : Int))) = _ by rw [hne]) ?_
   repeat (first | refine za4 ?_ | refine za3 ?_ | refine zbi rfl ?_ | refine zbp ?_ | refine zah ?_ | refine zag rfl rfl ?_)
   refine zeh ?_
   repeat (first | refine za3 ?_ | refine zbo ?_)
   exact zfo (zal (.cons rfl .nil)) (tail hp nx ck hR)
 ·have hie : i = p' := by
   have h4 : ¬ ((i : Nat) : Int) < ((S.length : Nat) : Int) := of_decide_eq_false h3
   omega
  subst hie
  repeat (first | refine za4 ?_ | refine za3 ?_ | refine zbi rfl ?_ | refine zbp ?_ | refine zah ?_ | refine zcz rfl rfl ?_ | refine za2 rfl ?_ | refine zaa rfl rfl ?_)
  refine zeh ?_
  repeat (first | refine za3 ?_ | refine zbo ?_)
  exact zfo (zal (.cons rfl .nil)) (tail hp nx ck hR)
-- (*pneumatic/boolexp.reader).takes
def ic101 : IC := .seq (.region [⟨(some 4), .mov (.c (.bool false)), none⟩] none)
 (.seq (.seq (.region [⟨(some 5), .mov (.t 0), none⟩,
  ⟨(some 6), .call (.c (.fn 45 [] [])) [(.t 5)], none⟩,
  ⟨(some 7), .mov (.t 1), none⟩,
  ⟨(some 8), .bin .neq (.t 6) (.t 7), none⟩] none)
 (.cond (.t 8) (.seq (.region [⟨(some 4), .mov (.c (.bool false)), none⟩] none)
 (.ret))
 (.skip)))
 (.seq (.region [⟨(some 9), .mov (.t 0), none⟩,
  ⟨(some 10), .nilchk (.t 9), none⟩,
  ⟨(some 11), .faddr 2 (.t 10), none⟩,
  ⟨(some 12), .load none (.t 11), none⟩,
  ⟨(some 13), .bin .add (.t 12) (.c (.int .i64 1)), none⟩,
  ⟨(some 14), .nilchk (.t 9), none⟩,
  ⟨(some 15), .faddr 2 (.t 14), none⟩,
  ⟨none, .store 1 (.t 15) (.t 13), none⟩] none)
 (.seq (.region [⟨(some 4), .mov (.c (.bool true)), none⟩] none)
 (.ret))))
theorem fn101 : env0.fn 101 = some ⟨16, ic101, [.t 4]⟩ := by kernel_rfl
theorem zle {w0 : World} {N0 : Nat} {S : List UInt8} {nm : AV} {p p' j sj : Nat} {c b : UInt8} {H0 H : HS} (hN : Nx S p p' c) (hR : Rdr S nm p j sj H0 H.heap H.next) : FT Try.prog w0 N0 101 [.mptr j sj 0, .int .u8 b.toNat] H fun v H' => v = .bool (c == b) ∧ Rdr S nm (if c = b then p' + 1 else p') j sj H0 H'.heap H'.next := by
 have hsl := hN.len
 have hlp := hN.lp
 refine zco env0_ok fn101 [(0, .mptr j sj 0), (1, .int .u8 b.toNat)] (by show 2 ≤ 16; decide) rfl ?_
 obtain ⟨hp, nx, ck⟩ := H
 replace hR : Rdr S nm p j sj H0 hp nx := hR
 show Zm _ _ _ _ _ (st 16 _ hp nx ck) _ _
 unfold ic101
 repeat (first | refine za7 ?_ | refine za0 rfl ?_ | refine za4 ?_ | refine za3 ?_ | refine za2 rfl ?_)
 refine zfw _ rfl rfl (zaw (zjx hN (H := ⟨hp, nx, ck⟩) hR)) zfv fun r H hF => ?_
 obtain ⟨hp, nx, ck⟩ := H
 obtain ⟨rfl, hF⟩ := hF
 replace hF : Rdr S nm p' j sj H0 hp nx := hF
 have w1 : IntKind.wrap .i64 (((p' : Nat) : Int) + 1) = ((p' + 1 : Nat) : Int) := zbb p' (by omega)
 by_cases h : c = b
 ·subst h
  rw [if_pos rfl, beq_self_eq_true]
  repeat (first | refine za2 rfl ?_)
  refine zav rfl rfl (show some (AV.bool (!((c.toNat : Int) == (c.toNat : Int)))) = _ by rw [beq_self_eq_true]; rfl) ?_
  repeat (first | refine za7 ?_ | refine za0 rfl ?_ | refine za4 ?_ | refine za3 ?_ | refine zab ?_ | refine zbi rfl ?_ | refine za2 rfl ?_ | refine za8 rfl ?_ | refine zaq rfl ?_)
  refine zc3 (id := j) (sp := sj) (off := 0 + 2) rfl hF.obj hF.jx rfl ?_
  repeat (first | refine za8 rfl ?_ | refine zb8 (op := .add) rfl rfl rfl ?_ | refine zaq rfl ?_)
  rw [w1]
  refine zet (id := j) (sp := sj) (off := 0 + 2) rfl rfl rfl hF.obj (by show 2 < 4; decide) rfl ?_
  repeat (first | refine za7 ?_ | refine za0 rfl ?_ | refine za4 ?_ | refine za3 ?_ | refine zae ?_ | refine za2 rfl ?_)
  exact zad ⟨.inr rfl, _, rfl, rfl, hF.at (p' + 1)⟩
 ·have hne : ((c.toNat : Int) == (b.toNat : Int)) = false := beq_eq_false_iff_ne.2 fun e => h (UInt8.toNat_inj.1 (by omega))
  rw [if_neg h, beq_eq_false_iff_ne.2 h]
  repeat (first | refine za2 rfl ?_)
  refine zbm rfl rfl (show some (AV.bool (!((c.toNat : Int) == (b.toNat : Int)))) = _ by rw [hne]; rfl) ?_
  repeat (first | refine za7 ?_ | refine za0 rfl ?_ | refine za4 ?_ | refine za3 ?_ | refine zbe rfl ?_ | refine zae ?_ | refine za6 ?_ | refine za2 rfl ?_)
  exact zad ⟨.inr rfl, _, rfl, rfl, hF⟩
end Go.Proofs.Ytmnkjofaodbokaa
namespace Go.Proofs.Ytmnkjofaodbokaa
open Go Go.Am
theorem sub_vals {w0 : World} {N0 n nx ck : Nat} {mk : List (Nat × Nat)} {l l' : List (Nat × AV)} {hp : List (Nat × Nat × AObj)} (h : ∀ x ∈ l', ∃ v, zf1 x.1 l = some v ∧ ∀ (w : World) (ro : Nat → Prop) (L : Option LI) (u : Value), VRel w ro L v u → VRel w ro L x.2 u) : Sub w0 N0 (st n l hp nx ck mk) (st n l' hp nx ck mk) :=
 fun I a w hR => ⟨I, ⟨hR.clk, ⟨hR.tmps.1, fun d v hv => by
  obtain ⟨x, hx, rfl, rfl⟩ := zpk hv
  obtain ⟨v, e1, e2⟩ := h x hx
  exact e2 _ _ _ _ (hR.tmps.2 _ _ ((zcv x.1 l).trans e1))⟩, hR.hrel, hR.marks⟩, Evo.refl I w⟩
theorem agg_nil {w : World} {ro : Nat → Prop} {L : Option LI} {a b : AV} {u : Value} (h : VRel w ro L (.agg [a, b, .nils]) u) : VRel w ro L (.agg [a, b, .vs []]) u := by
 cases h with
 | agg h1 h =>
  refine .agg h1 fun i x hx => ?_
  match i, hx with
  | 0, hx => exact h 0 x hx
  | 1, hx => exact h 1 x hx
  | 2, hx =>
   obtain rfl : AV.vs [] = x := Option.some.inj hx
   have := h 2 .nils rfl
   generalize (Array.getD _ 2 undef) = y at *
   cases this
   exact .nilvs
  | i + 3, hx => simp at hx
theorem idS_at {l : List (List UInt8)} : ∀ (k i m : Nat) (hm : m < l.length), i + k = l.length → i ≤ m → (∀ u (hu : u < l.length), l[u] ∉ l.take u) → idS l[m] i (l.drop i) = (m : Nat)
 | 0, i, m, hm, hk, hi, hd => absurd hm (by omega)
 | k + 1, i, m, hm, hk, hi, hd => by
  have hlt : i < l.length := by omega
  rw [zov _ hlt]
  by_cases e : i = m
  ·subst e
   rw [if_pos rfl]
  ·rw [if_neg, idS_at k (i + 1) m hm (by omega) (by omega) hd]
   intro h
   refine hd m hm ?_
   rw [h]
   exact List.mem_iff_getElem.2 ⟨i, by rw [List.length_take]; omega, by rw [List.getElem_take]⟩
section
variable {P : Program} {w0 : World} {N0 : Nat} {k : List Fr} {Q : Exit → AS → Prop} {pf : Kn} {ios : List Opr} {n nx ck : Nat} {mk : List (Nat × Nat)} {md : Md} {l : List (Nat × AV)} {hp : List (Nat × Nat × AObj)}
theorem o_slstr {d : Nat} {x : Arg} {al ah : Option Arg} {s t : List UInt8} {lv hv : Option AV} {lo hh : Int} (hx : zbc x l = some (.str s)) (h1 : zq8 al l = some lv) (h2 : zci lv 0 = some lo) (h3 : zq8 ah l = some hv) (h4 : zci hv s.length = some hh)
  (b0 : 0 ≤ lo) (b1 : lo ≤ hh) (b2 : hh ≤ s.length) (ht : (s.drop lo.toNat).take (hh.toNat - lo.toNat) = t) (go : Om P w0 N0 md pf ios (st n ((d, .str t) :: l) hp nx ck mk) k Q) :
  Om P w0 N0 md pf (⟨some d, .slstr x al ah, none⟩ :: ios) (st n l hp nx ck mk) k Q := by
 subst ht
 have e1 : (st n l hp nx ck mk).oarg al = some lv := (zl6 al).trans h1
 have e3 : (st n l hp nx ck mk).oarg ah = some hv := (zl6 ah).trans h3
 exact zdx (by simp only [iop, zax, hx, e1, e3, h2, h4]; rw [if_pos ⟨b0, b1, b2⟩]) go
end
def At (S U : List UInt8) (p : Nat) : Prop := (S.drop p).take U.length = U
theorem At.get {S U : List UInt8} {p k : Nat} (h : At S U p) (hk : k < U.length) : S[p + k]? = some U[k] := by
 have h2 : U[k]? = S[p + k]? := by
  conv => lhs; rw [← h]
  rw [List.getElem?_take, if_pos hk, List.getElem?_drop]
 rw [← h2, List.getElem?_eq_getElem hk]
theorem zeu {S : AS} {a : Nat} {pa x y z : AV} (h1 : S.get a = some pa) (d1 : S.deref pa = some [x, y, z]) : S.res [.cell a (some 3)] = some (.agg [x, y, z]) := by
 simp [AS.res, AS.resL, znr, h1, d1]
def b118_0 : IC := .seq (.seq (.region [⟨(some 9), .mov (.t 3), none⟩,
  ⟨(some 10), .mov (.t 0), none⟩,
  ⟨(some 11), .nilchk (.t 10), none⟩,
  ⟨(some 12), .faddr 0 (.t 11), none⟩,
  ⟨(some 13), .load none (.t 12), none⟩,
  ⟨(some 14), .len true (.t 13), none⟩,
  ⟨(some 15), .bin .lss (.t 9) (.t 14), none⟩,
  ⟨(some 16), .mov (.t 15), none⟩,
  ⟨(some 17), .mov (.t 0), some (16, true)⟩,
  ⟨(some 18), .nilchk (.t 17), some (16, true)⟩,
  ⟨(some 19), .faddr 0 (.t 18), some (16, true)⟩,
  ⟨(some 20), .load none (.t 19), some (16, true)⟩,
  ⟨(some 21), .mov (.t 3), some (16, true)⟩,
  ⟨(some 22), .idxstr (.t 20) (.t 21), some (16, true)⟩,
  ⟨(some 23), .call (.c (.fn 96 [] [])) [(.t 22)], some (16, true)⟩,
  ⟨(some 24), .pick (.t 16) (.t 23) (.c (.bool false)), none⟩] none)
 (.cond (.t 24) (.skip)
 (.exit 0)))
 (.block 1 (.region [⟨(some 25), .mov (.t 3), none⟩,
  ⟨(some 26), .bin .add (.t 25) (.c (.int .i64 1)), none⟩,
  ⟨(some 3), .mov (.t 26), none⟩] none))
-- (*pneumatic/boolexp.reader).variable
def ic118 : IC := .seq (.region [⟨(some 2), .alloc [.int .i64 0, .int .i64 0, .nils], none⟩] none)
 (.seq (.region [⟨(some 5), .mov (.t 0), none⟩,
  ⟨(some 6), .nilchk (.t 5), none⟩,
  ⟨(some 7), .faddr 2 (.t 6), none⟩,
  ⟨(some 8), .load none (.t 7), none⟩,
  ⟨(some 3), .mov (.t 8), none⟩] none)
 (.seq (.block 0 (.loop b118_0))
 (.seq (.region [⟨(some 27), .mov (.t 0), none⟩,
  ⟨(some 28), .nilchk (.t 27), none⟩,
  ⟨(some 29), .faddr 1 (.t 28), none⟩,
  ⟨(some 30), .load none (.t 29), none⟩,
  ⟨(some 31), .mov (.t 0), none⟩,
  ⟨(some 32), .nilchk (.t 31), none⟩,
  ⟨(some 33), .faddr 0 (.t 32), none⟩,
  ⟨(some 34), .load none (.t 33), none⟩,
  ⟨(some 35), .mov (.t 0), none⟩,
  ⟨(some 36), .nilchk (.t 35), none⟩,
  ⟨(some 37), .faddr 2 (.t 36), none⟩,
  ⟨(some 38), .load none (.t 37), none⟩,
  ⟨(some 39), .mov (.t 3), none⟩,
  ⟨(some 40), .slstr (.t 34) (some (.t 38)) (some (.t 39)), none⟩,
  ⟨(some 41), .call (.c (.fn 98 [] [])) [(.t 30), (.t 40)], none⟩,
  ⟨(some 4), .mov (.t 41), none⟩] (some [[], [0], [1], [2], [], [4], [5], [6], [], [8], [9], [10], [], [7, 11, 12], [3, 13], [14, 14, 0, 1, 2, 3, 4, 5, 6, 7, 8, 9, 10, 11, 12, 13, 14]]))
 (.seq (.seq (.region [⟨(some 42), .mov (.t 4), none⟩,
  ⟨(some 43), .bin .lss (.t 42) (.c (.int .i64 0)), none⟩] none)
 (.cond (.t 43) (.seq (.region [⟨(some 44), .mov (.t 0), none⟩,
  ⟨(some 45), .call (.c (.fn 46 [] [])) [(.t 44), (.c (.int .i64 6))], none⟩,
  ⟨none, .store 3 (.t 2) (.t 45), none⟩] none)
 (.ret))
 (.skip)))
 (.seq (.region [⟨(some 46), .mov (.t 0), none⟩,
  ⟨(some 47), .mov (.t 3), none⟩,
  ⟨(some 48), .nilchk (.t 46), none⟩,
  ⟨(some 49), .faddr 2 (.t 48), none⟩,
  ⟨none, .store 1 (.t 49) (.t 47), none⟩] none)
 (.seq (.region [⟨(some 50), .mov (.t 4), none⟩,
  ⟨(some 51), .build [.int .i64 0, .int .i64 0, .nils] [(0, 1, (.c (.int .i64 1))), (1, 1, (.t 50))], none⟩,
  ⟨none, .store 3 (.t 2) (.t 51), none⟩] none)
 (.ret)))))))
theorem fn118 : env0.fn 118 = some ⟨52, ic118, [.cell 2 (some 3)]⟩ := by kernel_rfl
set_option maxHeartbeats 2000000 in
theorem zo4 {w0 : World} {N0 : Nat} {S : List UInt8} {nm : List (List UInt8)} {p j sj m : Nat} {H0 H : HS} (hok : NmOk nm) (hm : m < nm.length) (hat : At S nm[m] p) (hend : ∀ c, S[p + nm[m].length]? = some c → zdm c.toNat = false) (hSl : S.length < 1000000) (hpl : p + nm[m].length ≤ S.length) (hR : Rdr S (vsS nm) p j sj H0 H.heap H.next) :
  FT Try.prog w0 N0 118 [.mptr j sj 0] H fun v H' => v = .agg (cX (.nd 1 (m : Nat) [])) ∧ Rdr S (vsS nm) (p + nm[m].length) j sj H0 H'.heap H'.next := by
 have hid := idS_at nm.length 0 m hm (by omega) (Nat.zero_le _) fun u hu => (hok.at_ u hu).2.2
 rw [List.drop_zero] at hid
 have hw : ∀ k (hk : k < nm[m].length), zdm nm[m][k].toNat = true := fun k hk => by
  have := (hok.at_ m hm).1
  unfold zg2 at this
  exact List.all_eq_true.1 (Bool.and_eq_true_iff.1 this).1 _ (List.getElem_mem hk)
 have hl256 := hok.len
 have p98 := zt3 nm (by omega) nm[m]
 rw [hid] at p98
 generalize nm[m] = U at *
 refine zco env0_ok fn118 [(0, .mptr j sj 0)] (by show 1 ≤ 52; decide) rfl ?_
 obtain ⟨hp, nx, ck⟩ := H
 replace hR : Rdr S (vsS nm) p j sj H0 hp nx := hR
 show Zm _ _ _ _ _ (st 52 _ hp nx ck) _ _
 unfold ic118
 refine za7 (za0 rfl (zat (za4 (za3 ?_))))
 have hR1 := hR.fresh ck (.cells [.int .i64 0, .int .i64 0, .nils])
 have htop : Am.look nx ((nx, ck, AObj.cells [.int .i64 0, .int .i64 0, .nils]) :: hp) = some (ck, .cells [.int .i64 0, .int .i64 0, .nils]) := zb9
 have hnx0 := hR.nx
 generalize hh1 : (nx, ck, AObj.cells [.int .i64 0, .int .i64 0, .nils]) :: hp = hp1 at *
 repeat (first | refine za7 ?_ | refine za0 rfl ?_ | refine za2 rfl ?_ | refine za8 rfl ?_ | refine zaq rfl ?_)
 refine zc3 (id := j) (sp := sj) (off := 0 + 2) rfl hR1.obj hR1.jx rfl ?_
 repeat (first | refine za7 ?_ | refine za4 ?_ | refine za3 ?_ | refine zai ?_ | refine za2 rfl ?_)
 refine zdr (fun mm S' => ∃ i, mm = U.length - i ∧ i ≤ U.length ∧ S' = st 52 [(0, .mptr j sj 0), (2, .mptr nx ck 0), (3, .int .i64 ((p + i : Nat) : Int))] hp1 (nx + 1) (ck + 1)) U.length
  (zal (.cons rfl (.cons rfl (.cons rfl .nil)))) ⟨0, rfl, Nat.zero_le _, rfl⟩ ?_
 rintro mm S' ⟨i, rfl, hi, rfl⟩
 unfold b118_0
 repeat (first | refine za7 ?_ | refine za0 rfl ?_ | refine za2 rfl ?_ | refine za8 rfl ?_ | refine zaq rfl ?_)
 refine zc3 (id := j) (sp := sj) (off := 0 + 0) rfl hR1.obj hR1.jx rfl ?_
 repeat (first | refine zb7 rfl rfl ?_)
 have tail : Zm Try.prog w0 N0 (some none) (tlD (tlD (tlD ic118))) (st 52 [(0, .mptr j sj 0), (2, .mptr nx ck 0), (3, .int .i64 ((p + U.length : Nat) : Int))] hp1 (nx + 1) (ck + 1)) [] fun e S' => (e = .normal ∨ e = .ret) ∧ ∃ v, S'.leave.res [.cell 2 (some 3)] = some v ∧ v = .agg (cX (.nd 1 (m : Nat) [])) ∧ Rdr S (vsS nm) (p + U.length) j sj H0 S'.leave.hs.heap S'.leave.hs.next := by
  show Zm _ _ _ _ (.seq _ _) _ _ _
  repeat (first | refine za7 ?_)
  refine zlm env0_ok [(98, [vsS nm, .str U], .int .i64 (m : Nat))] (fun x hx => by
   obtain rfl := List.mem_singleton.1 hx
   exact p98) (fun f => Nat.beq f 98) rfl rfl rfl ?_
  repeat (first | refine za2 rfl ?_ | refine za8 rfl ?_ | refine zaq rfl ?_)
  refine zc3 (id := j) (sp := sj) (off := 0 + 1) rfl hR1.obj hR1.jx rfl ?_
  repeat (first | refine za2 rfl ?_ | refine za8 rfl ?_ | refine zaq rfl ?_)
  refine zc3 (id := j) (sp := sj) (off := 0 + 0) rfl hR1.obj hR1.jx rfl ?_
  repeat (first | refine za2 rfl ?_ | refine za8 rfl ?_ | refine zaq rfl ?_)
  refine zc3 (id := j) (sp := sj) (off := 0 + 2) rfl hR1.obj hR1.jx rfl ?_
  repeat (first | refine za2 rfl ?_)
  refine o_slstr (t := U) (lv := some (.int .i64 (p : Nat))) (hv := some (.int .i64 ((p + U.length : Nat) : Int))) (lo := (p : Nat)) (hh := ((p + U.length : Nat) : Int)) rfl rfl rfl rfl rfl (Int.natCast_nonneg p) (by omega) (by omega) (by
   rw [Int.toNat_natCast, Int.toNat_natCast, Nat.add_sub_cancel_left]
   exact hat) ?_
  refine zay rfl rfl zgw (fun h => Bool.noConfusion (show false = true from h)) ?_
  repeat (first | refine za7 ?_ | refine za0 rfl ?_ | refine za4 ?_ | refine za3 ?_ | refine zab ?_ | refine zbi rfl ?_ | refine za2 rfl ?_ | refine za8 rfl ?_ | refine zav rfl rfl rfl ?_ | refine zaq rfl ?_)
  refine zet (id := j) (sp := sj) (off := 0 + 2) rfl rfl rfl hR1.obj (by show 2 < 4; decide) rfl ?_
  have hR2 := hR1.at (p + U.length)
  have htop2 : Am.look nx (zb6 j (sj, .cells [.str S, vsS nm, .int .i64 ((p + U.length : Nat) : Int), .int .i64 0]) hp1) = some (ck, .cells [.int .i64 0, .int .i64 0, .nils]) := by
   rw [za1, if_neg (by have := hR.jx; omega)]; exact htop
  replace hR2 : Rdr S (vsS nm) (p + U.length) j sj H0 (zb6 j (sj, AObj.cells ([.str S, vsS nm, .int .i64 (p : Nat), .int .i64 0].set (0 + 2) (.int .i64 ((p + U.length : Nat) : Int)))) hp1) (nx + 1) := hR2
  replace htop2 : Am.look nx (zb6 j (sj, AObj.cells ([.str S, vsS nm, .int .i64 (p : Nat), .int .i64 0].set (0 + 2) (.int .i64 ((p + U.length : Nat) : Int)))) hp1) = some (ck, .cells [.int .i64 0, .int .i64 0, .nils]) := htop2
  generalize zb6 j (sj, AObj.cells ([.str S, vsS nm, .int .i64 (p : Nat), .int .i64 0].set (0 + 2) (.int .i64 ((p + U.length : Nat) : Int)))) hp1 = hp2 at *
  repeat (first | refine za7 ?_ | refine za0 rfl ?_ | refine za4 ?_ | refine za3 ?_ | refine za2 rfl ?_ | refine zbs rfl rfl ?_)
  refine o_sub (l' := [(51, .agg [.int .i64 1, .int .i64 (m : Nat), .vs []]), (2, .mptr nx ck 0)]) (sub_vals fun x hx => by
   rcases List.mem_cons.1 hx with rfl | hx
   ·exact ⟨_, rfl, fun w ro L u h => agg_nil h⟩
   ·obtain rfl := List.mem_singleton.1 hx
    exact ⟨_, rfl, fun w ro L u h => h⟩) ?_
  refine zak (id := nx) (sp := ck) (off := 0) rfl rfl rfl rfl htop2 rfl rfl ?_
  repeat (first | refine za4 ?_ | refine za3 ?_ | refine zae ?_)
  refine zad ⟨.inr rfl, _, zeu ((zcs 2).trans rfl) (zc4 (id := nx) (sp := ck) (cs := [.int .i64 1, .int .i64 (m : Nat), .vs []]) (by show Am.look nx (zb6 nx _ hp2) = _; rw [za1, if_pos rfl]; rfl) (Nat.lt_succ_self nx)), rfl, hR2.put hnx0 _⟩
 refine zar rfl rfl rfl (fun h3 => ?_) fun h3 => ?_
 ·have hlt : p + i < S.length := by
   have h4 : ((p + i : Nat) : Int) < ((S.length : Nat) : Int) := of_decide_eq_true h3
   omega
  repeat (first | refine zbz rfl ?_ | refine za2 rfl ?_ | refine za8 rfl ?_ | refine zaq rfl ?_)
  refine zc3 (id := j) (sp := sj) (off := 0 + 0) rfl hR1.obj hR1.jx rfl ?_
  repeat (first | refine zbz rfl ?_ | refine za2 rfl ?_)
  by_cases hiU : i < U.length
  ·have hg : S[((p + i : Nat) : Int).toNat]? = some U[i] := by rw [Int.toNat_natCast]; exact hat.get hiU
   have w1 : IntKind.wrap .i64 (((p + i : Nat) : Int) + 1) = ((p + (i + 1) : Nat) : Int) := zbb (p + i) (by omega)
   have p96 := znn U[i]
   rw [hw i hiU] at p96
   refine zjk rfl rfl (Int.natCast_nonneg _) hg ?_
   repeat (first | refine zbz rfl ?_)
   refine zay rfl rfl p96 (fun h => Bool.noConfusion (show false = true from h)) ?_
   repeat (first | refine za0 rfl ?_ | refine za4 ?_ | refine za3 ?_ | refine zc2 ?_ | refine zai ?_ | refine zab ?_ | refine zbe rfl ?_ | refine za2 rfl ?_ | refine zag rfl rfl ?_ | refine zb8 (op := .add) rfl rfl rfl ?_)
   rw [w1]
   exact zcj (show U.length - (i + 1) < U.length - i by omega) (zal (.cons rfl (.cons rfl (.cons rfl .nil)))) ⟨i + 1, rfl, hiU, rfl⟩
  ·have hie : i = U.length := by omega
   subst hie
   have hg : S[((p + U.length : Nat) : Int).toNat]? = some S[p + U.length] := by rw [Int.toNat_natCast, List.getElem?_eq_getElem hlt]
   have p96 := znn S[p + U.length]
   rw [hend _ (List.getElem?_eq_getElem hlt)] at p96
   refine zjk rfl rfl (Int.natCast_nonneg _) hg ?_
   repeat (first | refine zbz rfl ?_)
   refine zay rfl rfl p96 (fun h => Bool.noConfusion (show false = true from h)) ?_
   repeat (first | refine za4 ?_ | refine za3 ?_ | refine zbi rfl ?_ | refine zbp ?_ | refine zah ?_ | refine zag rfl rfl ?_)
   refine zeh ?_
   repeat (first | refine za3 ?_ | refine zbo ?_)
   exact zfo (zal (.cons rfl (.cons rfl (.cons rfl .nil)))) tail
 ·have hie : i = U.length := by
   have h4 : ¬ ((p + i : Nat) : Int) < ((S.length : Nat) : Int) := of_decide_eq_false h3
   omega
  subst hie
  repeat (first | refine za4 ?_ | refine za3 ?_ | refine zbi rfl ?_ | refine zbp ?_ | refine zah ?_ | refine zcz rfl rfl ?_ | refine za2 rfl ?_ | refine zaa rfl rfl ?_)
  refine zeh ?_
  repeat (first | refine za3 ?_ | refine zbo ?_)
  exact zfo (zal (.cons rfl (.cons rfl (.cons rfl .nil)))) tail
end Go.Proofs.Ytmnkjofaodbokaa
namespace Go.Proofs.Ytmnkjofaodbokaa
open Go Go.Am
def Hx (b : Nat) (q : List Ex) (w : AV) (hp : List (Nat × Nat × AObj)) (nx : Nat) : Prop :=
 ∃ id sp cap, w = .ms id sp 3 0 q.length cap ∧ Am.look id hp = some (sp, .cells (cXs q).flatten) ∧ b ≤ id ∧ id < nx ∧ (cap = none ∨ cap = some q.length)
section
variable {b nx : Nat} {q : List Ex} {w : AV} {hp : List (Nat × Nat × AObj)}
theorem Hx.fresh (h : Hx b q w hp nx) (ck : Nat) (x : AObj) : Hx b q w ((nx, ck, x) :: hp) (nx + 1) := by
 obtain ⟨id, sp, cap, e, hl, h1, h2, h3⟩ := h
 exact ⟨id, sp, cap, e, by rw [zaj, if_neg (by omega)]; exact hl, h1, by omega, h3⟩
theorem Hx.kept {hp' : List (Nat × Nat × AObj)} {nx' : Nat} (h : Hx b q w hp nx) (k : ∀ i, b ≤ i → i < nx → Am.look i hp' = Am.look i hp) (hn : nx ≤ nx') : Hx b q w hp' nx' := by
 obtain ⟨id, sp, cap, e, hl, h1, h2, h3⟩ := h
 exact ⟨id, sp, cap, e, by rw [k id h1 h2]; exact hl, h1, by omega, h3⟩
theorem Hx.len {r : AV} (h : Hx b q w hp nx) (e : r = .int .i64 (q.length : Nat)) : zq2 false w = some r := by
 subst e
 obtain ⟨id, sp, cap, rfl, _⟩ := h
 rfl
theorem o_happ {w0 : World} {N0 n d ck : Nat} {md : Md} {pf : Kn} {k : List Fr} {Q : Exit → AS → Prop} {l : List (Nat × AV)} {ios : List Opr} {bytes j sj : Nat} {x0 : Ex} {z : List AV} {s x : Arg} (hsd : ∀ i, pf.sd i = true) (hF : Hx b q w hp nx) (hbn : b ≤ nx) (hlen : q.length ≤ 1000000) (hs : zbc s l = some w) (hx : zbc x l = some (.ms j sj 3 0 1 (some 1))) (hj : Am.look j hp = some (sj, .cells (cX x0))) (hb : bytes ≤ 16777216)
  (go : ∀ w' hp' nx' ck', Hx b (q ++ [x0]) w' hp' nx' → nx ≤ nx' → (∀ i, i < b → Am.look i hp' = Am.look i hp) → Om Try.prog w0 N0 md pf ios (st n ((d, w') :: l) hp' nx' ck') k Q) :
  Om Try.prog w0 N0 md pf (⟨some d, .append 3 bytes z s x, none⟩ :: ios) (st n l hp nx ck) k Q := by
 have hel : ∀ l, (st n l hp nx ck []).elems 3 (.ms j sj 3 0 1 (some 1)) = some [cX x0] := fun l => zhj (xs := [cX x0]) (ys := []) (by rw [hj]; simp) rfl fun x hx => by obtain rfl := List.mem_singleton.1 hx; exact zia x0
 have hcl : [cX x0].flatten.all AV.isCell = true := by simpa using cX_cells x0
 obtain ⟨id, sp, cap, rfl, hl, h1, h2, h3⟩ := hF
 have hfl := cXs_flat q
 rcases h3 with rfl | rfl
 ·refine znt [cX x0] hs hx (hel _) (fun h => Nat.noConfusion h) hcl hb hl hfl.symm (by show _ + 1 ≤ _; omega) ?_ (apOk hs (hsd id))
  exact go _ _ _ _ ⟨id, ck, none, by rw [List.length_append]; rfl, by rw [za1, if_pos rfl, zrn, List.flatten_append], h1, h2, .inl rfl⟩ (Nat.le_refl _) fun i hi => by rw [za1, if_neg (by omega)]
 ·have hl' : Am.look id (st n l hp nx ck).heap = some (sp, .cells (cXs q).flatten) := hl
  have hi : iop (st n l hp nx ck) (.append 3 bytes z s x) = some (.ms nx ck 3 0 (q.length + 1) none, st n l ((nx, ck, .cells (cXs (q ++ [x0])).flatten) :: hp) (nx + 1) (ck + 1)) := by
   simp only [iop, zax, hs, hx, hel]
   unfold zcp
   rw [if_neg (show ¬ [cX x0].length = 0 from Nat.succ_ne_zero 0), if_pos (show [cX x0].flatten.all AV.isCell = true ∧ bytes ≤ 16777216 from ⟨hcl, hb⟩)]
   simp only [hl']
   rw [if_pos ⟨trivial, trivial, by omega, by show _ + 1 ≤ _; omega⟩]
   rw [if_neg (show ¬ q.length + [cX x0].length ≤ q.length by show ¬ q.length + 1 ≤ _; omega), List.drop_zero, List.take_of_length_le (by omega), zrn, List.flatten_append]
   rfl
  exact zdx hi (go _ _ _ _ ⟨nx, ck, none, by rw [List.length_append]; rfl, zb9, hbn, Nat.lt_succ_self _, .inl rfl⟩ (by omega) fun i hi => by rw [zaj, if_neg (by omega)]) (apOk hs (hsd id))
end
def sevX (op : Int) : List Ex → Ex
 | [x] => x
 | l => .nd op 0 l
def b77_0 : IC := .seq (.seq (.region [⟨(some 13), .mov (.t 0), none⟩,
  ⟨(some 14), .mov (.t 2), none⟩,
  ⟨(some 15), .call (.c (.fn 101 [] [])) [(.t 13), (.t 14)], none⟩] none)
 (.cond (.t 15) (.skip)
 (.exit 0)))
 (.block 1 (.region [⟨(some 16), .mov (.t 9), none⟩,
  ⟨(some 17), .mov (.t 3), none⟩,
  ⟨(some 18), .call (.t 17) [], none⟩,
  ⟨(some 19), .bslice 3 1 [.int .i64 0, .int .i64 0, .nils] [(0, 3, (.t 18))], none⟩,
  ⟨(some 20), .append 3 40 [.int .i64 0, .int .i64 0, .nils] (.t 16) (.t 19), none⟩,
  ⟨(some 9), .mov (.t 20), none⟩] none))
-- (*pneumatic/boolexp.reader).several
def ic77 : IC := .seq (.region [⟨(some 8), .alloc [.int .i64 0, .int .i64 0, .nils], none⟩] none)
 (.seq (.region [⟨(some 10), .mov (.t 3), none⟩,
  ⟨(some 11), .call (.t 10) [], none⟩,
  ⟨(some 12), .bslice 3 1 [.int .i64 0, .int .i64 0, .nils] [(0, 3, (.t 11))], none⟩,
  ⟨(some 9), .mov (.t 12), none⟩] none)
 (.seq (.block 0 (.loop b77_0))
 (.seq (.seq (.region [⟨(some 21), .mov (.t 9), none⟩,
  ⟨(some 22), .len false (.t 21), none⟩,
  ⟨(some 23), .bin .eql (.t 22) (.c (.int .i64 1)), none⟩] none)
 (.cond (.t 23) (.seq (.region [⟨(some 24), .mov (.t 9), none⟩,
  ⟨(some 25), .idxs 3 (.t 24) (.c (.int .i64 0)), none⟩,
  ⟨(some 26), .load (some 3) (.t 25), none⟩,
  ⟨none, .store 3 (.t 8) (.t 26), none⟩] none)
 (.ret))
 (.skip)))
 (.seq (.region [⟨(some 27), .mov (.t 1), none⟩,
  ⟨(some 28), .mov (.t 9), none⟩,
  ⟨(some 29), .build [.int .i64 0, .int .i64 0, .nils] [(0, 1, (.t 27)), (2, 1, (.t 28))], none⟩,
  ⟨none, .store 3 (.t 8) (.t 29), none⟩] none)
 (.ret)))))
theorem fn77 : env0.fn 77 = some ⟨30, ic77, [.cell 8 (some 3)]⟩ := by kernel_rfl
set_option maxHeartbeats 4000000 in
theorem zgk {w0 : World} {N0 : Nat} {S : List UInt8} {nm : AV} (hnm : hasM nm = false) {j sj fr p0 p2 : Nat} {op : Int} {sign c2 : UInt8} {xs : List Ex} {start stop sg : Nat → Nat} {H0 H : HS} (hne : xs ≠ []) (hlen : xs.length ≤ 1000)
  (hread : ∀ k (hk : k < xs.length) (H0 H : HS), Rdr S nm (start k) j sj H0 H.heap H.next → FT Try.prog w0 N0 fr [.mptr j sj 0] H fun v H' => v = .agg (cX (xs[k])) ∧ Rdr S nm (stop k) j sj H0 H'.heap H'.next)
  (h0 : start 0 = p0) (hsg : ∀ k, k + 1 < xs.length → Nx S (stop k) (sg k) sign ∧ start (k + 1) = sg k + 1)
  (hlast : Nx S (stop (xs.length - 1)) p2 c2) (hc2 : c2 ≠ sign) (hR : Rdr S nm p0 j sj H0 H.heap H.next) :
  FT Try.prog w0 N0 77 [.mptr j sj 0, .int .i64 op, .int .u8 sign.toNat, .fn fr [.mptr j sj 0] []] H fun v H' => v = .agg (cX (sevX op xs)) ∧ Rdr S nm p2 j sj H0 H'.heap H'.next := by
 have hpos : 0 < xs.length := List.length_pos_iff.2 hne
 refine zco env0_ok fn77 [(0, .mptr j sj 0), (1, .int .i64 op), (2, .int .u8 sign.toNat), (3, .fn fr [.mptr j sj 0] [])] (by show 4 ≤ 30; decide) rfl ?_
 obtain ⟨hp, nx, ck⟩ := H
 replace hR : Rdr S nm p0 j sj H0 hp nx := hR
 show Zm _ _ _ _ _ (st 30 _ hp nx ck) _ _
 unfold ic77
 refine za7 (za0 rfl (zat (za4 (za3 ?_))))
 have hR1 := hR.fresh ck (.cells [.int .i64 0, .int .i64 0, .nils])
 have htop : Am.look nx ((nx, ck, AObj.cells [.int .i64 0, .int .i64 0, .nils]) :: hp) = some (ck, .cells [.int .i64 0, .int .i64 0, .nils]) := zb9
 have hnx0 := hR.nx
 have hja : j ≠ nx := by have := hR.jx; omega
 have hna : nx < nx + 1 := Nat.lt_succ_self nx
 generalize (nx, ck, AObj.cells [.int .i64 0, .int .i64 0, .nils]) :: hp = hp1 at *
 generalize nx + 1 = nx1 at *
 generalize ck + 1 = ck1 at *
 rw [← h0] at hR1
 repeat (first | refine za7 ?_ | refine za0 rfl ?_ | refine za2 rfl ?_)
 refine zfw _ rfl rfl (zaw (first := [.mptr j sj 0]) (args := []) (cap := []) (hread 0 hpos ⟨hp1, nx1, ck1⟩ ⟨hp1, nx1, ck1⟩ (hR1.self ck1))) zfv fun r H hF => ?_
 obtain ⟨rfl, hF⟩ := hF
 obtain ⟨hp2, nx2, ck2⟩ := H
 replace hF : Rdr S nm (stop 0) j sj ⟨hp1, nx1, ck1⟩ hp2 nx2 := hF
 have hR2 := hR1.trans hF
 have hj1 := hR1.jx
 have hn12 : nx1 ≤ nx2 := hF.nx
 have ha2 : Am.look nx hp2 = some (ck, .cells [.int .i64 0, .int .i64 0, .nils]) := (hF.keep nx hna (Ne.symm hja)).trans htop
 have hx0 : xs.take 1 = [xs[0]] := by
  match xs, hpos with
  | y :: ys, _ => rfl
 clear hF
 have hR3 := hR2.fresh ck2 (.cells (cX xs[0]))
 have ha3 : Am.look nx ((nx2, ck2, AObj.cells (cX xs[0])) :: hp2) = some (ck, .cells [.int .i64 0, .int .i64 0, .nils]) := by rw [zaj, if_neg (by omega)]; exact ha2
 have hG : Hx nx1 (xs.take 1) (.ms nx2 ck2 3 0 1 (some 1)) ((nx2, ck2, AObj.cells (cX xs[0])) :: hp2) (nx2 + 1) :=
  ⟨nx2, ck2, some 1, by rw [hx0]; rfl, by rw [zb9, hx0, cXs, cXs]; simp, hn12, Nat.lt_succ_self _, .inr (by rw [hx0]; rfl)⟩
 have hob : ∀ l : List (Nat × AV), True := fun _ => trivial
 generalize hgx : xs[0] = x0 at *
 obtain ⟨xo, xi, xa⟩ := x0
 refine zbd rfl rfl ?_ rfl
 replace hG : Hx nx1 (xs.take 1) (.ms nx2 ck2 3 0 1 (some 1)) ((nx2, ck2, AObj.cells (setAt 0 [.int .i64 0, .int .i64 0, .nils] (cX (.nd xo xi xa)))) :: hp2) (nx2 + 1) := hG
 replace hR3 : Rdr S nm (stop 0) j sj H0 ((nx2, ck2, AObj.cells (setAt 0 [.int .i64 0, .int .i64 0, .nils] (cX (.nd xo xi xa)))) :: hp2) (nx2 + 1) := hR3
 replace ha3 : Am.look nx ((nx2, ck2, AObj.cells (setAt 0 [.int .i64 0, .int .i64 0, .nils] (cX (.nd xo xi xa)))) :: hp2) = some (ck, .cells [.int .i64 0, .int .i64 0, .nils]) := ha3
 have hn3 : nx1 ≤ nx2 + 1 := by omega
 show Om _ _ _ _ _ _ (st 30 _ ((nx2, ck2, AObj.cells (setAt 0 [.int .i64 0, .int .i64 0, .nils] (cX (.nd xo xi xa)))) :: hp2) (nx2 + 1) (ck2 + 1)) _ _
 generalize (nx2, ck2, AObj.cells (setAt 0 [.int .i64 0, .int .i64 0, .nils] (cX (.nd xo xi xa)))) :: hp2 = hp3 at *
 generalize nx2 + 1 = nx3 at *
 generalize ck2 + 1 = ck3 at *
 repeat (first | refine za7 ?_ | refine za4 ?_ | refine za3 ?_ | refine zai ?_ | refine za2 rfl ?_)
 refine zdr (fun mm S' => ∃ k w hp nx' ck', mm = xs.length - k ∧ k < xs.length ∧ Hx nx1 (xs.take (k + 1)) w hp nx' ∧ Rdr S nm (stop k) j sj H0 hp nx' ∧ Am.look nx hp = some (ck, .cells [.int .i64 0, .int .i64 0, .nils]) ∧ nx1 ≤ nx' ∧
   S' = st 30 [(8, .mptr nx ck 0), (0, .mptr j sj 0), (1, .int .i64 op), (2, .int .u8 sign.toNat), (3, .fn fr [.mptr j sj 0] []), (9, w)] hp nx' ck') xs.length
  (zal (.cons rfl (.cons rfl (.cons rfl (.cons rfl (.cons rfl (.cons rfl .nil))))))) ⟨0, _, _, _, _, rfl, hpos, hG, hR3, ha3, hn3, rfl⟩ ?_
 clear hG hR3 ha3 hn3 ha2 hR2 hx0 hn12
 rintro mm S' ⟨k, w, hp3, nx3, ck3, rfl, hk, hG, hR3, ha3, hn3, rfl⟩
 have hlt : (xs.take (k + 1)).length ≤ 1000000 := by rw [List.length_take]; omega
 unfold b77_0
 by_cases hk1 : k + 1 < xs.length
 ·obtain ⟨hN, hst⟩ := hsg k hk1
  have hsn : xs.take (k + 1 + 1) = xs.take (k + 1) ++ [xs[k + 1]] := by rw [List.take_add_one, List.getElem?_eq_getElem hk1]; rfl
  repeat (first | refine za7 ?_ | refine za0 rfl ?_ | refine za2 rfl ?_)
  refine zfw _ rfl rfl (zaw (zle (b := sign) hN (H := ⟨hp3, nx3, ck3⟩) (hR3.self ck3))) zfv fun r H hF => ?_
  rw [if_pos rfl, beq_self_eq_true, ← hst] at hF
  obtain ⟨rfl, hF⟩ := hF
  obtain ⟨hp4, nx4, ck4⟩ := H
  replace hF : Rdr S nm (start (k + 1)) j sj ⟨hp3, nx3, ck3⟩ hp4 nx4 := hF
  have hn4 : nx3 ≤ nx4 := hF.nx
  have hG4 := hG.kept (nx' := nx4) (fun i h1 h2 => hF.keep i h2 (by omega)) hn4
  have ha4 := (hF.keep nx (by show nx < nx3; omega) (Ne.symm hja)).trans ha3
  have hR4 := hR3.trans hF
  clear hF hG ha3 hR3
  repeat (first | refine za0 rfl ?_ | refine za4 ?_ | refine za3 ?_ | refine zai ?_ | refine zab ?_ | refine zbe rfl ?_ | refine za2 rfl ?_)
  refine zfw _ rfl rfl (zaw (first := [.mptr j sj 0]) (args := []) (cap := []) (hread (k + 1) hk1 ⟨hp4, nx4, ck4⟩ ⟨hp4, nx4, ck4⟩ (hR4.self ck4))) zfv fun r H hF => ?_
  obtain ⟨rfl, hF⟩ := hF
  obtain ⟨hp5, nx5, ck5⟩ := H
  replace hF : Rdr S nm (stop (k + 1)) j sj ⟨hp4, nx4, ck4⟩ hp5 nx5 := hF
  have hn5 : nx4 ≤ nx5 := hF.nx
  have hG5 := hG4.kept (nx' := nx5) (fun i h1 h2 => hF.keep i h2 (by omega)) hn5
  have ha5 := (hF.keep nx (by show nx < nx4; omega) (Ne.symm hja)).trans ha4
  have hR5 := hR4.trans hF
  clear hF hG4 ha4 hR4
  generalize hgx : xs[k + 1] = y at *
  obtain ⟨yo, yi, ya⟩ := y
  refine zbd rfl rfl ?_ rfl
  have hG6 := hG5.fresh ck5 (.cells (setAt 0 [.int .i64 0, .int .i64 0, .nils] (cX (.nd yo yi ya))))
  have hR6 := hR5.fresh ck5 (.cells (setAt 0 [.int .i64 0, .int .i64 0, .nils] (cX (.nd yo yi ya))))
  have ha6 : Am.look nx ((nx5, ck5, AObj.cells (setAt 0 [.int .i64 0, .int .i64 0, .nils] (cX (.nd yo yi ya)))) :: hp5) = some (ck, .cells [.int .i64 0, .int .i64 0, .nils]) := by rw [zaj, if_neg (by omega)]; exact ha5
  refine o_happ (x0 := .nd yo yi ya) (fun _ => rfl) hG6 (by show nx1 ≤ nx5 + 1; omega) hlt rfl rfl zb9 (by decide) fun w' hp' nx' ck' hG' hnn hkk => ?_
  rw [← hsn] at hG'
  have hjl : j < nx1 := hj1
  replace hnn : nx5 + 1 ≤ nx' := hnn
  have hR7 : Rdr S nm (stop (k + 1)) j sj H0 hp' nx' := ⟨by rw [hkk j hjl]; exact hR6.obj, fun i hi hij => by rw [hkk i (by have := hR6.nx; have := hR1.nx; omega)]; exact hR6.keep i hi hij, by have := hR6.nx; omega, hR6.jn⟩
  have ha7 : Am.look nx hp' = some (ck, .cells [.int .i64 0, .int .i64 0, .nils]) := by rw [hkk nx hna]; exact ha6
  repeat (first | refine za4 ?_ | refine zc2 ?_ | refine za2 rfl ?_)
  exact zcj (show xs.length - (k + 1) < xs.length - k by omega) (zal (.cons rfl (.cons rfl (.cons rfl (.cons rfl (.cons rfl (.cons rfl .nil))))))) ⟨k + 1, _, _, _, _, rfl, hk1, hG', hR7, ha7, by omega, rfl⟩
 ·have hke : k + 1 = xs.length := by omega
  rw [show xs.length - 1 = k from by omega] at hlast
  rw [hke, List.take_length] at hG
  repeat (first | refine za7 ?_ | refine za0 rfl ?_ | refine za2 rfl ?_)
  refine zfw _ rfl rfl (zaw (zle (b := sign) hlast (H := ⟨hp3, nx3, ck3⟩) (hR3.self ck3))) zfv fun r H hF => ?_
  rw [if_neg hc2, beq_eq_false_iff_ne.2 hc2] at hF
  obtain ⟨rfl, hF⟩ := hF
  obtain ⟨hp4, nx4, ck4⟩ := H
  replace hF : Rdr S nm p2 j sj ⟨hp3, nx3, ck3⟩ hp4 nx4 := hF
  have hn4 : nx3 ≤ nx4 := hF.nx
  have hG4 := hG.kept (nx' := nx4) (fun i h1 h2 => hF.keep i h2 (by omega)) hn4
  have ha4 := (hF.keep nx (by show nx < nx3; omega) (Ne.symm hja)).trans ha3
  have hR4 := hR3.trans hF
  clear hF hG ha3 hR3
  obtain ⟨id, sp, cap, rfl, hl, g1, g2, g3⟩ := hG4
  repeat (first | refine za4 ?_ | refine za3 ?_ | refine zbi rfl ?_ | refine zbp ?_ | refine zah ?_)
  refine zeh ?_
  refine zbo (za3 ?_)
  refine zgp id sp (cs := (cXs xs).flatten) (l' := [(8, .mptr nx ck 0), (0, .mptr j sj 0), (1, .int .i64 op), (9, .vs (cXs xs))]) hl (ztc xs) (.cons rfl .same (.cons rfl .same (.cons rfl .same (.cons rfl (.fms (zb0 xs) zoi ⟨[], by rw [List.drop_zero, List.append_nil]⟩) .nil)))) ?_
  have hR5 := hR4.drop (i := id) (by have := hR1.nx; omega)
  have ha5 : Am.look nx (zbj id hp4) = some (ck, .cells [.int .i64 0, .int .i64 0, .nils]) := by rw [zac, if_neg (by omega)]; exact ha4
  have hnx4 : nx < nx4 := by omega
  generalize zbj id hp4 = hp5 at *
  have fin : ∀ x : Ex, sevX op xs = x → ∀ l : List (Nat × AV), zf1 8 l = some (.mptr nx ck 0) → Um Try.prog w0 N0 (some none) .ret (st 30 l (zb6 nx (ck, AObj.cells (setAt 0 [.int .i64 0, .int .i64 0, .nils] (cX x))) hp5) nx4 ck4) [] fun e S' => (e = Exit.normal ∨ e = Exit.ret) ∧ ∃ v, S'.leave.res [RA.cell 8 (some 3)] = some v ∧ v = AV.agg (cX (sevX op xs)) ∧ Rdr S nm p2 j sj H0 S'.leave.hs.heap S'.leave.hs.next := fun x e l h8 => by
   rw [e]
   obtain ⟨xo, xi, xa⟩ := x
   exact zad ⟨.inr rfl, _, zeu ((zcs 8).trans h8) (zc4 (id := nx) (sp := ck) (cs := cX (.nd xo xi xa)) (by show Am.look nx (zb6 nx _ hp5) = _; rw [za1, if_pos rfl]; rfl) hnx4), rfl, hR5.put hnx0 _⟩
  show Zm _ _ _ _ _ (st 30 _ hp5 nx4 ck4) _ _
  match xs, hpos with
  | [x], _ =>
   have hg0 : (cXs [x])[((0 : Int)).toNat]? = some (cX x) := rfl
   have fin := fin x rfl
   obtain ⟨xo, xi, xa⟩ := x
   repeat (first | refine za7 ?_ | refine za0 rfl ?_ | refine za4 ?_ | refine za3 ?_ | refine zbe rfl ?_ | refine za2 rfl ?_ | refine zap rfl rfl rfl rfl ?_ | refine zb7 rfl rfl ?_ | refine zbm rfl rfl rfl ?_ | refine zbu rfl rfl (by omega) (by assumption) rfl ?_)
   refine zak (id := nx) (sp := ck) (off := 0) rfl rfl rfl rfl ha5 rfl rfl ?_
   repeat (first | refine za4 ?_ | refine za3 ?_ | refine zae ?_ | refine za6 ?_)
   exact fin _ rfl
  | x :: y :: r, _ =>
   have fin := fin (.nd op 0 (x :: y :: r)) rfl
   repeat (first | refine za7 ?_ | refine za0 rfl ?_ | refine za4 ?_ | refine za3 ?_ | refine zab ?_ | refine zbi rfl ?_ | refine za2 rfl ?_ | refine zb7 rfl rfl ?_ | refine zbs rfl rfl ?_ | refine zav rfl rfl rfl ?_)
   refine zak (id := nx) (sp := ck) (off := 0) rfl rfl rfl rfl ha5 rfl rfl ?_
   repeat (first | refine za4 ?_ | refine za3 ?_ | refine zae ?_)
   exact fin _ rfl
end Go.Proofs.Ytmnkjofaodbokaa
namespace Go.Proofs.Ytmnkjofaodbokaa
open Go Go.Am
theorem zof {S A B : List UInt8} {p : Nat} (h : At S (A ++ B) p) : At S A p ∧ At S B (p + A.length) := by
 unfold At at h ⊢
 rw [List.length_append] at h
 constructor
 ·have : ((S.drop p).take (A.length + B.length)).take A.length = (A ++ B).take A.length := by rw [h]
  rw [List.take_take, Nat.min_eq_left (Nat.le_add_right _ _), List.take_left'] at this
  ·exact this
  ·rfl
 ·have : ((S.drop p).take (A.length + B.length)).drop A.length = (A ++ B).drop A.length := by rw [h]
  rw [List.drop_take, List.drop_drop, Nat.add_sub_cancel_left, List.drop_left'] at this
  ·exact this
  ·rfl
theorem zf5 {S U : List UInt8} {c : UInt8} {p : Nat} (h : At S (c :: U) p) : S[p]? = some c ∧ At S U (p + 1) := by
 obtain ⟨h1, h2⟩ := zof (A := [c]) (B := U) h
 exact ⟨h1.get (k := 0) (by show 0 < 1; decide), h2⟩
theorem at_len {S U : List UInt8} {p : Nat} (h : At S U p) (hn : U ≠ []) : p + U.length ≤ S.length := by
 have := congrArg List.length h
 rw [List.length_take, List.length_drop] at this
 have : 0 < U.length := List.length_pos_iff.2 hn
 omega
theorem at_self (S : List UInt8) : At S S 0 := by
 unfold At
 rw [List.drop_zero, List.take_length]
theorem nx_at {S : List UInt8} {p : Nat} {c : UInt8} (h : S[p]? = some c) (hc : c ≠ 32) (hl : S.length < 1000000) : Nx S p p c := ⟨Nat.le_refl p, fun i a b => absurd b (by omega), .inr ⟨h, hc⟩, hl⟩
theorem zmf {S : List UInt8} {p : Nat} {c : UInt8} (h0 : S[p]? = some 32) (h : S[p + 1]? = some c) (hc : c ≠ 32) (hl : S.length < 1000000) : Nx S p (p + 1) c :=
 ⟨Nat.le_succ p, fun i a b => by rw [show i = p from by omega]; exact h0, .inr ⟨h, hc⟩, hl⟩
theorem nx_end {S : List UInt8} (hl : S.length < 1000000) : Nx S S.length S.length 0 := ⟨Nat.le_refl _, fun i a b => absurd b (by omega), .inl ⟨rfl, rfl⟩, hl⟩
theorem Nx.stay {S : List UInt8} {p p' : Nat} {c : UInt8} (h : Nx S p p' c) : Nx S p' p' c := ⟨Nat.le_refl _, fun i a b => absurd b (by omega), h.at_, h.len⟩
def EndOk (S : List UInt8) (e : Nat) : Prop := ∀ c, S[e]? = some c → zdm c.toNat = false
theorem Nx.endOk {S : List UInt8} {p p' : Nat} {c : UInt8} (h : Nx S p p' c) (hc : zdm c.toNat = false) : EndOk S p := fun d hd => by
 by_cases e : p = p'
 ·subst e
  rcases h.at_ with ⟨e, _⟩ | ⟨e, _⟩
  ·rw [e, List.getElem?_eq_none (Nat.le_refl _)] at hd; cases hd
  ·rw [e] at hd; injection hd with hd; subst hd; exact hc
 ·have := h.sp p (Nat.le_refl _) (by have := h.le; omega)
  rw [this] at hd; injection hd with hd; subst hd; decide
theorem Nx.first {S U : List UInt8} {p p' : Nat} {c d : UInt8} (h : Nx S p p' c) (hd : S[p']? = some d) : c = d := by
 rcases h.at_ with ⟨e, _⟩ | ⟨e, _⟩
 ·rw [e, List.getElem?_eq_none (Nat.le_refl _)] at hd; cases hd
 ·rw [e] at hd; injection hd
section
variable {nm : List (List UInt8)}
theorem zll (hok : NmOk nm) : ∀ (q : Nat) (x : Ex) (o : Int), SizeOf.sizeOf x ≤ q → nds (nm.length : Nat) x = 0 → ∃ c U, wrX nm o x = c :: U ∧ c ≠ 32 := by
 intro q
 induction q with
 | zero => intro x o hq; cases x; simp at hq
 | succ q ih =>
  intro x o hq hx
  obtain ⟨op, ix, args⟩ := x
  obtain ⟨hv, hk⟩ := zfg hx
  obtain ⟨k0, k1, k2, k3, k4, k5⟩ := zfh hv
  rw [wrX]
  split
  ·exact ⟨_, _, rfl, by split <;> decide⟩
  ·split
   ·rename_i h1
    subst h1
    have hi : ix.toNat < nm.length := by
     have : zbg 1 (nm.length : Nat) = (nm.length : Nat) - 1 := by simp [zbg]
     omega
    rw [List.getD_eq_getElem?_getD, List.getElem?_eq_getElem hi]
    have hw := (hok.at_ _ hi).1
    show ∃ c U, nm[ix.toNat] = c :: U ∧ c ≠ 32
    match he : nm[ix.toNat], hw with
    | [], hw => exact absurd hw (by decide)
    | c :: U, hw =>
     refine ⟨c, U, rfl, fun e => ?_⟩
     subst e
     exact absurd (show zdt (32 : UInt8).toNat = true from (Bool.and_eq_true_iff.1 hw).2) (by decide)
   ·split
    ·exact ⟨_, _, rfl, by decide⟩
    ·rename_i a0 a1 a2
     split
     ·exact ⟨40, _, rfl, by decide⟩
     ·have hop : op = 3 ∨ op = 4 := by omega
      have : zb2 op = 2 := by rcases hop with rfl | rfl <;> rfl
      match args, hk, k2, hq with
      | y :: ys, hk, _, hq =>
       obtain ⟨c, U, e, hc⟩ := ih y op (by have := zgm (op := op) (ix := ix) (List.mem_cons_self (a := y) (l := ys)); omega) (hk y (List.mem_cons_self ..))
       rw [wrL, if_pos rfl, List.nil_append, e]
       exact ⟨c, _, rfl, hc⟩
      | [], _, k2, _ => have k2 : zb2 op ≤ 0 := k2; omega
theorem zue (o : Int) (sep : List UInt8) (y : Ex) (ys : List Ex) : wrL nm o sep false (y :: ys) = sep ++ wrL nm o sep true (y :: ys) := by
 rw [wrL, wrL, if_neg Bool.false_ne_true, if_pos rfl, List.nil_append, List.append_assoc]
def stA (nm : List (List UInt8)) (o : Int) : List Ex → Nat → Nat → Nat
 | [], p, _ => p
 | _ :: _, p, 0 => p
 | y :: ys, p, k + 1 => stA nm o ys (p + (wrX nm o y).length + 3) k
theorem zhq {S : List UInt8} {o : Int} {sg : UInt8} : ∀ (xs : List Ex) (p : Nat), xs ≠ [] → At S (wrL nm o [32, sg, 32] true xs) p →
  (∀ k (hk : k < xs.length), At S (wrX nm o xs[k]) (stA nm o xs p k)) ∧
  (∀ k (hk : k + 1 < xs.length), S[stA nm o xs p k + (wrX nm o xs[k]).length]? = some 32 ∧ S[stA nm o xs p k + (wrX nm o xs[k]).length + 1]? = some sg ∧ S[stA nm o xs p k + (wrX nm o xs[k]).length + 2]? = some 32 ∧ stA nm o xs p (k + 1) = stA nm o xs p k + (wrX nm o xs[k]).length + 3) ∧
  (∀ k (hk : k < xs.length), k + 1 = xs.length → stA nm o xs p k + (wrX nm o xs[k]).length = p + (wrL nm o [32, sg, 32] true xs).length)
 | [], _, h, _ => absurd rfl h
 | [y], p, _, h => by
  have e : wrL nm o [32, sg, 32] true [y] = wrX nm o y := by rw [wrL, wrL, if_pos rfl, List.nil_append, List.append_nil]
  rw [e] at h ⊢
  refine ⟨fun k hk => ?_, fun k hk => absurd hk (by show ¬ k + 1 < 1; omega), fun k hk he => ?_⟩
  ·obtain rfl : k = 0 := by have : k < 1 := hk; omega
   exact h
  ·obtain rfl : k = 0 := by have : k < 1 := hk; omega
   rfl
 | y :: z :: r, p, _, h => by
  have e : wrL nm o [32, sg, 32] true (y :: z :: r) = wrX nm o y ++ ([32, sg, 32] ++ wrL nm o [32, sg, 32] true (z :: r)) := by
   rw [wrL, if_pos rfl, List.nil_append, zue]
  rw [e] at h ⊢
  obtain ⟨h1, h2⟩ := zof h
  obtain ⟨h3, h4⟩ := zof h2
  obtain ⟨i1, i2, i3⟩ := zhq (z :: r) (p + (wrX nm o y).length + 3) (fun e => by cases e) h4
  refine ⟨fun k hk => ?_, fun k hk => ?_, fun k hk he => ?_⟩
  ·match k, hk with
   | 0, _ => exact h1
   | k + 1, hk => exact i1 k (by have : k + 1 < (z :: r).length + 1 := hk; omega)
  ·match k, hk with
   | 0, _ => exact ⟨h3.get (k := 0) (by show 0 < 3; decide), h3.get (k := 1) (by show 1 < 3; decide), h3.get (k := 2) (by show 2 < 3; decide), rfl⟩
   | k + 1, hk => exact i2 k (by have : k + 1 + 1 < (z :: r).length + 1 := hk; omega)
  ·match k, hk with
   | 0, hk => exact absurd he (by show ¬ 0 + 1 = r.length + 1 + 1; omega)
   | k + 1, hk =>
    have := i3 k (by have : k + 1 < (z :: r).length + 1 := hk; omega) (by have : k + 1 + 1 = (z :: r).length + 1 := he; omega)
    refine Eq.trans (b := p + (wrX nm o y).length + 3 + (wrL nm o [32, sg, 32] true (z :: r)).length) this ?_
    rw [ List.length_append, List.length_append]
    show _ = p + ((wrX nm o y).length + (3 + _))
    omega
end
end Go.Proofs.Ytmnkjofaodbokaa
namespace Go.Proofs.Ytmnkjofaodbokaa
open Go Go.Am
def RdF (S : List UInt8) (nm : AV) (p j sj : Nat) (H0 : HS) (x : Ex) (v : AV) (H : HS) : Prop := v = .agg (cX x) ∧ Rdr S nm p j sj H0 H.heap H.next
-- (*pneumatic/boolexp.reader).conjunction
def ic76 : IC := .seq (.region [⟨(some 2), .alloc [.int .i64 0, .int .i64 0, .nils], none⟩] none)
 (.seq (.region [⟨(some 4), .mov (.t 0), none⟩,
  ⟨(some 5), .mkfn 100 [(.t 4)] [], none⟩,
  ⟨(some 3), .mov (.t 5), none⟩] none)
 (.seq (.region [⟨(some 6), .mov (.t 0), none⟩,
  ⟨(some 7), .mov (.t 3), none⟩,
  ⟨(some 8), .call (.c (.fn 77 [] [])) [(.t 6), (.c (.int .i64 3)), (.c (.int .u8 38)), (.t 7)], none⟩,
  ⟨none, .store 3 (.t 2) (.t 8), none⟩] none)
 (.ret)))
theorem fn76 : env0.fn 76 = some ⟨9, ic76, [.cell 2 (some 3)]⟩ := by kernel_rfl
theorem conj76 {w0 : World} {N0 : Nat} {S : List UInt8} {nm : AV} {j sj p0 p2 : Nat} {x : Ex} {H0 H : HS}
  (h77 : ∀ H0 H : HS, Rdr S nm p0 j sj H0 H.heap H.next → FT Try.prog w0 N0 77 [.mptr j sj 0, .int .i64 3, .int .u8 38, .fn 100 [.mptr j sj 0] []] H (RdF S nm p2 j sj H0 x))
  (hR : Rdr S nm p0 j sj H0 H.heap H.next) : FT Try.prog w0 N0 76 [.mptr j sj 0] H (RdF S nm p2 j sj H0 x) := by
 refine zco env0_ok fn76 [(0, .mptr j sj 0)] (by show 1 ≤ 9; decide) rfl ?_
 obtain ⟨hp, nx, ck⟩ := H
 replace hR : Rdr S nm p0 j sj H0 hp nx := hR
 show Zm _ _ _ _ _ (st 9 _ hp nx ck) _ _
 unfold ic76
 refine za7 (za0 rfl (zat (za4 (za3 ?_))))
 have hR1 := hR.fresh ck (.cells [.int .i64 0, .int .i64 0, .nils])
 have htop : Am.look nx ((nx, ck, AObj.cells [.int .i64 0, .int .i64 0, .nils]) :: hp) = some (ck, .cells [.int .i64 0, .int .i64 0, .nils]) := zb9
 have hnx0 := hR.nx
 have hja : j ≠ nx := by have := hR.jx; omega
 generalize (nx, ck, AObj.cells [.int .i64 0, .int .i64 0, .nils]) :: hp = hp1 at *
 repeat (first | refine za7 ?_ | refine za0 rfl ?_ | refine za4 ?_ | refine za3 ?_ | refine za2 rfl ?_ | refine zcq rfl rfl ?_)
 refine zfw _ rfl rfl (zaw (h77 ⟨hp1, nx + 1, ck + 1⟩ ⟨hp1, nx + 1, ck + 1⟩ (hR1.self (ck + 1)))) zfv fun r H hF => ?_
 obtain ⟨rfl, hF⟩ := hF
 obtain ⟨hp2, nx2, ck2⟩ := H
 replace hF : Rdr S nm p2 j sj ⟨hp1, nx + 1, ck + 1⟩ hp2 nx2 := hF
 have ha := (hF.keep nx (Nat.lt_succ_self nx) (Ne.symm hja)).trans htop
 have hR2 := hR1.trans hF
 have hn2 : nx + 1 ≤ nx2 := hF.nx
 obtain ⟨xo, xi, xa⟩ := x
 refine zak (id := nx) (sp := ck) (off := 0) rfl rfl rfl rfl ha rfl rfl ?_
 repeat (first | refine za4 ?_ | refine za3 ?_ | refine zae ?_)
 exact zad ⟨.inr rfl, _, zeu ((zcs 2).trans rfl) (zc4 (id := nx) (sp := ck) (cs := cX (.nd xo xi xa)) (by show Am.look nx (zb6 nx _ hp2) = _; rw [za1, if_pos rfl]; rfl) (show nx < nx2 by omega)), rfl, hR2.put hnx0 _⟩
-- (*pneumatic/boolexp.reader).disjunction
def ic44 : IC := .seq (.region [⟨(some 2), .alloc [.int .i64 0, .int .i64 0, .nils], none⟩] none)
 (.seq (.region [⟨(some 4), .mov (.t 0), none⟩,
  ⟨(some 5), .mkfn 76 [(.t 4)] [], none⟩,
  ⟨(some 3), .mov (.t 5), none⟩] none)
 (.seq (.region [⟨(some 6), .mov (.t 0), none⟩,
  ⟨(some 7), .mov (.t 3), none⟩,
  ⟨(some 8), .call (.c (.fn 77 [] [])) [(.t 6), (.c (.int .i64 4)), (.c (.int .u8 124)), (.t 7)], none⟩,
  ⟨none, .store 3 (.t 2) (.t 8), none⟩] none)
 (.ret)))
theorem fn44 : env0.fn 44 = some ⟨9, ic44, [.cell 2 (some 3)]⟩ := by kernel_rfl
theorem disj44 {w0 : World} {N0 : Nat} {S : List UInt8} {nm : AV} {j sj p0 p2 : Nat} {x : Ex} {H0 H : HS}
  (h77 : ∀ H0 H : HS, Rdr S nm p0 j sj H0 H.heap H.next → FT Try.prog w0 N0 77 [.mptr j sj 0, .int .i64 4, .int .u8 124, .fn 76 [.mptr j sj 0] []] H (RdF S nm p2 j sj H0 x))
  (hR : Rdr S nm p0 j sj H0 H.heap H.next) : FT Try.prog w0 N0 44 [.mptr j sj 0] H (RdF S nm p2 j sj H0 x) := by
 refine zco env0_ok fn44 [(0, .mptr j sj 0)] (by show 1 ≤ 9; decide) rfl ?_
 obtain ⟨hp, nx, ck⟩ := H
 replace hR : Rdr S nm p0 j sj H0 hp nx := hR
 show Zm _ _ _ _ _ (st 9 _ hp nx ck) _ _
 unfold ic44
 refine za7 (za0 rfl (zat (za4 (za3 ?_))))
 have hR1 := hR.fresh ck (.cells [.int .i64 0, .int .i64 0, .nils])
 have htop : Am.look nx ((nx, ck, AObj.cells [.int .i64 0, .int .i64 0, .nils]) :: hp) = some (ck, .cells [.int .i64 0, .int .i64 0, .nils]) := zb9
 have hnx0 := hR.nx
 have hja : j ≠ nx := by have := hR.jx; omega
 generalize (nx, ck, AObj.cells [.int .i64 0, .int .i64 0, .nils]) :: hp = hp1 at *
 repeat (first | refine za7 ?_ | refine za0 rfl ?_ | refine za4 ?_ | refine za3 ?_ | refine za2 rfl ?_ | refine zcq rfl rfl ?_)
 refine zfw _ rfl rfl (zaw (h77 ⟨hp1, nx + 1, ck + 1⟩ ⟨hp1, nx + 1, ck + 1⟩ (hR1.self (ck + 1)))) zfv fun r H hF => ?_
 obtain ⟨rfl, hF⟩ := hF
 obtain ⟨hp2, nx2, ck2⟩ := H
 replace hF : Rdr S nm p2 j sj ⟨hp1, nx + 1, ck + 1⟩ hp2 nx2 := hF
 have ha := (hF.keep nx (Nat.lt_succ_self nx) (Ne.symm hja)).trans htop
 have hR2 := hR1.trans hF
 have hn2 : nx + 1 ≤ nx2 := hF.nx
 obtain ⟨xo, xi, xa⟩ := x
 refine zak (id := nx) (sp := ck) (off := 0) rfl rfl rfl rfl ha rfl rfl ?_
 repeat (first | refine za4 ?_ | refine za3 ?_ | refine zae ?_)
 exact zad ⟨.inr rfl, _, zeu ((zcs 2).trans rfl) (zc4 (id := nx) (sp := ck) (cs := cX (.nd xo xi xa)) (by show Am.look nx (zb6 nx _ hp2) = _; rw [za1, if_pos rfl]; rfl) (show nx < nx2 by omega)), rfl, hR2.put hnx0 _⟩
-- (*pneumatic/boolexp.reader).single
def zt1 : IC := .seq (.region [⟨(some 2), .alloc [.int .i64 0, .int .i64 0, .nils], none⟩] none)
 (.seq (.seq (.region [⟨(some 5), .mov (.t 0), none⟩,
  ⟨(some 6), .call (.c (.fn 45 [] [])) [(.t 5)], none⟩,
  ⟨(some 3), .mov (.t 6), none⟩] none)
 (.block 0 (.seq (.region [⟨(some 8), .mov (.t 3), none⟩,
  ⟨(some 9), .bin .eql (.t 8) (.c (.int .u8 33)), none⟩,
  ⟨(some 7), .mov (.t 9), none⟩] none)
 (.cond (.t 7) (.seq (.region [⟨(some 10), .mov (.t 0), none⟩,
  ⟨(some 11), .nilchk (.t 10), none⟩,
  ⟨(some 12), .faddr 2 (.t 11), none⟩,
  ⟨(some 13), .load none (.t 12), none⟩,
  ⟨(some 14), .bin .add (.t 13) (.c (.int .i64 1)), none⟩,
  ⟨(some 15), .nilchk (.t 10), none⟩,
  ⟨(some 16), .faddr 2 (.t 15), none⟩,
  ⟨none, .store 1 (.t 16) (.t 14), none⟩] none)
 (.seq (.region [⟨(some 17), .mov (.t 0), none⟩,
  ⟨(some 18), .call (.c (.fn 100 [] [])) [(.t 17)], none⟩,
  ⟨(some 19), .call (.c (.fn 87 [] [])) [(.t 18)], none⟩,
  ⟨none, .store 3 (.t 2) (.t 19), none⟩] none)
 (.ret)))
 (.seq (.region [⟨(some 21), .mov (.t 3), none⟩,
  ⟨(some 22), .bin .eql (.t 21) (.c (.int .u8 40)), none⟩,
  ⟨(some 20), .mov (.t 22), none⟩] none)
 (.cond (.t 20) (.seq (.region [⟨(some 23), .mov (.t 0), none⟩,
  ⟨(some 24), .nilchk (.t 23), none⟩,
  ⟨(some 25), .faddr 2 (.t 24), none⟩,
  ⟨(some 26), .load none (.t 25), none⟩,
  ⟨(some 27), .bin .add (.t 26) (.c (.int .i64 1)), none⟩,
  ⟨(some 28), .nilchk (.t 23), none⟩,
  ⟨(some 29), .faddr 2 (.t 28), none⟩,
  ⟨none, .store 1 (.t 29) (.t 27), none⟩] none)
 (.seq (.region [⟨(some 30), .mov (.t 0), none⟩,
  ⟨(some 31), .call (.c (.fn 44 [] [])) [(.t 30)], none⟩,
  ⟨(some 4), .alloc [.int .i64 0, .int .i64 0, .nils], none⟩,
  ⟨none, .store 3 (.t 4) (.t 31), none⟩] none)
 (.seq (.seq (.region [⟨(some 32), .mov (.t 0), none⟩,
  ⟨(some 33), .call (.c (.fn 101 [] [])) [(.t 32), (.c (.int .u8 41))], none⟩,
  ⟨(some 34), .un .not (.t 33), none⟩] none)
 (.cond (.t 34) (.seq (.region [⟨(some 35), .mov (.t 0), none⟩,
  ⟨(some 36), .call (.c (.fn 46 [] [])) [(.t 35), (.c (.int .i64 4))], none⟩,
  ⟨none, .store 3 (.t 2) (.t 36), none⟩] none)
 (.ret))
 (.skip)))
 (.seq (.region [⟨(some 37), .load (some 3) (.t 4), none⟩,
  ⟨none, .store 3 (.t 2) (.t 37), none⟩] none)
 (.ret)))))
 (.seq (.region [⟨(some 39), .mov (.t 3), none⟩,
  ⟨(some 40), .bin .eql (.t 39) (.c (.int .u8 48)), none⟩,
  ⟨(some 41), .mov (.t 40), none⟩,
  ⟨(some 42), .mov (.t 3), some (41, false)⟩,
  ⟨(some 43), .bin .eql (.t 42) (.c (.int .u8 49)), some (41, false)⟩,
  ⟨(some 44), .pick (.t 41) (.c (.bool true)) (.t 43), none⟩,
  ⟨(some 38), .mov (.t 44), none⟩] none)
 (.cond (.t 38) (.seq (.region [⟨(some 45), .mov (.t 0), none⟩,
  ⟨(some 46), .nilchk (.t 45), none⟩,
  ⟨(some 47), .faddr 2 (.t 46), none⟩,
  ⟨(some 48), .load none (.t 47), none⟩,
  ⟨(some 49), .bin .add (.t 48) (.c (.int .i64 1)), none⟩,
  ⟨(some 50), .nilchk (.t 45), none⟩,
  ⟨(some 51), .faddr 2 (.t 50), none⟩,
  ⟨none, .store 1 (.t 51) (.t 49), none⟩] none)
 (.seq (.region [⟨(some 52), .mov (.t 3), none⟩,
  ⟨(some 53), .bin .eql (.t 52) (.c (.int .u8 49)), none⟩,
  ⟨(some 54), .call (.c (.fn 84 [] [])) [(.t 53)], none⟩,
  ⟨none, .store 3 (.t 2) (.t 54), none⟩] none)
 (.ret)))
 (.seq (.region [⟨(some 56), .mov (.t 3), none⟩,
  ⟨(some 57), .call (.c (.fn 97 [] [])) [(.t 56)], none⟩,
  ⟨(some 55), .mov (.t 57), none⟩] none)
 (.cond (.t 55) (.seq (.region [⟨(some 58), .mov (.t 0), none⟩,
  ⟨(some 59), .call (.c (.fn 118 [] [])) [(.t 58)], none⟩,
  ⟨none, .store 3 (.t 2) (.t 59), none⟩] none)
 (.ret))
 (.skip)))))))))))
 (.seq (.region [⟨(some 60), .mov (.t 0), none⟩,
  ⟨(some 61), .call (.c (.fn 46 [] [])) [(.t 60), (.c (.int .i64 4))], none⟩,
  ⟨none, .store 3 (.t 2) (.t 61), none⟩] none)
 (.ret)))
theorem fn100 : env0.fn 100 = some ⟨62, zt1, [.cell 2 (some 3)]⟩ := by kernel_rfl
theorem zqh {w0 : World} {N0 : Nat} {S : List UInt8} {nm : AV} {j sj p0 p p2 : Nat} {y : Ex} {H0 H : HS} (hN : Nx S p0 p 33)
  (hrec : ∀ H0 H : HS, Rdr S nm (p + 1) j sj H0 H.heap H.next → FT Try.prog w0 N0 100 [.mptr j sj 0] H (RdF S nm p2 j sj H0 y))
  (hR : Rdr S nm p0 j sj H0 H.heap H.next) : FT Try.prog w0 N0 100 [.mptr j sj 0] H (RdF S nm p2 j sj H0 (.nd 2 0 [y])) := by
 have hsl := hN.len
 have hlp := hN.lp
 have p87 := neg87 y
 have hny : negX y = .nd 2 0 [y] := rfl
 rw [hny] at p87
 refine zco env0_ok fn100 [(0, .mptr j sj 0)] (by show 1 ≤ 62; decide) rfl ?_
 obtain ⟨hp, nx, ck⟩ := H
 replace hR : Rdr S nm p0 j sj H0 hp nx := hR
 show Zm _ _ _ _ _ (st 62 _ hp nx ck) _ _
 unfold zt1
 refine za7 (za0 rfl (zat (za4 (za3 ?_))))
 have hR1 := hR.fresh ck (.cells [.int .i64 0, .int .i64 0, .nils])
 have htop : Am.look nx ((nx, ck, AObj.cells [.int .i64 0, .int .i64 0, .nils]) :: hp) = some (ck, .cells [.int .i64 0, .int .i64 0, .nils]) := zb9
 have hnx0 := hR.nx
 have hja : j ≠ nx := by have := hR.jx; omega
 have hna : nx < nx + 1 := Nat.lt_succ_self nx
 generalize (nx, ck, AObj.cells [.int .i64 0, .int .i64 0, .nils]) :: hp = hp1 at *
 generalize nx + 1 = nx1 at *
 generalize ck + 1 = ck1 at *
 repeat (first | refine za7 ?_ | refine za0 rfl ?_ | refine za2 rfl ?_)
 refine zfw _ rfl rfl (zaw (zjx hN (H := ⟨hp1, nx1, ck1⟩) (hR1.self ck1))) zfv fun r H hF => ?_
 obtain ⟨rfl, hF⟩ := hF
 obtain ⟨hp2, nx2, ck2⟩ := H
 replace hF : Rdr S nm p j sj ⟨hp1, nx1, ck1⟩ hp2 nx2 := hF
 have ha2 := (hF.keep nx hna (Ne.symm hja)).trans htop
 have hR2 := hR1.trans hF
 have hn2 : nx1 ≤ nx2 := hF.nx
 clear hF htop hR1
 have w1 : IntKind.wrap .i64 (((p : Nat) : Int) + 1) = ((p + 1 : Nat) : Int) := zbb p (by omega)
 repeat (first | refine za7 ?_ | refine za0 rfl ?_ | refine za4 ?_ | refine za3 ?_ | refine zai ?_ | refine zbe rfl ?_ | refine za2 rfl ?_ | refine za8 rfl ?_ | refine zbm rfl rfl rfl ?_ | refine zaq rfl ?_)
 refine zc3 (id := j) (sp := sj) (off := 0 + 2) rfl hR2.obj hR2.jx rfl ?_
 repeat (first | refine za8 rfl ?_ | refine zb8 (op := .add) rfl rfl rfl ?_ | refine zaq rfl ?_)
 rw [w1]
 refine zet (id := j) (sp := sj) (off := 0 + 2) rfl rfl rfl hR2.obj (by show 2 < 4; decide) rfl ?_
 have hR3 : Rdr S nm (p + 1) j sj H0 (zb6 j (sj, AObj.cells ([.str S, nm, .int .i64 (p : Nat), .int .i64 0].set (0 + 2) (.int .i64 ((p + 1 : Nat) : Int)))) hp2) nx2 := hR2.at (p + 1)
 have ha3 : Am.look nx (zb6 j (sj, AObj.cells ([.str S, nm, .int .i64 (p : Nat), .int .i64 0].set (0 + 2) (.int .i64 ((p + 1 : Nat) : Int)))) hp2) = some (ck, .cells [.int .i64 0, .int .i64 0, .nils]) := by
  rw [za1, if_neg hja]; exact ha2
 show Om _ _ _ _ _ _ (st 62 _ (zb6 j (sj, AObj.cells ([.str S, nm, .int .i64 (p : Nat), .int .i64 0].set (0 + 2) (.int .i64 ((p + 1 : Nat) : Int)))) hp2) nx2 ck2) _ _
 generalize zb6 j (sj, AObj.cells ([.str S, nm, .int .i64 (p : Nat), .int .i64 0].set (0 + 2) (.int .i64 ((p + 1 : Nat) : Int)))) hp2 = hp3 at *
 repeat (first | refine za7 ?_ | refine za0 rfl ?_ | refine za4 ?_ | refine za3 ?_ | refine za2 rfl ?_)
 refine zfw _ rfl rfl (zaw (hrec ⟨hp3, nx2, ck2⟩ ⟨hp3, nx2, ck2⟩ (hR3.self ck2))) zfv fun r H hF => ?_
 obtain ⟨rfl, hF⟩ := hF
 obtain ⟨hp4, nx4, ck4⟩ := H
 replace hF : Rdr S nm p2 j sj ⟨hp3, nx2, ck2⟩ hp4 nx4 := hF
 have ha4 := (hF.keep nx (by show nx < nx2; omega) (Ne.symm hja)).trans ha3
 have hR4 := hR3.trans hF
 have hn4 : nx2 ≤ nx4 := hF.nx
 obtain ⟨yo, yi, ya⟩ := y
 refine zay rfl rfl p87 (fun h => Bool.noConfusion (show false = true from h)) ?_
 refine zak (id := nx) (sp := ck) (off := 0) rfl rfl rfl rfl ha4 rfl rfl ?_
 repeat (first | refine za4 ?_ | refine za3 ?_ | refine zae ?_ | refine za6 ?_ | refine zaf ?_)
 exact zad ⟨.inr rfl, _, zeu ((zcs 2).trans rfl) (zc4 (id := nx) (sp := ck) (cs := cX (.nd 2 0 [.nd yo yi ya])) (by show Am.look nx (zb6 nx _ hp4) = _; rw [za1, if_pos rfl]; rfl) (show nx < nx4 by omega)), rfl, hR4.put hnx0 _⟩
end Go.Proofs.Ytmnkjofaodbokaa
namespace Go.Proofs.Ytmnkjofaodbokaa
open Go Go.Am
theorem zqf {w0 : World} {N0 : Nat} {S : List UInt8} {nm : AV} {j sj p0 p p2 : Nat} {y : Ex} {H0 H : HS} (hN : Nx S p0 p 40) (hN2 : Nx S p2 p2 41)
  (hrec : ∀ H0 H : HS, Rdr S nm (p + 1) j sj H0 H.heap H.next → FT Try.prog w0 N0 44 [.mptr j sj 0] H (RdF S nm p2 j sj H0 y))
  (hR : Rdr S nm p0 j sj H0 H.heap H.next) : FT Try.prog w0 N0 100 [.mptr j sj 0] H (RdF S nm (p2 + 1) j sj H0 y) := by
 have hsl := hN.len
 have hlp := hN.lp
 refine zco env0_ok fn100 [(0, .mptr j sj 0)] (by show 1 ≤ 62; decide) rfl ?_
 obtain ⟨hp, nx, ck⟩ := H
 replace hR : Rdr S nm p0 j sj H0 hp nx := hR
 show Zm _ _ _ _ _ (st 62 _ hp nx ck) _ _
 unfold zt1
 refine za7 (za0 rfl (zat (za4 (za3 ?_))))
 have hR1 := hR.fresh ck (.cells [.int .i64 0, .int .i64 0, .nils])
 have htop : Am.look nx ((nx, ck, AObj.cells [.int .i64 0, .int .i64 0, .nils]) :: hp) = some (ck, .cells [.int .i64 0, .int .i64 0, .nils]) := zb9
 have hnx0 := hR.nx
 have hja : j ≠ nx := by have := hR.jx; omega
 have hna : nx < nx + 1 := Nat.lt_succ_self nx
 generalize (nx, ck, AObj.cells [.int .i64 0, .int .i64 0, .nils]) :: hp = hp1 at *
 generalize nx + 1 = nx1 at *
 generalize ck + 1 = ck1 at *
 repeat (first | refine za7 ?_ | refine za0 rfl ?_ | refine za2 rfl ?_)
 refine zfw _ rfl rfl (zaw (zjx hN (H := ⟨hp1, nx1, ck1⟩) (hR1.self ck1))) zfv fun r H hF => ?_
 obtain ⟨rfl, hF⟩ := hF
 obtain ⟨hp2, nx2, ck2⟩ := H
 replace hF : Rdr S nm p j sj ⟨hp1, nx1, ck1⟩ hp2 nx2 := hF
 have ha2 := (hF.keep nx hna (Ne.symm hja)).trans htop
 have hR2 := hR1.trans hF
 have hn2 : nx1 ≤ nx2 := hF.nx
 clear hF htop hR1
 have w1 : IntKind.wrap .i64 (((p : Nat) : Int) + 1) = ((p + 1 : Nat) : Int) := zbb p (by omega)
 repeat (first | refine za7 ?_ | refine za0 rfl ?_ | refine za4 ?_ | refine za3 ?_ | refine zai ?_ | refine zbe rfl ?_ | refine zbi rfl ?_ | refine za2 rfl ?_ | refine za8 rfl ?_ | refine zbm rfl rfl rfl ?_ | refine zav rfl rfl rfl ?_ | refine zaq rfl ?_)
 refine zc3 (id := j) (sp := sj) (off := 0 + 2) rfl hR2.obj hR2.jx rfl ?_
 repeat (first | refine za8 rfl ?_ | refine zb8 (op := .add) rfl rfl rfl ?_ | refine zaq rfl ?_)
 rw [w1]
 refine zet (id := j) (sp := sj) (off := 0 + 2) rfl rfl rfl hR2.obj (by show 2 < 4; decide) rfl ?_
 have hR3 : Rdr S nm (p + 1) j sj H0 (zb6 j (sj, AObj.cells ([.str S, nm, .int .i64 (p : Nat), .int .i64 0].set (0 + 2) (.int .i64 ((p + 1 : Nat) : Int)))) hp2) nx2 := hR2.at (p + 1)
 have ha3 : Am.look nx (zb6 j (sj, AObj.cells ([.str S, nm, .int .i64 (p : Nat), .int .i64 0].set (0 + 2) (.int .i64 ((p + 1 : Nat) : Int)))) hp2) = some (ck, .cells [.int .i64 0, .int .i64 0, .nils]) := by
  rw [za1, if_neg hja]; exact ha2
 show Om _ _ _ _ _ _ (st 62 _ (zb6 j (sj, AObj.cells ([.str S, nm, .int .i64 (p : Nat), .int .i64 0].set (0 + 2) (.int .i64 ((p + 1 : Nat) : Int)))) hp2) nx2 ck2) _ _
 generalize zb6 j (sj, AObj.cells ([.str S, nm, .int .i64 (p : Nat), .int .i64 0].set (0 + 2) (.int .i64 ((p + 1 : Nat) : Int)))) hp2 = hp3 at *
 repeat (first | refine za7 ?_ | refine za0 rfl ?_ | refine za4 ?_ | refine za3 ?_ | refine za2 rfl ?_)
 refine zfw _ rfl rfl (zaw (hrec ⟨hp3, nx2, ck2⟩ ⟨hp3, nx2, ck2⟩ (hR3.self ck2))) zfv fun r H hF => ?_
 obtain ⟨rfl, hF⟩ := hF
 obtain ⟨hp4, nx4, ck4⟩ := H
 replace hF : Rdr S nm p2 j sj ⟨hp3, nx2, ck2⟩ hp4 nx4 := hF
 have ha4 := (hF.keep nx (by show nx < nx2; omega) (Ne.symm hja)).trans ha3
 have hR4 := hR3.trans hF
 have hn4 : nx2 ≤ nx4 := hF.nx
 clear hF ha3 hR3
 obtain ⟨yo, yi, ya⟩ := y
 refine zat ?_
 refine zak (id := nx4) (sp := ck4) (off := 0) rfl rfl rfl rfl zb9 rfl rfl ?_
 refine za4 (za3 ?_)
 refine zgp nx4 ck4 (cs := cX (.nd yo yi ya)) (l' := [(0, .mptr j sj 0), (2, .mptr nx ck 0), (4, .vptr (cX (.nd yo yi ya)))]) (by rw [za1, if_pos rfl]; rfl) rfl (.cons rfl .same (.cons rfl .same (.cons rfl (.fptr rfl) .nil))) ?_
 have hR5 : Rdr S nm p2 j sj H0 (zbj nx4 (zb6 nx4 (ck4, AObj.cells (setAt 0 [.int .i64 0, .int .i64 0, .nils] (cX (.nd yo yi ya)))) ((nx4, ck4, AObj.cells [.int .i64 0, .int .i64 0, .nils]) :: hp4))) (nx4 + 1) := ((hR4.fresh ck4 _).put (i := nx4) hR4.nx _).drop (i := nx4) hR4.nx
 have ha5 : Am.look nx (zbj nx4 (zb6 nx4 (ck4, AObj.cells (setAt 0 [.int .i64 0, .int .i64 0, .nils] (cX (.nd yo yi ya)))) ((nx4, ck4, AObj.cells [.int .i64 0, .int .i64 0, .nils]) :: hp4))) = some (ck, .cells [.int .i64 0, .int .i64 0, .nils]) := by
  rw [zac, if_neg (by omega), za1, if_neg (by omega), zaj, if_neg (by omega)]; exact ha4
 show Zm _ _ _ _ _ (st 62 _ (zbj nx4 (zb6 nx4 (ck4, AObj.cells (setAt 0 [.int .i64 0, .int .i64 0, .nils] (cX (.nd yo yi ya)))) ((nx4, ck4, AObj.cells [.int .i64 0, .int .i64 0, .nils]) :: hp4))) (nx4 + 1) (ck4 + 1)) _ _
 generalize zbj nx4 (zb6 nx4 (ck4, AObj.cells (setAt 0 [.int .i64 0, .int .i64 0, .nils] (cX (.nd yo yi ya)))) ((nx4, ck4, AObj.cells [.int .i64 0, .int .i64 0, .nils]) :: hp4)) = hp5 at *
 repeat (first | refine za7 ?_ | refine za0 rfl ?_ | refine za2 rfl ?_)
 refine zfw _ rfl rfl (zaw (zle (b := 41) hN2 (H := ⟨hp5, nx4 + 1, ck4 + 1⟩) (hR5.self (ck4 + 1)))) zfv fun r H hF => ?_
 rw [if_pos rfl, beq_self_eq_true] at hF
 obtain ⟨rfl, hF⟩ := hF
 obtain ⟨hp6, nx6, ck6⟩ := H
 replace hF : Rdr S nm (p2 + 1) j sj ⟨hp5, nx4 + 1, ck4 + 1⟩ hp6 nx6 := hF
 have ha6 := (hF.keep nx (by show nx < nx4 + 1; omega) (Ne.symm hja)).trans ha5
 have hR6 := hR5.trans hF
 have hn6 : nx4 + 1 ≤ nx6 := hF.nx
 repeat (first | refine za7 ?_ | refine za0 rfl ?_ | refine za4 ?_ | refine za3 ?_ | refine zab ?_ | refine zbi rfl ?_ | refine zap rfl rfl rfl rfl ?_ | refine ze6 rfl rfl ?_)
 refine zak (id := nx) (sp := ck) (off := 0) rfl rfl rfl rfl ha6 rfl rfl ?_
 repeat (first | refine za4 ?_ | refine za3 ?_ | refine zae ?_ | refine za6 ?_ | refine zaf ?_)
 exact zad ⟨.inr rfl, _, zeu ((zcs 2).trans rfl) (zc4 (id := nx) (sp := ck) (cs := cX (.nd yo yi ya)) (by show Am.look nx (zb6 nx _ hp6) = _; rw [za1, if_pos rfl]; rfl) (show nx < nx6 by omega)), rfl, hR6.put hnx0 _⟩
theorem zqg {w0 : World} {N0 : Nat} {S : List UInt8} {nm : AV} {j sj p0 p : Nat} {v : Bool} {H0 H : HS} (hN : Nx S p0 p (if v = true then 49 else 48))
  (hR : Rdr S nm p0 j sj H0 H.heap H.next) : FT Try.prog w0 N0 100 [.mptr j sj 0] H (RdF S nm (p + 1) j sj H0 (zhf v)) := by
 have hsl := hN.len
 have hlp := hN.lp
 refine zco env0_ok fn100 [(0, .mptr j sj 0)] (by show 1 ≤ 62; decide) rfl ?_
 obtain ⟨hp, nx, ck⟩ := H
 replace hR : Rdr S nm p0 j sj H0 hp nx := hR
 show Zm _ _ _ _ _ (st 62 _ hp nx ck) _ _
 unfold zt1
 refine za7 (za0 rfl (zat (za4 (za3 ?_))))
 have hR1 := hR.fresh ck (.cells [.int .i64 0, .int .i64 0, .nils])
 have htop : Am.look nx ((nx, ck, AObj.cells [.int .i64 0, .int .i64 0, .nils]) :: hp) = some (ck, .cells [.int .i64 0, .int .i64 0, .nils]) := zb9
 have hnx0 := hR.nx
 have hja : j ≠ nx := by have := hR.jx; omega
 have hna : nx < nx + 1 := Nat.lt_succ_self nx
 generalize (nx, ck, AObj.cells [.int .i64 0, .int .i64 0, .nils]) :: hp = hp1 at *
 generalize nx + 1 = nx1 at *
 generalize ck + 1 = ck1 at *
 repeat (first | refine za7 ?_ | refine za0 rfl ?_ | refine za2 rfl ?_)
 refine zfw _ rfl rfl (zaw (zjx hN (H := ⟨hp1, nx1, ck1⟩) (hR1.self ck1))) zfv fun r H hF => ?_
 obtain ⟨rfl, hF⟩ := hF
 obtain ⟨hp2, nx2, ck2⟩ := H
 replace hF : Rdr S nm p j sj ⟨hp1, nx1, ck1⟩ hp2 nx2 := hF
 have ha2 := (hF.keep nx hna (Ne.symm hja)).trans htop
 have hR2 := hR1.trans hF
 have hn2 : nx1 ≤ nx2 := hF.nx
 clear hF htop hR1
 have w1 : IntKind.wrap .i64 (((p : Nat) : Int) + 1) = ((p + 1 : Nat) : Int) := zbb p (by omega)
 have ha3 : Am.look nx (zb6 j (sj, AObj.cells ([.str S, nm, .int .i64 (p : Nat), .int .i64 0].set (0 + 2) (.int .i64 ((p + 1 : Nat) : Int)))) hp2) = some (ck, .cells [.int .i64 0, .int .i64 0, .nils]) := by
  rw [za1, if_neg hja]; exact ha2
 have hR3 : Rdr S nm (p + 1) j sj H0 (zb6 j (sj, AObj.cells ([.str S, nm, .int .i64 (p : Nat), .int .i64 0].set (0 + 2) (.int .i64 ((p + 1 : Nat) : Int)))) hp2) nx2 := hR2.at (p + 1)
 cases v with
 | true =>
  repeat (first | refine za7 ?_ | refine za0 rfl ?_ | refine za4 ?_ | refine za3 ?_ | refine zai ?_ | refine zbe rfl ?_ | refine zbi rfl ?_ | refine zbz rfl ?_ | refine za2 rfl ?_ | refine za8 rfl ?_ | refine zaa rfl rfl ?_ | refine zbm rfl rfl rfl ?_ | refine zav rfl rfl rfl ?_ | refine zaq rfl ?_)
  refine zc3 (id := j) (sp := sj) (off := 0 + 2) rfl hR2.obj hR2.jx rfl ?_
  repeat (first | refine za8 rfl ?_ | refine zb8 (op := .add) rfl rfl rfl ?_ | refine zaq rfl ?_)
  rw [w1]
  refine zet (id := j) (sp := sj) (off := 0 + 2) rfl rfl rfl hR2.obj (by show 2 < 4; decide) rfl ?_
  repeat (first | refine za7 ?_ | refine za0 rfl ?_ | refine za4 ?_ | refine za3 ?_ | refine za2 rfl ?_ | refine zbm rfl rfl rfl ?_)
  refine zay rfl rfl (zrw true) (fun h => Bool.noConfusion (show false = true from h)) ?_
  refine zak (id := nx) (sp := ck) (off := 0) rfl rfl rfl rfl ha3 rfl rfl ?_
  repeat (first | refine za4 ?_ | refine za3 ?_ | refine zae ?_ | refine za6 ?_ | refine zaf ?_)
  exact zad ⟨.inr rfl, _, zeu ((zcs 2).trans rfl) (zc4 (id := nx) (sp := ck) (cs := cX (zhf true)) (by show Am.look nx (zb6 nx _ _) = _; rw [za1, if_pos rfl]; rfl) (show nx < nx2 by omega)), rfl, hR3.put hnx0 _⟩
 | false =>
  repeat (first | refine za7 ?_ | refine za0 rfl ?_ | refine za4 ?_ | refine za3 ?_ | refine zai ?_ | refine zbe rfl ?_ | refine zbi rfl ?_ | refine zcz rfl rfl ?_ | refine za2 rfl ?_ | refine za8 rfl ?_ | refine zag rfl rfl ?_ | refine zbm rfl rfl rfl ?_ | refine zav rfl rfl rfl ?_ | refine zaq rfl ?_)
  refine zc3 (id := j) (sp := sj) (off := 0 + 2) rfl hR2.obj hR2.jx rfl ?_
  repeat (first | refine za8 rfl ?_ | refine zb8 (op := .add) rfl rfl rfl ?_ | refine zaq rfl ?_)
  rw [w1]
  refine zet (id := j) (sp := sj) (off := 0 + 2) rfl rfl rfl hR2.obj (by show 2 < 4; decide) rfl ?_
  repeat (first | refine za7 ?_ | refine za0 rfl ?_ | refine za4 ?_ | refine za3 ?_ | refine za2 rfl ?_ | refine zav rfl rfl rfl ?_)
  refine zay rfl rfl (zrw false) (fun h => Bool.noConfusion (show false = true from h)) ?_
  refine zak (id := nx) (sp := ck) (off := 0) rfl rfl rfl rfl ha3 rfl rfl ?_
  repeat (first | refine za4 ?_ | refine za3 ?_ | refine zae ?_ | refine za6 ?_ | refine zaf ?_)
  exact zad ⟨.inr rfl, _, zeu ((zcs 2).trans rfl) (zc4 (id := nx) (sp := ck) (cs := cX (zhf false)) (by show Am.look nx (zb6 nx _ _) = _; rw [za1, if_pos rfl]; rfl) (show nx < nx2 by omega)), rfl, hR3.put hnx0 _⟩
theorem zqi {w0 : World} {N0 : Nat} {S : List UInt8} {nm : List (List UInt8)} {j sj p0 p m : Nat} {c : UInt8} {H0 H : HS} (hok : NmOk nm) (hm : m < nm.length) (hN : Nx S p0 p c) (hc : zdt c.toNat = true) (hat : At S nm[m] p) (hend : EndOk S (p + nm[m].length)) (hpl : p + nm[m].length ≤ S.length)
  (hR : Rdr S (vsS nm) p0 j sj H0 H.heap H.next) : FT Try.prog w0 N0 100 [.mptr j sj 0] H (RdF S (vsS nm) (p + nm[m].length) j sj H0 (.nd 1 (m : Nat) [])) := by
 have hsl := hN.len
 have hlp := hN.lp
 have h118 := fun H0 H hR => zo4 (w0 := w0) (N0 := N0) (j := j) (sj := sj) (H0 := H0) (H := H) hok hm hat hend hsl hpl hR
 have p97 := zoy c
 rw [hc] at p97
 have hcr : 65 ≤ c.toNat := by
  unfold zdt at hc
  simp at hc
  omega
 generalize p + nm[m].length = p2 at *
 refine zco env0_ok fn100 [(0, .mptr j sj 0)] (by show 1 ≤ 62; decide) rfl ?_
 obtain ⟨hp, nx, ck⟩ := H
 replace hR : Rdr S (vsS nm) p0 j sj H0 hp nx := hR
 show Zm _ _ _ _ _ (st 62 _ hp nx ck) _ _
 unfold zt1
 refine za7 (za0 rfl (zat (za4 (za3 ?_))))
 have hR1 := hR.fresh ck (.cells [.int .i64 0, .int .i64 0, .nils])
 have htop : Am.look nx ((nx, ck, AObj.cells [.int .i64 0, .int .i64 0, .nils]) :: hp) = some (ck, .cells [.int .i64 0, .int .i64 0, .nils]) := zb9
 have hnx0 := hR.nx
 have hja : j ≠ nx := by have := hR.jx; omega
 have hna : nx < nx + 1 := Nat.lt_succ_self nx
 generalize (nx, ck, AObj.cells [.int .i64 0, .int .i64 0, .nils]) :: hp = hp1 at *
 generalize nx + 1 = nx1 at *
 generalize ck + 1 = ck1 at *
 repeat (first | refine za7 ?_ | refine za0 rfl ?_ | refine za2 rfl ?_)
 refine zfw _ rfl rfl (zaw (zjx hN (H := ⟨hp1, nx1, ck1⟩) (hR1.self ck1))) zfv fun r H hF => ?_
 obtain ⟨rfl, hF⟩ := hF
 obtain ⟨hp2, nx2, ck2⟩ := H
 replace hF : Rdr S (vsS nm) p j sj ⟨hp1, nx1, ck1⟩ hp2 nx2 := hF
 have ha2 := (hF.keep nx hna (Ne.symm hja)).trans htop
 have hR2 := hR1.trans hF
 have hn2 : nx1 ≤ nx2 := hF.nx
 clear hF htop hR1
 have hne : ∀ k : Int, k < 65 → Am.binOp .eql (.int .u8 c.toNat) (.int .u8 k) = some (.bool false) := fun k hk => by
  show some (AV.bool ((c.toNat : Int) == k)) = _
  rw [beq_eq_false_iff_ne.2 (by omega)]
 repeat (first | refine za7 ?_ | refine za0 rfl ?_ | refine za4 ?_ | refine za3 ?_ | refine zai ?_ | refine za2 rfl ?_)
 refine zav rfl rfl (hne 33 (by decide)) ?_
 repeat (first | refine za7 ?_ | refine za0 rfl ?_ | refine za4 ?_ | refine za3 ?_ | refine zbi rfl ?_ | refine za2 rfl ?_)
 refine zav rfl rfl (hne 40 (by decide)) ?_
 repeat (first | refine za7 ?_ | refine za0 rfl ?_ | refine za4 ?_ | refine za3 ?_ | refine zbi rfl ?_ | refine za2 rfl ?_)
 refine zav rfl rfl (hne 48 (by decide)) ?_
 repeat (first | refine zbz rfl ?_ | refine za2 rfl ?_)
 refine zav rfl rfl (hne 49 (by decide)) ?_
 repeat (first | refine za7 ?_ | refine za0 rfl ?_ | refine za4 ?_ | refine za3 ?_ | refine zbi rfl ?_ | refine za2 rfl ?_ | refine zaa rfl rfl ?_)
 refine zay rfl rfl p97 (fun h => Bool.noConfusion (show false = true from h)) ?_
 repeat (first | refine za7 ?_ | refine za0 rfl ?_ | refine za4 ?_ | refine za3 ?_ | refine zbe rfl ?_ | refine za2 rfl ?_)
 refine zfw _ rfl rfl (zaw (h118 ⟨hp2, nx2, ck2⟩ ⟨hp2, nx2, ck2⟩ (hR2.self ck2))) zfv fun r H hF => ?_
 obtain ⟨rfl, hF⟩ := hF
 obtain ⟨hp4, nx4, ck4⟩ := H
 replace hF : Rdr S (vsS nm) p2 j sj ⟨hp2, nx2, ck2⟩ hp4 nx4 := hF
 have ha4 := (hF.keep nx (by show nx < nx2; omega) (Ne.symm hja)).trans ha2
 have hR4 := hR2.trans hF
 have hn4 : nx2 ≤ nx4 := hF.nx
 refine zak (id := nx) (sp := ck) (off := 0) rfl rfl rfl rfl ha4 rfl rfl ?_
 repeat (first | refine za4 ?_ | refine za3 ?_ | refine zae ?_ | refine za6 ?_ | refine zaf ?_)
 exact zad ⟨.inr rfl, _, zeu ((zcs 2).trans rfl) (zc4 (id := nx) (sp := ck) (cs := cX (.nd 1 (m : Nat) [])) (by show Am.look nx (zb6 nx _ hp4) = _; rw [za1, if_pos rfl]; rfl) (show nx < nx4 by omega)), rfl, hR4.put hnx0 _⟩
end Go.Proofs.Ytmnkjofaodbokaa
namespace Go.Proofs.Ytmnkjofaodbokaa
open Go Go.Am
mutual
theorem zs8 : ∀ x y : Ex, eqX x y = true ↔ x = y
 | .nd o i a, .nd o' i' b => by
  rw [eqX, Bool.and_eq_true, Bool.and_eq_true, beq_iff_eq, beq_iff_eq, zor a b, Ex.nd.injEq]
theorem zor : ∀ a b : List Ex, zlx a b = true ↔ a = b
 | [], [] => by simp [zlx]
 | x :: xs, y :: ys => by rw [zlx, Bool.and_eq_true, zs8 x y, zor xs ys, List.cons.injEq]
 | [], _ :: _ => by simp [zlx]
 | _ :: _, [] => by simp [zlx]
end
theorem zero_con {n : Int} {z : Ex} (h : nds n z = 0) (h0 : opX z = 0) : z = zhf (ixX z == 1) := by
 obtain ⟨o, i, a⟩ := z
 obtain rfl : o = 0 := h0
 obtain ⟨hv, _⟩ := zfg h
 obtain ⟨_, _, _, h3, h4, h5⟩ := zfh hv
 have ha : a = [] := List.length_eq_zero_iff.1 (by
  have : zc1 0 = 0 := by decide
  omega)
 have hi : zbg 0 n = 1 := by simp [zbg]
 rw [hi] at h5
 subst ha
 show Ex.nd 0 i [] = zhf (i == 1)
 have : i = 0 ∨ i = 1 := by omega
 rcases this with rfl | rfl <;> rfl
end Go.Proofs.Ytmnkjofaodbokaa
namespace Go.Proofs.Ytmnkjofaodbokaa
open Go Go.Am
section
variable (w0 : World) (N0 : Nat) (S : List UInt8) (nm : List (List UInt8)) (j sj : Nat)
def SXp (x : Ex) : Prop := ∀ (p0 p : Nat) (c0 : UInt8) (H0 H : HS), At S (wrX nm 3 x) p → Nx S p0 p c0 → EndOk S (p + (wrX nm 3 x).length) → Rdr S (vsS nm) p0 j sj H0 H.heap H.next → FT Try.prog w0 N0 100 [.mptr j sj 0] H (RdF S (vsS nm) (p + (wrX nm 3 x).length) j sj H0 x)
def CXp (x : Ex) : Prop := ∀ (p0 p p2 : Nat) (c0 c2 : UInt8) (H0 H : HS), At S (wrX nm 4 x) p → Nx S p0 p c0 → Nx S (p + (wrX nm 4 x).length) p2 c2 → c2 ≠ 38 → zdm c2.toNat = false → Rdr S (vsS nm) p0 j sj H0 H.heap H.next → FT Try.prog w0 N0 76 [.mptr j sj 0] H (RdF S (vsS nm) p2 j sj H0 x)
def DXp (x : Ex) : Prop := ∀ (p0 p p2 : Nat) (c0 c2 : UInt8) (H0 H : HS), At S (wrX nm (-1) x) p → Nx S p0 p c0 → Nx S (p + (wrX nm (-1) x).length) p2 c2 → c2 ≠ 38 → c2 ≠ 124 → zdm c2.toNat = false → Rdr S (vsS nm) p0 j sj H0 H.heap H.next → FT Try.prog w0 N0 44 [.mptr j sj 0] H (RdF S (vsS nm) p2 j sj H0 x)
end
section
variable {w0 : World} {N0 : Nat} {S : List UInt8} {nm : List (List UInt8)} {j sj : Nat}
theorem zug {o op : Int} (ix : Int) (args : List Ex) (ho : op = 3 ∨ op = 4) (h : 0 ≤ o) (k : op = 4 ∨ o ≠ 4) : wrX nm o (.nd op ix args) = 40 :: (wrL nm op (if op = 4 then [32, 124, 32] else [32, 38, 32]) true args ++ [41]) := by
 rw [wrX, if_neg (by omega), if_neg (by omega), if_neg (by omega), if_pos ⟨h, k⟩]
 rfl
theorem wr_nb {o op : Int} (ix : Int) (args : List Ex) (ho : op = 3 ∨ op = 4) (h : ¬ (0 ≤ o ∧ (op = 4 ∨ o ≠ 4))) : wrX nm o (.nd op ix args) = wrL nm op (if op = 4 then [32, 124, 32] else [32, 38, 32]) true args := by
 rw [wrX, if_neg (by omega), if_neg (by omega), if_neg (by omega), if_neg h]
theorem wr_23 (y : Ex) : wrX nm 2 y = wrX nm 3 y := by
 obtain ⟨o, i, a⟩ := y
 by_cases ho : o = 3 ∨ o = 4
 ·rw [zug i a ho (by decide) (.inr (by decide)), zug i a ho (by decide) (.inr (by decide))]
 ·rw [wrX, wrX]
  by_cases h0 : o = 0
  ·rw [if_pos h0, if_pos h0]
  ·rw [if_neg h0, if_neg h0]
   by_cases h1 : o = 1
   ·rw [if_pos h1, if_pos h1]
   ·rw [if_neg h1, if_neg h1]
    by_cases h2 : o = 2
    ·rw [if_pos h2, if_pos h2]
    ·rw [if_neg h2, if_neg h2]
     rw [if_pos (show (0 : Int) ≤ 2 ∧ (o = 4 ∨ (2 : Int) ≠ 4) from ⟨by decide, .inr (by decide)⟩), if_pos (show (0 : Int) ≤ 3 ∧ (o = 4 ∨ (3 : Int) ≠ 4) from ⟨by decide, .inr (by decide)⟩)]
theorem cOfS {x : Ex} (he : wrX nm 4 x = wrX nm 3 x) (h : SXp w0 N0 S nm j sj x) : CXp w0 N0 S nm j sj x := by
 intro p0 p p2 c0 c2 H0 H hat hN hN2 hc hi hR
 rw [he] at hat hN2
 refine conj76 (fun H0 H hR => ?_) hR
 exact zgk (sign := 38) (op := 3) (fr := 100) (xs := [x]) (start := fun _ => p0) (stop := fun _ => p + (wrX nm 3 x).length) (sg := fun _ => 0) rfl (by simp) (by show 1 ≤ 1000; decide)
  (fun k hk H0 H hR => by
   obtain rfl : k = 0 := by have : k < 1 := hk; omega
   exact h p0 p c0 H0 H hat hN (hN2.endOk hi) hR) rfl (fun k hk => absurd hk (by show ¬ k + 1 < 1; omega)) hN2 hc hR
theorem dOfC {x : Ex} (he : wrX nm (-1) x = wrX nm 4 x) (h : CXp w0 N0 S nm j sj x) : DXp w0 N0 S nm j sj x := by
 intro p0 p p2 c0 c2 H0 H hat hN hN2 hc hc2 hi hR
 rw [he] at hat hN2
 refine disj44 (fun H0 H hR => ?_) hR
 exact zgk (sign := 124) (op := 4) (fr := 76) (xs := [x]) (start := fun _ => p0) (stop := fun _ => p2) (sg := fun _ => 0) rfl (by simp) (by show 1 ≤ 1000; decide)
  (fun k hk H0 H hR => by
   obtain rfl : k = 0 := by have : k < 1 := hk; omega
   exact h p0 p p2 c0 c2 H0 H hat hN hN2 hc hi hR) rfl (fun k hk => absurd hk (by show ¬ k + 1 < 1; omega)) hN2.stay hc2 hR
theorem zty {op : Int} {xs : List Ex} (h : 2 ≤ xs.length) : sevX op xs = .nd op 0 xs := by
 match xs, h with
 | x :: y :: r, _ => rfl
def bef (nm : List (List UInt8)) (o : Int) (xs : List Ex) (p p0 : Nat) : Nat → Nat
 | 0 => p0
 | k + 1 => stA nm o xs p k + (wrX nm o (xs.getD k (zhf false))).length + 2
theorem zir {xs : List Ex} {k : Nat} (hk : k < xs.length) : xs.getD k (zhf false) = xs[k] := by
 rw [List.getD_eq_getElem?_getD, List.getElem?_eq_getElem hk]; rfl
theorem bef_nx (hok : NmOk nm) (hSl : S.length < 1000000) {o : Int} {sg : UInt8} {xs : List Ex} {p p0 : Nat} {c0 : UInt8} (hne : xs ≠ []) (hk : ∀ y ∈ xs, nds (nm.length : Nat) y = 0) (hat : At S (wrL nm o [32, sg, 32] true xs) p) (hN : Nx S p0 p c0) (k : Nat) (hkl : k < xs.length) :
  ∃ c, Nx S (bef nm o xs p p0 k) (stA nm o xs p k) c := by
 obtain ⟨h1, h2, h3⟩ := zhq xs p hne hat
 match k, hkl with
 | 0, hkl =>
  refine ⟨c0, ?_⟩
  match xs, hne with
  | y :: ys, _ => exact hN
 | k + 1, hkl =>
  obtain ⟨a, b, c, d⟩ := h2 k hkl
  obtain ⟨e, U, he, hc⟩ := zll hok _ xs[k + 1] o (Nat.le_refl _) (hk _ (List.getElem_mem hkl))
  have h5 := h1 (k + 1) hkl
  rw [he] at h5
  have h6 := (zf5 h5).1
  refine ⟨e, ?_⟩
  rw [d] at h6 ⊢
  show Nx S (stA nm o xs p k + (wrX nm o (xs.getD k (zhf false))).length + 2) _ e
  rw [zir (Nat.lt_of_succ_lt hkl)]
  exact zmf c h6 hc hSl
theorem cAnd (hok : NmOk nm) (hSl : S.length < 1000000) {args : List Ex} (h2 : 2 ≤ args.length) (hlen : args.length ≤ 256) (hk : ∀ y ∈ args, nds (nm.length : Nat) y = 0) (ih : ∀ y ∈ args, SXp w0 N0 S nm j sj y) : CXp w0 N0 S nm j sj (.nd 3 0 args) := by
 intro p0 p p2 c0 c2 H0 H hat hN hN2 hc hi hR
 have hw : wrX nm 4 (.nd 3 0 args) = wrL nm 3 [32, 38, 32] true args := by
  rw [wrX, if_neg (by decide), if_neg (by decide), if_neg (by decide), if_neg (by rintro ⟨_, e | e⟩; cases e; exact e rfl)]
  rfl
 rw [hw] at hat hN2
 have hne : args ≠ [] := fun e => by subst e; exact absurd h2 (by decide)
 obtain ⟨q1, q2, q3⟩ := zhq args p hne hat
 refine conj76 (fun H0 H hR => ?_) hR
 rw [← zty (op := 3) h2]
 have hstop : ∀ k (hkl : k < args.length), stA nm 3 args p k + (wrX nm 3 (args.getD k (zhf false))).length = stA nm 3 args p k + (wrX nm 3 args[k]).length := fun k hkl => by rw [zir hkl]
 refine zgk (sign := 38) (op := 3) (fr := 100) (xs := args) (start := bef nm 3 args p p0) (stop := fun k => stA nm 3 args p k + (wrX nm 3 (args.getD k (zhf false))).length) (sg := fun k => stA nm 3 args p k + (wrX nm 3 (args.getD k (zhf false))).length + 1) rfl hne (by omega)
  (fun k hkl H0 H hR => ?_) rfl (fun k hkl => ?_) (p2 := p2) (c2 := c2) ?_ hc hR
 ·obtain ⟨c, hNk⟩ := bef_nx hok hSl hne hk hat hN k hkl
  show FT _ _ _ _ _ _ (RdF S (vsS nm) (stA nm 3 args p k + (wrX nm 3 (args.getD k (zhf false))).length) j sj H0 args[k])
  rw [hstop k hkl]
  refine ih _ (List.getElem_mem hkl) _ _ c H0 H (q1 k hkl) hNk ?_ hR
  by_cases hk1 : k + 1 < args.length
  ·obtain ⟨a, b, _, _⟩ := q2 k hk1
   exact (zmf a b (by decide) hSl).endOk (by decide)
  ·rw [q3 k hkl (by omega)]
   exact hN2.endOk hi
 ·obtain ⟨a, b, _, d⟩ := q2 k hkl
  show Nx S (stA nm 3 args p k + (wrX nm 3 (args.getD k (zhf false))).length) (stA nm 3 args p k + (wrX nm 3 (args.getD k (zhf false))).length + 1) 38 ∧ _
  rw [hstop k (by omega)]
  exact ⟨zmf a b (by decide) hSl, by show _ + (wrX nm 3 (args.getD k (zhf false))).length + 2 = _; rw [zir (Nat.lt_of_succ_lt hkl)]⟩
 ·show Nx S (stA nm 3 args p (args.length - 1) + (wrX nm 3 (args.getD (args.length - 1) (zhf false))).length) p2 c2
  rw [hstop (args.length - 1) (by omega), q3 (args.length - 1) (by omega) (by omega)]
  exact hN2
theorem dOr (hok : NmOk nm) (hSl : S.length < 1000000) {args : List Ex} (h2 : 2 ≤ args.length) (hlen : args.length ≤ 256) (hk : ∀ y ∈ args, nds (nm.length : Nat) y = 0) (ih : ∀ y ∈ args, CXp w0 N0 S nm j sj y) : DXp w0 N0 S nm j sj (.nd 4 0 args) := by
 intro p0 p p2 c0 c2 H0 H hat hN hN2 hc hc2 hi hR
 have hw : wrX nm (-1) (.nd 4 0 args) = wrL nm 4 [32, 124, 32] true args := by
  rw [wrX, if_neg (by decide), if_neg (by decide), if_neg (by decide), if_neg (by rintro ⟨e, _⟩; exact absurd e (by decide))]
  rfl
 rw [hw] at hat hN2
 have hne : args ≠ [] := fun e => by subst e; exact absurd h2 (by decide)
 obtain ⟨q1, q2, q3⟩ := zhq args p hne hat
 refine disj44 (fun H0 H hR => ?_) hR
 rw [← zty (op := 4) h2]
 have hstop : ∀ k (hkl : k < args.length), stA nm 4 args p k + (wrX nm 4 (args.getD k (zhf false))).length = stA nm 4 args p k + (wrX nm 4 args[k]).length := fun k hkl => by rw [zir hkl]
 refine zgk (sign := 124) (op := 4) (fr := 76) (xs := args) (start := bef nm 4 args p p0) (stop := fun k => if k + 1 < args.length then stA nm 4 args p k + (wrX nm 4 (args.getD k (zhf false))).length + 1 else p2) (sg := fun k => stA nm 4 args p k + (wrX nm 4 (args.getD k (zhf false))).length + 1) rfl hne (by omega)
  (fun k hkl H0 H hR => ?_) rfl (fun k hkl => ?_) (p2 := p2) (c2 := c2) ?_ hc2 hR
 ·obtain ⟨c, hNk⟩ := bef_nx hok hSl hne hk hat hN k hkl
  show FT _ _ _ _ _ _ (RdF S (vsS nm) (if k + 1 < args.length then stA nm 4 args p k + (wrX nm 4 (args.getD k (zhf false))).length + 1 else p2) j sj H0 args[k])
  by_cases hk1 : k + 1 < args.length
  ·obtain ⟨a, b, _, _⟩ := q2 k hk1
   rw [if_pos hk1, hstop k hkl]
   exact ih _ (List.getElem_mem hkl) _ _ _ c 124 H0 H (q1 k hkl) hNk (zmf a b (by decide) hSl) (by decide) (by decide) hR
  ·rw [if_neg hk1]
   exact ih _ (List.getElem_mem hkl) _ _ _ c c2 H0 H (q1 k hkl) hNk (by rw [q3 k hkl (by omega)]; exact hN2) hc hi hR
 ·obtain ⟨a, b, _, d⟩ := q2 k hkl
  show Nx S (if k + 1 < args.length then stA nm 4 args p k + (wrX nm 4 (args.getD k (zhf false))).length + 1 else p2) (stA nm 4 args p k + (wrX nm 4 (args.getD k (zhf false))).length + 1) 124 ∧ _
  rw [if_pos hkl, hstop k (by omega)]
  exact ⟨(zmf a b (by decide) hSl).stay, by show _ + (wrX nm 4 (args.getD k (zhf false))).length + 2 = _; rw [zir (Nat.lt_of_succ_lt hkl)]⟩
 ·show Nx S (if args.length - 1 + 1 < args.length then _ else p2) p2 c2
  rw [if_neg (by omega)]
  exact hN2.stay
theorem sBr (hok : NmOk nm) (hSl : S.length < 1000000) {op : Int} {args : List Ex} (ho : op = 3 ∨ op = 4) (hx : nds (nm.length : Nat) (.nd op 0 args) = 0) (h : DXp w0 N0 S nm j sj (.nd op 0 args)) : SXp w0 N0 S nm j sj (.nd op 0 args) := by
 intro p0 p c0 H0 H hat hN hE hR
 have hw : wrX nm 3 (.nd op 0 args) = 40 :: (wrX nm (-1) (.nd op 0 args) ++ [41]) := by
  rw [zug 0 args ho (by decide) (.inr (by decide)), wr_nb 0 args ho (by rintro ⟨e, _⟩; exact absurd e (by decide))]
 obtain ⟨c, U, hc, hc32⟩ := zll hok _ (.nd op 0 args) (-1) (Nat.le_refl _) hx
 rw [hw] at hat ⊢
 generalize hW : wrX nm (-1) (.nd op 0 args) = W at *
 obtain ⟨h1, h2⟩ := zf5 hat
 obtain ⟨h3, h4⟩ := zof h2
 have h5 := (zf5 (U := []) h4).1
 obtain rfl := hN.first (U := []) h1
 have hlen : p + (40 :: (W ++ [41])).length = p + 1 + W.length + 1 := by
  rw [List.length_cons, List.length_append, List.length_singleton]; omega
 rw [hlen]
 have hN41 : Nx S (p + 1 + W.length) (p + 1 + W.length) 41 := nx_at h5 (by decide) hSl
 refine zqf hN hN41 (fun H0 H hR => ?_) hR
 refine h (p + 1) (p + 1) (p + 1 + W.length) c 41 H0 H (by rw [hW]; exact h3) ?_ (by rw [hW]; exact hN41) (by decide) (by decide) (by decide) hR
 rw [hc] at h3
 exact nx_at (zf5 h3).1 hc32 hSl
theorem read_all (hok : NmOk nm) (hSl : S.length < 1000000) : ∀ (q : Nat) (x : Ex), SizeOf.sizeOf x ≤ q → nds (nm.length : Nat) x = 0 → szX x ≤ 256 → SXp w0 N0 S nm j sj x ∧ CXp w0 N0 S nm j sj x ∧ DXp w0 N0 S nm j sj x := by
 intro q
 induction q with
 | zero => intro x hq; cases x; simp at hq
 | succ q ih =>
  intro x hq hx hs
  obtain ⟨op, ix, args⟩ := x
  obtain ⟨hv, hk⟩ := zfg hx
  obtain ⟨k0, k1, k2, k3, k4, k5⟩ := zfh hv
  have hll := zfe args
  rw [szX] at hs
  have ih' : ∀ y ∈ args, SXp w0 N0 S nm j sj y ∧ CXp w0 N0 S nm j sj y ∧ DXp w0 N0 S nm j sj y := fun y hy => ih y (by have := zgm (op := op) (ix := ix) hy; omega) (hk y hy) (by have := szL_mem hy; omega)
  have low : (op = 0 ∨ op = 1 ∨ op = 2) → SXp w0 N0 S nm j sj (.nd op ix args) → SXp w0 N0 S nm j sj (.nd op ix args) ∧ CXp w0 N0 S nm j sj (.nd op ix args) ∧ DXp w0 N0 S nm j sj (.nd op ix args) := fun ho h => by
   have e : ∀ o1 o2, wrX nm o1 (.nd op ix args) = wrX nm o2 (.nd op ix args) := fun o1 o2 => by
    rw [wrX, wrX]
    rcases ho with rfl | rfl | rfl
    ·rw [if_pos rfl, if_pos rfl]
    ·rw [if_neg (by decide), if_pos rfl, if_neg (by decide), if_pos rfl]
    ·rw [if_neg (by decide), if_neg (by decide), if_pos rfl, if_neg (by decide), if_neg (by decide), if_pos rfl]
   have hC := cOfS (e 4 3) h
   exact ⟨h, hC, dOfC (e (-1) 4) hC⟩
  by_cases h0 : op = 0
  ·refine low (.inl h0) fun p0 p c0 H0 H hat hN hE hR => ?_
   subst h0
   have hz := zero_con hx rfl
   have hix : ix = 0 ∨ ix = 1 := by
    have : zbg 0 (nm.length : Nat) = 1 := by simp [zbg]
    omega
   have hw : wrX nm 3 (.nd 0 ix args) = [if (ix == 1) = true then 49 else 48] := by
    rw [wrX, if_pos rfl]
    rcases hix with rfl | rfl <;> rfl
   rw [hw] at hat ⊢
   obtain rfl := hN.first (U := []) (zf5 (U := []) hat).1
   rw [hz]
   exact zqg hN hR
  by_cases h1 : op = 1
  ·refine low (.inr (.inl h1)) fun p0 p c0 H0 H hat hN hE hR => ?_
   subst h1
   have hm : ix.toNat < nm.length := by
    have : zbg 1 (nm.length : Nat) = (nm.length : Nat) - 1 := by simp [zbg]
    omega
   have ha : args = [] := List.length_eq_zero_iff.1 (by
    have : zc1 1 = 0 := by decide
    omega)
   have hw : wrX nm 3 (.nd 1 ix args) = nm[ix.toNat] := by
    rw [wrX, if_neg (by decide), if_pos rfl, List.getD_eq_getElem?_getD, List.getElem?_eq_getElem hm]; rfl
   have hx1 : Ex.nd 1 ix args = .nd 1 ((ix.toNat : Nat) : Int) [] := by rw [ha, Int.toNat_of_nonneg k4]
   rw [hw] at hat hE ⊢
   rw [hx1]
   have hword := (hok.at_ _ hm).1
   have hne := zud hword
   have hlet : zdt c0.toNat = true := by
    match he : nm[ix.toNat], hword, hne with
    | c :: U, hword, _ =>
     rw [he] at hat
     obtain rfl := hN.first (U := []) (zf5 hat).1
     exact (Bool.and_eq_true_iff.1 hword).2
   exact zqi hok hm hN hlet hat hE (at_len hat hne) hR
  by_cases h2 : op = 2
  ·refine low (.inr (.inr h2)) fun p0 p c0 H0 H hat hN hE hR => ?_
   subst h2
   obtain ⟨e, y, rfl, hy⟩ := zpb hx
   subst e
   have e23 : wrX nm 2 y = wrX nm 3 y := wr_23 y
   have hw : wrX nm 3 (.nd 2 0 [y]) = 33 :: wrX nm 3 y := by
    rw [wrX, if_neg (by decide), if_neg (by decide), if_pos rfl, wrL, wrL, if_pos rfl, List.nil_append, List.append_nil, e23]
   rw [hw] at hat hE ⊢
   obtain ⟨a, b⟩ := zf5 hat
   obtain rfl := hN.first (U := []) a
   obtain ⟨c, U, hc, hc32⟩ := zll hok _ y 3 (Nat.le_refl _) hy
   have hl : p + (33 :: wrX nm 3 y).length = p + 1 + (wrX nm 3 y).length := by rw [List.length_cons]; omega
   rw [hl] at hE ⊢
   refine zqh hN (fun H0 H hR => ?_) hR
   have b2 := b
   rw [hc] at b2
   exact (ih' y (List.mem_cons_self ..)).1 (p + 1) (p + 1) c H0 H b (nx_at (zf5 b2).1 hc32 hSl) hE hR
  have ho : op = 3 ∨ op = 4 := by omega
  have hla : zb2 op = 2 := by rcases ho with rfl | rfl <;> rfl
  have hix : ix = 0 := by
   have : zbg op (nm.length : Nat) = 0 := by rcases ho with rfl | rfl <;> simp [zbg]
   omega
  subst hix
  rcases ho with rfl | rfl
  ·have hC := cAnd hok hSl (by omega) (by omega) hk fun y hy => (ih' y hy).1
   have hD := dOfC (by
    rw [wr_nb 0 args (.inl rfl) (by rintro ⟨e, _⟩; exact absurd e (by decide)), wr_nb 0 args (.inl rfl) (by rintro ⟨_, e | e⟩; cases e; exact e rfl)]) hC
   exact ⟨sBr hok hSl (.inl rfl) hx hD, hC, hD⟩
  ·have hD := dOr hok hSl (by omega) (by omega) hk fun y hy => (ih' y hy).2.1
   have hS := sBr hok hSl (.inr rfl) hx hD
   exact ⟨hS, cOfS (by
    rw [zug 0 args (.inr rfl) (by decide) (.inl rfl), zug 0 args (.inr rfl) (by decide) (.inl rfl)]) hS, hD⟩
end
end Go.Proofs.Ytmnkjofaodbokaa
