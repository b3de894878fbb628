/-
  PARSE OF WHAT FORMAT WROTE.; WHAT EVERY LAW OF THE SEAT SHARES.; READING THE ARGUMENTS.; READING LISTS OF TEXTS.
-/
import Derived.Test.YtmnkjofaodbokaaYX5
import Derived.Test.YtmnkjofaodbokaaRows
import Derived.JoinedCond
namespace Go.Proofs.Ytmnkjofaodbokaa
open Go Go.Am
theorem res_ag5 {S : AS} {a b c : Nat} {pa x y z v w : AV} (h1 : S.get a = some pa) (d1 : S.deref pa = some [x, y, z]) (h2 : S.get b = some v) (h3 : S.get c = some w) : S.res [.cell a (some 3), .t b, .t c] = some (.tup [.agg [x, y, z], v, w]) := by
 simp [AS.res, AS.resL, znr, h1, d1, h2, h3]
-- pneumatic/boolexp.Parse
def ic15 : IC := .seq (.region [⟨(some 4), .alloc [.int .i64 0, .int .i64 0, .nils], none⟩,
  ⟨(some 5), .mov (.c (.int .i64 0)), none⟩,
  ⟨(some 6), .mov (.c (.int .i64 0)), none⟩] none)
 (.seq (.seq (.region [⟨(some 13), .mov (.t 1), none⟩,
  ⟨(some 14), .call (.c (.fn 40 [] [])) [(.t 13)], none⟩,
  ⟨(some 7), .mov (.t 14), none⟩] none)
 (.seq (.region [⟨(some 15), .mov (.t 7), none⟩,
  ⟨(some 16), .bin .neq (.t 15) (.c (.int .i64 0)), none⟩] none)
 (.cond (.t 16) (.seq (.region [⟨(some 17), .build [.int .i64 0, .int .i64 0, .nils] [], none⟩,
  ⟨(some 18), .mov (.t 7), none⟩,
  ⟨none, .store 3 (.t 4) (.t 17), none⟩,
  ⟨(some 5), .mov (.c (.int .i64 0)), none⟩,
  ⟨(some 6), .mov (.t 18), none⟩] none)
 (.ret))
 (.skip))))
 (.seq (.seq (.region [⟨(some 19), .mov (.t 0), none⟩,
  ⟨(some 20), .len true (.t 19), none⟩,
  ⟨(some 21), .bin .gtr (.t 20) (.c (.int .i64 4096)), none⟩] none)
 (.cond (.t 21) (.seq (.region [⟨(some 22), .build [.int .i64 0, .int .i64 0, .nils] [], none⟩,
  ⟨none, .store 3 (.t 4) (.t 22), none⟩,
  ⟨(some 5), .mov (.c (.int .i64 0)), none⟩,
  ⟨(some 6), .mov (.c (.int .i64 17)), none⟩] none)
 (.ret))
 (.skip)))
 (.seq (.region [⟨(some 23), .mov (.t 0), none⟩,
  ⟨(some 24), .mov (.t 1), none⟩,
  ⟨(some 25), .build [.str [], .nils, .int .i64 0, .int .i64 0] [(0, 1, (.t 23)), (1, 1, (.t 24))], none⟩,
  ⟨(some 26), .box (.t 25), none⟩,
  ⟨(some 8), .mov (.t 26), none⟩] none)
 (.seq (.region [⟨(some 27), .mov (.t 8), none⟩,
  ⟨(some 28), .call (.c (.fn 44 [] [])) [(.t 27)], none⟩,
  ⟨(some 9), .alloc [.int .i64 0, .int .i64 0, .nils], none⟩,
  ⟨none, .store 3 (.t 9) (.t 28), none⟩] none)
 (.seq (.seq (.region [⟨(some 29), .mov (.t 8), none⟩,
  ⟨(some 30), .call (.c (.fn 45 [] [])) [(.t 29)], none⟩] none)
 (.seq (.region [⟨(some 31), .mov (.t 8), none⟩,
  ⟨(some 32), .nilchk (.t 31), none⟩,
  ⟨(some 33), .faddr 2 (.t 32), none⟩,
  ⟨(some 34), .load none (.t 33), none⟩,
  ⟨(some 35), .mov (.t 0), none⟩,
  ⟨(some 36), .len true (.t 35), none⟩,
  ⟨(some 37), .bin .lss (.t 34) (.t 36), none⟩] none)
 (.cond (.t 37) (.region [⟨(some 38), .mov (.t 8), none⟩,
  ⟨(some 39), .call (.c (.fn 46 [] [])) [(.t 38), (.c (.int .i64 4))], none⟩] none)
 (.skip))))
 (.seq (.seq (.region [⟨(some 40), .mov (.t 8), none⟩,
  ⟨(some 41), .nilchk (.t 40), none⟩,
  ⟨(some 42), .faddr 3 (.t 41), none⟩,
  ⟨(some 43), .load none (.t 42), none⟩,
  ⟨(some 44), .bin .neq (.t 43) (.c (.int .i64 0)), none⟩] none)
 (.cond (.t 44) (.seq (.region [⟨(some 45), .build [.int .i64 0, .int .i64 0, .nils] [], none⟩,
  ⟨(some 46), .mov (.t 8), none⟩,
  ⟨(some 47), .nilchk (.t 46), none⟩,
  ⟨(some 48), .faddr 2 (.t 47), none⟩,
  ⟨(some 49), .load none (.t 48), none⟩,
  ⟨(some 50), .mov (.t 8), none⟩,
  ⟨(some 51), .nilchk (.t 50), none⟩,
  ⟨(some 52), .faddr 3 (.t 51), none⟩,
  ⟨(some 53), .load none (.t 52), none⟩,
  ⟨none, .store 3 (.t 4) (.t 45), none⟩,
  ⟨(some 5), .mov (.t 49), none⟩,
  ⟨(some 6), .mov (.t 53), none⟩] (some [[], [], [1], [2], [3], [], [5], [6], [7], [0, 0], [4, 9, 0, 1, 2, 3, 4, 9], [8, 10, 0, 1, 2, 3, 4, 5, 6, 7, 8, 9, 10]]))
 (.ret))
 (.skip)))
 (.seq (.seq (.region [⟨(some 55), .load (some 3) (.t 9), none⟩,
  ⟨(some 56), .call (.c (.fn 47 [] [])) [(.t 55)], none⟩,
  ⟨(some 54), .mov (.t 56), none⟩,
  ⟨(some 57), .extract (.t 54) 0, none⟩,
  ⟨(some 58), .extract (.t 54) 1, none⟩,
  ⟨(some 59), .extract (.t 54) 2, none⟩,
  ⟨(some 10), .mov (.t 57), none⟩,
  ⟨(some 11), .mov (.t 58), none⟩,
  ⟨(some 12), .mov (.t 59), none⟩] none)
 (.seq (.region [⟨(some 60), .mov (.t 12), none⟩,
  ⟨(some 61), .un .not (.t 60), none⟩] none)
 (.cond (.t 61) (.seq (.region [⟨(some 62), .build [.int .i64 0, .int .i64 0, .nils] [], none⟩,
  ⟨none, .store 3 (.t 4) (.t 62), none⟩,
  ⟨(some 5), .mov (.c (.int .i64 0)), none⟩,
  ⟨(some 6), .mov (.c (.int .i64 5)), none⟩] none)
 (.ret))
 (.skip))))
 (.seq (.region [⟨(some 63), .load (some 3) (.t 9), none⟩,
  ⟨none, .store 3 (.t 4) (.t 63), none⟩,
  ⟨(some 5), .mov (.c (.int .i64 0)), none⟩,
  ⟨(some 6), .mov (.c (.int .i64 0)), none⟩] none)
 (.ret)))))))))
theorem fn15 : env0.fn 15 = some ⟨64, ic15, [.cell 4 (some 3), .t 5, .t 6]⟩ := by kernel_rfl
set_option maxHeartbeats 2000000 in
theorem parse15 {nm : List (List UInt8)} (h0 : nmR nm = 0) (x : Ex) (hs : Slim x) (hck : zey x (nm.length : Nat) = 0) (hli : zdo x = true) (h40 : szX x ≤ 40) : PF Try.prog 15 [.str (wrX nm (-1) x), vsS nm] (.tup [.agg (cX x), .int .i64 0, .int .i64 0]) := by
 have hok := nm_ok h0
 have hn24 : ∀ s ∈ nm, s.length ≤ 24 := fun s hs => (hok.word s hs).2
 have p40 := zta nm (fun s hs => by have := hn24 s hs; omega)
 rw [h0] at p40
 have p47 := zme x hs
 rw [zq5, if_pos hli] at p47
 have hnd := nds_of hck
 have hwl := zmx hn24 x (-1)
 obtain ⟨c, U, hc, hc32⟩ := zll hok _ x (-1) (Nat.le_refl _) hnd
 have hall := fun w0 N0 => (read_all (w0 := w0) (N0 := N0) (S := wrX nm (-1) x) (j := 1) (sj := 1) hok (by omega) _ x (Nat.le_refl _) hnd (by omega)).2.2
 have hat := at_self (wrX nm (-1) x)
 have hS0 : (wrX nm (-1) x)[0]? = some c := by rw [hc]; rfl
 unfold DXp at hall
 generalize wrX nm (-1) x = S at *
 have hSl : S.length < 1000000 := by omega
 have hNe := nx_end hSl
 have hN0 : Nx S 0 0 c := nx_at hS0 hc32 hSl
 generalize szX x = s1 at *
 generalize dpX x = d1 at *
 refine zbl env0_ok fn15 [(0, .str S), (1, vsS nm)] (by show 2 ≤ 64; decide) rfl fun w0 N0 => ?_
 unfold ic15
 repeat (first | refine za7 ?_ | refine za0 rfl ?_ | refine za4 ?_ | refine za3 ?_ | refine za2 rfl ?_ | refine zat ?_)
 refine zay rfl rfl p40 (fun h => Bool.noConfusion (show false = true from h)) ?_
 repeat (first | refine za7 ?_ | refine za0 rfl ?_ | refine za4 ?_ | refine za3 ?_ | refine zab ?_ | refine zbi rfl ?_ | refine za2 rfl ?_ | refine zb7 rfl rfl ?_ | refine zav rfl rfl rfl ?_)
 refine zav rfl rfl (show some (AV.bool (decide (((S.length : Nat) : Int) > 4096))) = _ by rw [decide_eq_false (by omega)]) ?_
 repeat (first | refine za7 ?_ | refine za0 rfl ?_ | refine za4 ?_ | refine za3 ?_ | refine zab ?_ | refine zbi rfl ?_ | refine za2 rfl ?_ | refine zbs rfl rfl ?_ | refine zc5 rfl rfl ?_)
 refine zfw _ rfl rfl (zaw (hall w0 N0 0 0 S.length c 0 ⟨[(1, 1, .cells [.str S, vsS nm, .int .i64 0, .int .i64 0]), (0, 0, .cells [.int .i64 0, .int .i64 0, .nils])], 2, 2⟩ ⟨[(1, 1, .cells [.str S, vsS nm, .int .i64 0, .int .i64 0]), (0, 0, .cells [.int .i64 0, .int .i64 0, .nils])], 2, 2⟩ hat hN0 (by rw [Nat.zero_add]; exact hNe) (by decide) (by decide) (by decide) ⟨rfl, fun _ _ _ => rfl, Nat.le_refl _, by show 1 < 2; decide⟩)) zfv fun r H hF => ?_
 obtain ⟨rfl, hF⟩ := hF
 obtain ⟨hp, nx, ck⟩ := H
 replace hF : Rdr S (vsS nm) S.length 1 1 ⟨[(1, 1, .cells [.str S, vsS nm, .int .i64 0, .int .i64 0]), (0, 0, .cells [.int .i64 0, .int .i64 0, .nils])], 2, 2⟩ hp nx := hF
 have ha : Am.look 0 hp = some (0, .cells [.int .i64 0, .int .i64 0, .nils]) := (hF.keep 0 (by show 0 < 2; decide) (by decide)).trans rfl
 have hn2 : 2 ≤ nx := hF.nx
 obtain ⟨xo, xi, xa⟩ := x
 refine zat ?_
 refine zak (id := nx) (sp := ck) (off := 0) rfl rfl rfl rfl zb9 rfl rfl ?_
 refine za4 (za3 ?_)
 refine zgp nx ck (cs := cX (.nd xo xi xa)) (l' := [(0, .str S), (4, .mptr 0 0 0), (8, .mptr 1 1 0), (9, .vptr (cX (.nd xo xi xa)))]) (by rw [za1, if_pos rfl]; rfl) rfl (.cons rfl .same (.cons rfl .same (.cons rfl .same (.cons rfl (.fptr rfl) .nil)))) ?_
 have hR := (((hF.self ck).fresh ck (.cells [.int .i64 0, .int .i64 0, .nils])).put (i := nx) (Nat.le_refl _) (ck, .cells (setAt 0 [.int .i64 0, .int .i64 0, .nils] (cX (.nd xo xi xa))))).drop (i := nx) (Nat.le_refl _)
 have ha2 : Am.look 0 (zbj nx (zb6 nx (ck, AObj.cells (setAt 0 [.int .i64 0, .int .i64 0, .nils] (cX (.nd xo xi xa)))) ((nx, ck, AObj.cells [.int .i64 0, .int .i64 0, .nils]) :: hp))) = some (0, .cells [.int .i64 0, .int .i64 0, .nils]) := by
  rw [zac, if_neg (by omega), za1, if_neg (by omega), zaj, if_neg (by omega)]; exact ha
 show Zm _ _ _ _ _ (st 64 _ (zbj nx (zb6 nx (ck, AObj.cells (setAt 0 [.int .i64 0, .int .i64 0, .nils] (cX (.nd xo xi xa)))) ((nx, ck, AObj.cells [.int .i64 0, .int .i64 0, .nils]) :: hp))) (nx + 1) (ck + 1)) _ _
 generalize zbj nx (zb6 nx (ck, AObj.cells (setAt 0 [.int .i64 0, .int .i64 0, .nils] (cX (.nd xo xi xa)))) ((nx, ck, AObj.cells [.int .i64 0, .int .i64 0, .nils]) :: hp)) = hp2 at *
 repeat (first | refine za7 ?_ | refine za0 rfl ?_ | refine za2 rfl ?_)
 refine zfw _ rfl rfl (zaw (zjx hNe (H := ⟨hp2, nx + 1, ck + 1⟩) (hR.self (ck + 1)))) zfv fun r H hF2 => ?_
 obtain ⟨rfl, hF2⟩ := hF2
 obtain ⟨hp3, nx3, ck3⟩ := H
 replace hF2 : Rdr S (vsS nm) S.length 1 1 ⟨hp2, nx + 1, ck + 1⟩ hp3 nx3 := hF2
 have ha3 := (hF2.keep 0 (by show 0 < nx + 1; omega) (by decide)).trans ha2
 have hn3 : nx + 1 ≤ nx3 := hF2.nx
 repeat (first | refine za7 ?_ | refine za0 rfl ?_ | refine za4 ?_ | refine za3 ?_ | refine za2 rfl ?_ | refine za8 rfl ?_ | refine zaq rfl ?_)
 refine zc3 (id := 1) (sp := 1) (off := 0 + 2) rfl hF2.obj hF2.jx rfl ?_
 repeat (first | refine za2 rfl ?_ | refine zb7 rfl rfl ?_)
 refine zav rfl rfl (show some (AV.bool (decide (((S.length : Nat) : Int) < ((S.length : Nat) : Int)))) = _ by rw [decide_eq_false (by omega)]) ?_
 repeat (first | refine za7 ?_ | refine za0 rfl ?_ | refine za4 ?_ | refine za3 ?_ | refine zab ?_ | refine zbi rfl ?_ | refine za2 rfl ?_ | refine za8 rfl ?_ | refine zaq rfl ?_)
 refine zc3 (id := 1) (sp := 1) (off := 0 + 3) rfl hF2.obj hF2.jx rfl ?_
 repeat (first | refine za7 ?_ | refine za0 rfl ?_ | refine za4 ?_ | refine za3 ?_ | refine zab ?_ | refine zbi rfl ?_ | refine zap rfl rfl rfl rfl ?_ | refine zav rfl rfl rfl ?_)
 refine zay rfl rfl p47 (fun h => Bool.noConfusion (show false = true from h)) ?_
 repeat (first | refine za7 ?_ | refine za0 rfl ?_ | refine za4 ?_ | refine za3 ?_ | refine zab ?_ | refine zbi rfl ?_ | refine za2 rfl ?_ | refine zap rfl rfl rfl rfl ?_ | refine ze6 rfl rfl ?_ | refine zb3 rfl rfl ?_)
 refine zak (id := 0) (sp := 0) (off := 0) rfl rfl rfl rfl ha3 rfl rfl ?_
 repeat (first | refine za4 ?_ | refine za3 ?_ | refine zae ?_ | refine za2 rfl ?_)
 exact zad ⟨.inr rfl, _, res_ag5 ((zcs 4).trans rfl) (zc4 (id := 0) (sp := 0) (cs := cX (.nd xo xi xa)) (by show Am.look 0 (zb6 0 _ hp3) = _; rw [za1, if_pos rfl]; rfl) (show 0 < nx3 by omega)) ((zcs 5).trans rfl) ((zcs 6).trans rfl), rfl⟩
-- pneumatic/pneumaticlaw05.BoolexpReads
def ic3 : IC := .seq (.region [⟨(some 2), .box (.t 0), none⟩,
  ⟨(some 4), .mov (.c (.bool false)), none⟩] none)
 (.seq (.seq (.region [⟨(some 10), .mov (.t 1), none⟩,
  ⟨(some 11), .call (.c (.fn 10 [] [])) [(.t 10)], none⟩,
  ⟨(some 12), .un .not (.t 11), none⟩,
  ⟨(some 13), .mov (.t 12), none⟩,
  ⟨(some 14), .load (some 3) (.t 2), some (13, false)⟩,
  ⟨(some 15), .mov (.t 1), some (13, false)⟩,
  ⟨(some 16), .len false (.t 15), some (13, false)⟩,
  ⟨(some 17), .call (.c (.fn 11 [] [])) [(.t 14), (.t 16)], some (13, false)⟩,
  ⟨(some 18), .un .not (.t 17), some (13, false)⟩,
  ⟨(some 19), .pick (.t 13) (.c (.bool true)) (.t 18), none⟩,
  ⟨(some 20), .mov (.t 19), none⟩,
  ⟨(some 21), .mov (.t 1), some (20, false)⟩,
  ⟨(some 22), .call (.c (.fn 12 [] [])) [(.t 21)], some (20, false)⟩,
  ⟨(some 23), .bin .neq (.t 22) (.c (.int .i64 0)), some (20, false)⟩,
  ⟨(some 24), .pick (.t 20) (.c (.bool true)) (.t 23), none⟩] none)
 (.cond (.t 24) (.seq (.region [⟨(some 25), .call (.c (.fn 13 [] [])) [], none⟩,
  ⟨(some 4), .mov (.t 25), none⟩] none)
 (.ret))
 (.skip)))
 (.seq (.region [⟨(some 27), .load (some 3) (.t 2), none⟩,
  ⟨(some 28), .mov (.t 1), none⟩,
  ⟨(some 29), .call (.c (.fn 14 [] [])) [(.t 27), (.t 28)], none⟩,
  ⟨(some 26), .mov (.t 29), none⟩,
  ⟨(some 30), .extract (.t 26) 0, none⟩,
  ⟨(some 31), .extract (.t 26) 1, none⟩,
  ⟨(some 5), .mov (.t 30), none⟩,
  ⟨(some 6), .mov (.t 31), none⟩] none)
 (.seq (.seq (.region [⟨(some 32), .mov (.t 6), none⟩,
  ⟨(some 33), .bin .neq (.t 32) (.c (.int .i64 0)), none⟩] none)
 (.cond (.t 33) (.seq (.region [⟨(some 34), .mov (.t 6), none⟩,
  ⟨(some 35), .bin .eql (.t 34) (.c (.int .i64 17)), none⟩,
  ⟨(some 36), .mov (.t 35), none⟩,
  ⟨(some 37), .call (.c (.fn 13 [] [])) [], some (36, true)⟩,
  ⟨(some 38), .pick (.t 36) (.t 37) (.c (.bool false)), none⟩,
  ⟨(some 4), .mov (.t 38), none⟩] none)
 (.ret))
 (.skip)))
 (.seq (.region [⟨(some 40), .mov (.t 5), none⟩,
  ⟨(some 41), .mov (.t 1), none⟩,
  ⟨(some 42), .call (.c (.fn 15 [] [])) [(.t 40), (.t 41)], none⟩,
  ⟨(some 39), .mov (.t 42), none⟩,
  ⟨(some 43), .extract (.t 39) 0, none⟩,
  ⟨(some 44), .extract (.t 39) 1, none⟩,
  ⟨(some 45), .extract (.t 39) 2, none⟩,
  ⟨(some 7), .alloc [.int .i64 0, .int .i64 0, .nils], none⟩,
  ⟨none, .store 3 (.t 7) (.t 43), none⟩,
  ⟨(some 8), .mov (.t 44), none⟩,
  ⟨(some 9), .mov (.t 45), none⟩] none)
 (.seq (.region [⟨(some 46), .mov (.t 9), none⟩,
  ⟨(some 47), .bin .eql (.t 46) (.c (.int .i64 0)), none⟩,
  ⟨(some 48), .mov (.t 47), none⟩,
  ⟨(some 49), .mov (.t 8), some (48, true)⟩,
  ⟨(some 50), .bin .eql (.t 49) (.c (.int .i64 0)), some (48, true)⟩,
  ⟨(some 51), .pick (.t 48) (.t 50) (.c (.bool false)), none⟩,
  ⟨(some 52), .mov (.t 51), none⟩,
  ⟨(some 53), .load (some 3) (.t 2), some (52, true)⟩,
  ⟨(some 54), .load (some 3) (.t 7), some (52, true)⟩,
  ⟨(some 55), .call (.c (.fn 16 [] [])) [(.t 53), (.t 54)], some (52, true)⟩,
  ⟨(some 56), .pick (.t 52) (.t 55) (.c (.bool false)), none⟩,
  ⟨(some 57), .mov (.t 56), none⟩,
  ⟨(some 58), .call (.c (.fn 13 [] [])) [], some (57, true)⟩,
  ⟨(some 59), .pick (.t 57) (.t 58) (.c (.bool false)), none⟩,
  ⟨(some 4), .mov (.t 59), none⟩] none)
 (.ret))))))
theorem fn3 : env0.fn 3 = some ⟨60, ic3, [.t 4]⟩ := by kernel_rfl
set_option maxHeartbeats 2000000 in
theorem law3 (x : Ex) (hs : Slim x) (l : List (List UInt8)) (hl : l.length < 9223372036854775808) : PF Try.prog 3 [.agg (cX x), vsS l] (.bool true) := by
 obtain ⟨b, p10, hb⟩ := zpy l hl
 have p11 := right11 x hs (l.length : Nat)
 have p12 : b = true → PF Try.prog 12 [vsS l] (.int .i64 (nmR l)) := fun h => names12 l fun s hs => by have := (hb h).2 s hs; omega
 have hml : (l.map fun s => ([.str s] : List AV)).length = l.length := List.length_map ..
 have hr : rgtX x (l.length : Nat) = true → zey x (l.length : Nat) = 0 ∧ szX x ≤ 40 ∧ zdo x = true := fun h => by
  unfold rgtX at h
  obtain ⟨h1, h2⟩ := Bool.and_eq_true_iff.1 h
  have hc := of_decide_eq_true h2
  have hli : zdo x = true := by
   unfold zey at hc
   split at hc
   ·cases hc
   ·split at hc
    ·assumption
    ·cases hc
  have hsz := ((ze1 x).1 hli).1
  refine ⟨hc, ?_, hli⟩
  unfold zln at h1
  have he : cnt 512 x = szX x := by rw [zru 512 (by omega), if_pos (by omega)]
  rw [he] at h1
  rcases Bool.or_eq_true_iff.1 h1 with h1 | h1
  ·exact of_decide_eq_true h1
  ·have := of_decide_eq_true (Bool.and_eq_true_iff.1 h1).1
   omega
 have p14 : nmR l = 0 → rgtX x (l.length : Nat) = true → _ := fun h1 h2 => format14 h1 x hs (hr h2).1 (hr h2).2.1
 have p15 : nmR l = 0 → rgtX x (l.length : Nat) = true → _ := fun h1 h2 => parse15 h1 x hs (hr h2).1 (hr h2).2.2 (hr h2).2.1
 have p16 := same16 x x hs hs
 have hsame : rgtX x (l.length : Nat) = true → ztv x x = true := fun h => by
  unfold ztv
  rw [(hr h).2.2, (zs8 x x).2 rfl]; rfl
 generalize rgtX x (l.length : Nat) = rb at *
 generalize ztv x x = sb at *
 generalize nmR l = z at *
 generalize wrX l (-1) x = S at *
 obtain ⟨op, ix, args⟩ := x
 refine zbl env0_ok fn3 [(0, .agg (cX (.nd op ix args))), (1, vsS l)] (by show 2 ≤ 60; decide) rfl fun w0 N0 => ?_
 unfold ic3
 refine za7 (za0 rfl (zc5 rfl rfl (za2 rfl (za4 (za3 ?_)))))
 refine zjh [] [(0, 0, cX (.nd op ix args))] [(1, vsS l), (2, .vptr (cX (.nd op ix args)))] rfl (.cons rfl rfl .nil) .nil (.cons rfl (.same rfl) (.cons rfl (.fptr rfl rfl) .nil)) ?_
 repeat (first | refine za7 ?_ | refine za0 rfl ?_ | refine za2 rfl ?_)
 refine zay rfl rfl p10 (fun h => Bool.noConfusion (show false = true from h)) ?_
 cases b with
 | false =>
  repeat (first | refine za7 ?_ | refine za0 rfl ?_ | refine za4 ?_ | refine za3 ?_ | refine zbe rfl ?_ | refine zcz rfl rfl ?_ | refine za2 rfl ?_ | refine zag rfl rfl ?_ | refine ze6 rfl rfl ?_)
  refine zay rfl rfl zkf (fun h => Bool.noConfusion (show false = true from h)) ?_
  repeat (first | refine za4 ?_ | refine za3 ?_ | refine zae ?_ | refine za6 ?_ | refine za2 rfl ?_)
  exact zad ⟨.inr rfl, _, rfl, rfl⟩
 | true =>
 have p12 := p12 rfl
 repeat (first | refine zbz rfl ?_ | refine za2 rfl ?_ | refine zap rfl rfl rfl rfl ?_ | refine ze6 rfl rfl ?_ | refine zb7 rfl rfl ?_)
 refine zay rfl (by rw [hml]; rfl) p11 (fun h => Bool.noConfusion (show false = true from h)) ?_
 cases rb with
 | false =>
  repeat (first | refine za7 ?_ | refine za0 rfl ?_ | refine za4 ?_ | refine za3 ?_ | refine zbe rfl ?_ | refine zbz rfl ?_ | refine zcz rfl rfl ?_ | refine za2 rfl ?_ | refine zag rfl rfl ?_ | refine zaa rfl rfl ?_ | refine ze6 rfl rfl ?_)
  refine zay rfl rfl zkf (fun h => Bool.noConfusion (show false = true from h)) ?_
  repeat (first | refine za4 ?_ | refine za3 ?_ | refine zae ?_ | refine za6 ?_ | refine za2 rfl ?_)
  exact zad ⟨.inr rfl, _, rfl, rfl⟩
 | true =>
 obtain rfl := hsame rfl
 repeat (first | refine zbz rfl ?_ | refine za2 rfl ?_ | refine zaa rfl rfl ?_ | refine ze6 rfl rfl ?_)
 refine zay rfl rfl p12 (fun h => Bool.noConfusion (show false = true from h)) ?_
 repeat (first | refine zbz rfl ?_)
 refine zar rfl rfl rfl (fun h => ?_) fun h => ?_
 ·repeat (first | refine za7 ?_ | refine za0 rfl ?_ | refine za4 ?_ | refine za3 ?_ | refine zbe rfl ?_ | refine zaa rfl rfl ?_)
  refine zay rfl rfl zkf (fun h => Bool.noConfusion (show false = true from h)) ?_
  repeat (first | refine za4 ?_ | refine za3 ?_ | refine zae ?_ | refine za6 ?_ | refine za2 rfl ?_)
  exact zad ⟨.inr rfl, _, rfl, rfl⟩
 ·have hz : z = 0 := by simpa using h
  have p14 := p14 hz rfl
  have p15 := p15 hz rfl
  repeat (first | refine za7 ?_ | refine za0 rfl ?_ | refine za4 ?_ | refine za3 ?_ | refine zab ?_ | refine zbi rfl ?_ | refine za2 rfl ?_ | refine zap rfl rfl rfl rfl ?_ | refine zaa rfl rfl ?_)
  refine zay rfl rfl p14 (fun h => Bool.noConfusion (show false = true from h)) ?_
  repeat (first | refine za7 ?_ | refine za0 rfl ?_ | refine za4 ?_ | refine za3 ?_ | refine zab ?_ | refine zbi rfl ?_ | refine za2 rfl ?_ | refine zb3 rfl rfl ?_ | refine zav rfl rfl rfl ?_)
  refine zay rfl rfl p15 (fun h => Bool.noConfusion (show false = true from h)) ?_
  repeat (first | refine za7 ?_ | refine za0 rfl ?_ | refine za4 ?_ | refine za3 ?_ | refine zbz rfl ?_ | refine za2 rfl ?_ | refine zap rfl rfl rfl rfl ?_ | refine zak rfl rfl rfl rfl rfl rfl rfl ?_ | refine zat ?_ | refine zag rfl rfl ?_ | refine zb3 rfl rfl ?_ | refine zbm rfl rfl rfl ?_)
  refine zay rfl rfl p16 (fun h => Bool.noConfusion (show false = true from h)) ?_
  repeat (first | refine zbz rfl ?_ | refine za2 rfl ?_ | refine zag rfl rfl ?_)
  refine zay rfl rfl zkf (fun h => Bool.noConfusion (show false = true from h)) ?_
  repeat (first | refine za4 ?_ | refine za3 ?_ | refine zae ?_ | refine za2 rfl ?_ | refine zag rfl rfl ?_)
  exact zad ⟨.inr rfl, _, rfl, rfl⟩
end Go.Proofs.Ytmnkjofaodbokaa
namespace Go.Proofs.Ytmnkjofaodbokaa
open Go Go.Am Go.ChangeShapes Go.WideShapes Go.ChangeAt Go.RowKit
theorem own : ownKnob Try.prog.godebug = none := by kernel_rfl
theorem gok {W : World} : GOk (fun _ => True) W := fun _ hx => absurd hx List.not_mem_nil
theorem solid : zqy Try.prog Try.prog.types.size := solid_of (by kernel_rfl)
end Go.Proofs.Ytmnkjofaodbokaa
namespace Go.Proofs.Ytmnkjofaodbokaa
open Go Go.Am Go.ChangeShapes Go.WideShapes Go.ChangeAt Go.RowKit Go.Deep
section
variable {H : Type} {enc : TypeId × Value → H} {w : World} {base : Nat} {spare : Nat → Bool} {held : Bool}
theorem rdT : Rd enc Try.prog w base spare held 24 fun d => cX (exD d) :=
 rd_tree Try.underlying24 rfl Try.underlying3 (by kernel_rfl) Try.underlying22 (by kernel_rfl) (by rw [show Try.prog.cellsOf 24 = 3 from by kernel_rfl]; decide) (by kernel_rfl)
theorem slimX {n : Nat} {cs : List Value} {d : DataW H} {p : List MemPlace} (h : DataW.trod enc Try.prog w base spare held n 24 cs = some (d, p)) : Slim (exD d) :=
 zu0 Try.underlying24 rfl Try.underlying22 _ d (Nat.le_refl _) _ _ _ h
end
end Go.Proofs.Ytmnkjofaodbokaa
namespace Go.Proofs.Ytmnkjofaodbokaa
open Go Go.Am Go.ChangeShapes Go.WideShapes Go.ChangeAt Go.RowKit Go.Deep
section
variable {H : Type} {enc : TypeId × Value → H} {w : World} {base : Nat} {spare : Nat → Bool} {held : Bool}
theorem rdW : Rd enc Try.prog w base spare held 25 (zi8 cStr) :=
 rd_slice Try.underlying25 (by kernel_rfl) (by rw [show Try.prog.cellsOf 9 = 1 from by kernel_rfl]; decide) (rd_str Try.underlying9 (by kernel_rfl))
theorem lenW {n : Nat} {cs : List Value} {d : DataW H} {p : List MemPlace} (h : DataW.trod enc Try.prog w base spare held n 25 cs = some (d, p)) :
  (zf0 d).length < 9223372036854775808 := by
 rcases Deep.open_slice Try.underlying25 h with ⟨_, hx⟩ | ⟨a, len, cap, m, n2, D, Pl, _, hb, hle, hm, hmm, hx, hel⟩
 ·injection hx with hx _
  subst hx
  show 0 < _
  decide
 ·injection hx with hx _
  subst hx
  have hlm : len ≤ m := by rw [hmm]; split <;> omega
  show ((List.range len).map D).length < _
  rw [List.length_map, List.length_range]
  have : maxLen = 9223372036854775807 := rfl
  omega
end
end Go.Proofs.Ytmnkjofaodbokaa
