/-
  THE CHOICES OF A STEP, in guard.Danger: both loops, and the choices as contents.; SEQUENCES THAT CAN BE CARRIED OUT: sequence.Check.; DANGERS: guard.Danger.; POSITIONS OF STEPS, in plain Lean (as D3, without right guards: beside H18).; ENDS OF FEW ACTUATORS: their positions, their index, and back: known calls, run by the kernel.; A STROKE THAT IS PERMITTED: homing.allowed, homing.may.
-/
import Derived.Test.YtoiblgbaeglgoaaKX6
namespace Go.Proofs.Ytoiblgbaeglgoaa
open Go Go.Am
def lv5 (E : List Bool) : zh3 := [(none, [.int .i64 0]), (none, [.nils]), (none, [.bool false]), (none, [.int .i64 0]), (none, (enE E).map (AV.int .i64))]
noncomputable def zo3 (y : IC) : IC := .seq (.region [oM 13 (.mov (.c (.nils)))] none)
 (.seq (.seq (.region [oT 45 10,
  oM 46 (.len false (.t 45)),
  oM 47 (.mov (.c (.int .i64 0)))] none)
 (.block 2 (.loop zm6)))
 (.seq (.seq (.region [oF 57 0 12,
  oN 58 57,
  oM 59 (.len false (.t 58)),
  oM 60 (.mov (.c (.int .i64 0)))] none)
 (.block 4 (.loop zm7))) y))
def zu5 (f : List Ex) (n : Int) (l : List Sp) (i m : Nat) (r : List (Nat × AV)) : List (Nat × AV) :=
 (2, .vptr [.vs (cXs f)]) :: (3, .vptr [.int .i64 n, .vs (cPs l)]) :: (4, .mptr 0 0 0) :: (5, .mptr 1 0 0) :: (6, .mptr 2 0 0) :: (7, .mptr 3 0 0) :: (10, .ms 4 0 1 0 m (some m)) :: (38, .vs (cPs l)) :: (39, .int .i64 (cPs l).length) :: (40, .int .i64 (i : Nat)) :: (11, .vptr [.int .i64 (i : Nat)]) :: r
theorem rl18 {live : zh3} {fz : List (Nat × Nat × List AV)} {la r : List (Nat × AV)} {f : List Ex} {n : Int} {l : List Sp} {i : Nat} {m : Nat} {c0 c1 c2 c3 c4 : List AV}
  (h2 : zbs 2 la = some (.vptr [.vs (cXs f)])) (h3 : zbs 3 la = some (.vptr [.int .i64 n, .vs (cPs l)])) (h4 : zbs 4 la = some (.mptr 0 0 0)) (h5 : zbs 5 la = some (.mptr 1 0 0)) (h6 : zbs 6 la = some (.mptr 2 0 0)) (h7 : zbs 7 la = some (.mptr 3 0 0)) (h10 : zbs 10 la = some (.ms 4 0 1 0 m (some m))) (h38 : zbs 38 la = some (.vs (cPs l))) (h39 : zbs 39 la = some (.int .i64 (cPs l).length)) (h40 : zbs 40 la = some (.int .i64 (i : Nat))) (h11 : zbs 11 la = some (.vptr [.int .i64 (i : Nat)]))
  (l0 : live[0]? = some (some (0, 0), c0)) (l1 : live[1]? = some (some (1, 0), c1)) (l2 : live[2]? = some (some (2, 0), c2)) (l3 : live[3]? = some (some (3, 0), c3)) (l4 : live[4]? = some (some (4, 0), c4)) (hr : RnA live fz la r) : RnA live fz la (zu5 f n l i m r) :=
 .cons h2 (.same rfl) (.cons h3 (.same rfl) (.cons h4 (.mptr l0) (.cons h5 (.mptr l1) (.cons h6 (.mptr l2) (.cons h7 (.mptr l3) (.cons h10 (.ms l4) (.cons h38 (.same rfl) (.cons h39 (.same rfl) (.cons h40 (.same rfl) (.cons h11 (.same rfl) hr))))))))))
section
variable {w0 : World} {N0 : Nat} {k : List Fr} {Q : Exit → AS → Prop}
set_option maxHeartbeats 4000000 in
theorem cho1 (f : List Ex) (n : Int) (l : List Sp) (i : Nat) (sk : List Sk) (hsk : sk.length ≤ 6) (w : Int) (b0 : Bool) (q : Nat) {y : IC} (ok : Fit18 1 (chA [b0]) (List.replicate 1 (some 1)) [b0] sk)
  (fin : Zm Try.prog w0 N0 none y (st 97 (zu5 f n l i 1 [(13, css (chS (chA [b0]) sk))]) (zca 0 (lv5 (aft [b0] sk)) ++ zce 5 q) (q + 5) 1 (ze5 5 q)) k Q) :
  Zm Try.prog w0 N0 none (zo3 y) (st 97 (b18 f n l i sk w 1 []) (zca 0 (lv5 [b0]) ++ zce 5 q) (q + 5) 1 (ze5 5 q)) k Q := by
 unfold zo3
 refine zsr rfl (za1 rfl (onu (za7 (zsr rfl (za1 rfl (zbb rfl rfl (za1 rfl (onu (zad ?_)))))))))
 refine zq (zam q 5) (lvF [b0] [(none, [])]) [] (b18 f n l i sk w 1 [(13, .ms 5 0 1 0 0 none), (45, .ms 4 0 1 0 1 (some 1)), (46, .int .i64 1), (47, .int .i64 ((0 : Nat) : Int))]) rfl .nil (zfn rfl rfl rfl rfl rfl (.new .nil)) (zhg rfl rfl rfl rfl rfl rfl rfl rfl rfl rfl rfl rfl rfl rfl rfl rfl rfl (.cons rfl (.grow rfl) (.cons rfl (.ms rfl) (.cons rfl (.same rfl) (.cons rfl (.same rfl) .nil))))) ?_
 refine loopA1 f n l i sk w b0 q ?_
 refine za7 (zsr rfl (zak rfl rfl rfl (za6 rfl rfl (zbb rfl rfl (za1 rfl (onu (zad ?_)))))))
 refine zf6 (zaq (.cons rfl (.cons rfl (.cons rfl (.cons rfl (.cons rfl (.cons rfl (.cons rfl (.cons rfl (.cons rfl (.cons rfl (.cons rfl (.cons rfl (.cons rfl (.cons rfl (.cons rfl (.cons rfl .nil))))))))))))))))) (loopB1 f n l i sk hsk w (chA [b0]) (List.replicate 1 (some 1)) [b0] q ok fun ks E2 hks hE2 => ?_)
 subst hE2
 have hlE : (aft [b0] sk).length = 1 := by rw [zbu]; rfl
 have hlC : (chS (chA [b0]) sk).length = 1 := by rw [ze1]; rfl
 generalize aft [b0] sk = E2 at *
 generalize chS (chA [b0]) sk = C at *
 obtain ⟨c0, rfl⟩ := len1 hlC
 obtain ⟨k0, rfl⟩ := len1 hks
 obtain ⟨e0, rfl⟩ := len1 hlE
 refine zq (zam q (6 + 1)) (lvF [e0] [(some (5, 0), zw7 [c0])]) [(6, 0, c0.map (AV.int .i64))] (zu5 f n l i 1 [(13, .ms 5 0 1 0 1 none)]) rfl (.cons rfl (zaj _) .nil) (zfn rfl rfl rfl rfl rfl (.cons rfl (.cons (.fms0 rfl (by rw [y07]) (fun y hy => by obtain ⟨z, _, rfl⟩ := y0o.1 hy; rfl) (zdj _)) .nil) .nil)) (rl18 rfl rfl rfl rfl rfl rfl rfl rfl rfl rfl rfl rfl rfl rfl rfl rfl (.cons rfl (.ms rfl) .nil)) ?_
 exact zq (zam q 6) (lvF [e0] []) [(5, 0, zw7 [c0])] (zu5 f n l i 1 [(13, css [c0])]) rfl (.cons rfl (zgy _) .nil) (zfn rfl rfl rfl rfl rfl .nil) (rl18 rfl rfl rfl rfl rfl rfl rfl rfl rfl rfl rfl rfl rfl rfl rfl rfl (.cons rfl (by rw [zo6]; exact .fms1 rfl rfl) .nil)) fin
set_option maxHeartbeats 4000000 in
theorem cho2 (f : List Ex) (n : Int) (l : List Sp) (i : Nat) (sk : List Sk) (hsk : sk.length ≤ 6) (w : Int) (b0 b1 : Bool) (q : Nat) {y : IC} (ok : Fit18 2 (chA [b0, b1]) (List.replicate 2 (some 1)) [b0, b1] sk)
  (fin : Zm Try.prog w0 N0 none y (st 97 (zu5 f n l i 2 [(13, css (chS (chA [b0, b1]) sk))]) (zca 0 (lv5 (aft [b0, b1] sk)) ++ zce 5 q) (q + 5) 1 (ze5 5 q)) k Q) :
  Zm Try.prog w0 N0 none (zo3 y) (st 97 (b18 f n l i sk w 2 []) (zca 0 (lv5 [b0, b1]) ++ zce 5 q) (q + 5) 1 (ze5 5 q)) k Q := by
 unfold zo3
 refine zsr rfl (za1 rfl (onu (za7 (zsr rfl (za1 rfl (zbb rfl rfl (za1 rfl (onu (zad ?_)))))))))
 refine zq (zam q 5) (lvF [b0, b1] [(none, [])]) [] (b18 f n l i sk w 2 [(13, .ms 5 0 1 0 0 none), (45, .ms 4 0 1 0 2 (some 2)), (46, .int .i64 2), (47, .int .i64 ((0 : Nat) : Int))]) rfl .nil (zfn rfl rfl rfl rfl rfl (.new .nil)) (zhg rfl rfl rfl rfl rfl rfl rfl rfl rfl rfl rfl rfl rfl rfl rfl rfl rfl (.cons rfl (.grow rfl) (.cons rfl (.ms rfl) (.cons rfl (.same rfl) (.cons rfl (.same rfl) .nil))))) ?_
 refine loopA2 f n l i sk w b0 b1 q ?_
 refine za7 (zsr rfl (zak rfl rfl rfl (za6 rfl rfl (zbb rfl rfl (za1 rfl (onu (zad ?_)))))))
 refine zf6 (zaq (.cons rfl (.cons rfl (.cons rfl (.cons rfl (.cons rfl (.cons rfl (.cons rfl (.cons rfl (.cons rfl (.cons rfl (.cons rfl (.cons rfl (.cons rfl (.cons rfl (.cons rfl (.cons rfl .nil))))))))))))))))) (loopB2 f n l i sk hsk w (chA [b0, b1]) (List.replicate 2 (some 1)) [b0, b1] q ok fun ks E2 hks hE2 => ?_)
 subst hE2
 have hlE : (aft [b0, b1] sk).length = 2 := by rw [zbu]; rfl
 have hlC : (chS (chA [b0, b1]) sk).length = 2 := by rw [ze1]; rfl
 generalize aft [b0, b1] sk = E2 at *
 generalize chS (chA [b0, b1]) sk = C at *
 obtain ⟨c0, c1, rfl⟩ := len2 hlC
 obtain ⟨k0, k1, rfl⟩ := len2 hks
 obtain ⟨e0, e1, rfl⟩ := len2 hlE
 refine zq (zam q (6 + 2)) (lvF [e0, e1] [(some (5, 0), zw7 [c0, c1])]) [(6, 0, c0.map (AV.int .i64)), (7, 0, c1.map (AV.int .i64))] (zu5 f n l i 2 [(13, .ms 5 0 1 0 2 none)]) rfl (.cons rfl (zaj _) (.cons rfl (zaj _) .nil)) (zfn rfl rfl rfl rfl rfl (.cons rfl (.cons (.fms0 rfl (by rw [y07]) (fun y hy => by obtain ⟨z, _, rfl⟩ := y0o.1 hy; rfl) (zdj _)) (.cons (.fms0 rfl (by rw [y07]) (fun y hy => by obtain ⟨z, _, rfl⟩ := y0o.1 hy; rfl) (zdj _)) .nil)) .nil)) (rl18 rfl rfl rfl rfl rfl rfl rfl rfl rfl rfl rfl rfl rfl rfl rfl rfl (.cons rfl (.ms rfl) .nil)) ?_
 exact zq (zam q 6) (lvF [e0, e1] []) [(5, 0, zw7 [c0, c1])] (zu5 f n l i 2 [(13, css [c0, c1])]) rfl (.cons rfl (zgy _) .nil) (zfn rfl rfl rfl rfl rfl .nil) (rl18 rfl rfl rfl rfl rfl rfl rfl rfl rfl rfl rfl rfl rfl rfl rfl rfl (.cons rfl (by rw [zo6]; exact .fms1 rfl rfl) .nil)) fin
set_option maxHeartbeats 4000000 in
theorem cho3 (f : List Ex) (n : Int) (l : List Sp) (i : Nat) (sk : List Sk) (hsk : sk.length ≤ 6) (w : Int) (b0 b1 b2 : Bool) (q : Nat) {y : IC} (ok : Fit18 3 (chA [b0, b1, b2]) (List.replicate 3 (some 1)) [b0, b1, b2] sk)
  (fin : Zm Try.prog w0 N0 none y (st 97 (zu5 f n l i 3 [(13, css (chS (chA [b0, b1, b2]) sk))]) (zca 0 (lv5 (aft [b0, b1, b2] sk)) ++ zce 5 q) (q + 5) 1 (ze5 5 q)) k Q) :
  Zm Try.prog w0 N0 none (zo3 y) (st 97 (b18 f n l i sk w 3 []) (zca 0 (lv5 [b0, b1, b2]) ++ zce 5 q) (q + 5) 1 (ze5 5 q)) k Q := by
 unfold zo3
 refine zsr rfl (za1 rfl (onu (za7 (zsr rfl (za1 rfl (zbb rfl rfl (za1 rfl (onu (zad ?_)))))))))
 refine zq (zam q 5) (lvF [b0, b1, b2] [(none, [])]) [] (b18 f n l i sk w 3 [(13, .ms 5 0 1 0 0 none), (45, .ms 4 0 1 0 3 (some 3)), (46, .int .i64 3), (47, .int .i64 ((0 : Nat) : Int))]) rfl .nil (zfn rfl rfl rfl rfl rfl (.new .nil)) (zhg rfl rfl rfl rfl rfl rfl rfl rfl rfl rfl rfl rfl rfl rfl rfl rfl rfl (.cons rfl (.grow rfl) (.cons rfl (.ms rfl) (.cons rfl (.same rfl) (.cons rfl (.same rfl) .nil))))) ?_
 refine loopA3 f n l i sk w b0 b1 b2 q ?_
 refine za7 (zsr rfl (zak rfl rfl rfl (za6 rfl rfl (zbb rfl rfl (za1 rfl (onu (zad ?_)))))))
 refine zf6 (zaq (.cons rfl (.cons rfl (.cons rfl (.cons rfl (.cons rfl (.cons rfl (.cons rfl (.cons rfl (.cons rfl (.cons rfl (.cons rfl (.cons rfl (.cons rfl (.cons rfl (.cons rfl (.cons rfl .nil))))))))))))))))) (loopB3 f n l i sk hsk w (chA [b0, b1, b2]) (List.replicate 3 (some 1)) [b0, b1, b2] q ok fun ks E2 hks hE2 => ?_)
 subst hE2
 have hlE : (aft [b0, b1, b2] sk).length = 3 := by rw [zbu]; rfl
 have hlC : (chS (chA [b0, b1, b2]) sk).length = 3 := by rw [ze1]; rfl
 generalize aft [b0, b1, b2] sk = E2 at *
 generalize chS (chA [b0, b1, b2]) sk = C at *
 obtain ⟨c0, c1, c2, rfl⟩ := len3 hlC
 obtain ⟨k0, k1, k2, rfl⟩ := len3 hks
 obtain ⟨e0, e1, e2, rfl⟩ := len3 hlE
 refine zq (zam q (6 + 3)) (lvF [e0, e1, e2] [(some (5, 0), zw7 [c0, c1, c2])]) [(6, 0, c0.map (AV.int .i64)), (7, 0, c1.map (AV.int .i64)), (8, 0, c2.map (AV.int .i64))] (zu5 f n l i 3 [(13, .ms 5 0 1 0 3 none)]) rfl (.cons rfl (zaj _) (.cons rfl (zaj _) (.cons rfl (zaj _) .nil))) (zfn rfl rfl rfl rfl rfl (.cons rfl (.cons (.fms0 rfl (by rw [y07]) (fun y hy => by obtain ⟨z, _, rfl⟩ := y0o.1 hy; rfl) (zdj _)) (.cons (.fms0 rfl (by rw [y07]) (fun y hy => by obtain ⟨z, _, rfl⟩ := y0o.1 hy; rfl) (zdj _)) (.cons (.fms0 rfl (by rw [y07]) (fun y hy => by obtain ⟨z, _, rfl⟩ := y0o.1 hy; rfl) (zdj _)) .nil))) .nil)) (rl18 rfl rfl rfl rfl rfl rfl rfl rfl rfl rfl rfl rfl rfl rfl rfl rfl (.cons rfl (.ms rfl) .nil)) ?_
 exact zq (zam q 6) (lvF [e0, e1, e2] []) [(5, 0, zw7 [c0, c1, c2])] (zu5 f n l i 3 [(13, css [c0, c1, c2])]) rfl (.cons rfl (zgy _) .nil) (zfn rfl rfl rfl rfl rfl .nil) (rl18 rfl rfl rfl rfl rfl rfl rfl rfl rfl rfl rfl rfl rfl rfl rfl rfl (.cons rfl (by rw [zo6]; exact .fms1 rfl rfl) .nil)) fin
set_option maxHeartbeats 4000000 in
theorem cho4 (f : List Ex) (n : Int) (l : List Sp) (i : Nat) (sk : List Sk) (hsk : sk.length ≤ 6) (w : Int) (b0 b1 b2 b3 : Bool) (q : Nat) {y : IC} (ok : Fit18 4 (chA [b0, b1, b2, b3]) (List.replicate 4 (some 1)) [b0, b1, b2, b3] sk)
  (fin : Zm Try.prog w0 N0 none y (st 97 (zu5 f n l i 4 [(13, css (chS (chA [b0, b1, b2, b3]) sk))]) (zca 0 (lv5 (aft [b0, b1, b2, b3] sk)) ++ zce 5 q) (q + 5) 1 (ze5 5 q)) k Q) :
  Zm Try.prog w0 N0 none (zo3 y) (st 97 (b18 f n l i sk w 4 []) (zca 0 (lv5 [b0, b1, b2, b3]) ++ zce 5 q) (q + 5) 1 (ze5 5 q)) k Q := by
 unfold zo3
 refine zsr rfl (za1 rfl (onu (za7 (zsr rfl (za1 rfl (zbb rfl rfl (za1 rfl (onu (zad ?_)))))))))
 refine zq (zam q 5) (lvF [b0, b1, b2, b3] [(none, [])]) [] (b18 f n l i sk w 4 [(13, .ms 5 0 1 0 0 none), (45, .ms 4 0 1 0 4 (some 4)), (46, .int .i64 4), (47, .int .i64 ((0 : Nat) : Int))]) rfl .nil (zfn rfl rfl rfl rfl rfl (.new .nil)) (zhg rfl rfl rfl rfl rfl rfl rfl rfl rfl rfl rfl rfl rfl rfl rfl rfl rfl (.cons rfl (.grow rfl) (.cons rfl (.ms rfl) (.cons rfl (.same rfl) (.cons rfl (.same rfl) .nil))))) ?_
 refine loopA4 f n l i sk w b0 b1 b2 b3 q ?_
 refine za7 (zsr rfl (zak rfl rfl rfl (za6 rfl rfl (zbb rfl rfl (za1 rfl (onu (zad ?_)))))))
 refine zf6 (zaq (.cons rfl (.cons rfl (.cons rfl (.cons rfl (.cons rfl (.cons rfl (.cons rfl (.cons rfl (.cons rfl (.cons rfl (.cons rfl (.cons rfl (.cons rfl (.cons rfl (.cons rfl (.cons rfl .nil))))))))))))))))) (loopB4 f n l i sk hsk w (chA [b0, b1, b2, b3]) (List.replicate 4 (some 1)) [b0, b1, b2, b3] q ok fun ks E2 hks hE2 => ?_)
 subst hE2
 have hlE : (aft [b0, b1, b2, b3] sk).length = 4 := by rw [zbu]; rfl
 have hlC : (chS (chA [b0, b1, b2, b3]) sk).length = 4 := by rw [ze1]; rfl
 generalize aft [b0, b1, b2, b3] sk = E2 at *
 generalize chS (chA [b0, b1, b2, b3]) sk = C at *
 obtain ⟨c0, c1, c2, c3, rfl⟩ := len4 hlC
 obtain ⟨k0, k1, k2, k3, rfl⟩ := len4 hks
 obtain ⟨e0, e1, e2, e3, rfl⟩ := len4 hlE
 refine zq (zam q (6 + 4)) (lvF [e0, e1, e2, e3] [(some (5, 0), zw7 [c0, c1, c2, c3])]) [(6, 0, c0.map (AV.int .i64)), (7, 0, c1.map (AV.int .i64)), (8, 0, c2.map (AV.int .i64)), (9, 0, c3.map (AV.int .i64))] (zu5 f n l i 4 [(13, .ms 5 0 1 0 4 none)]) rfl (.cons rfl (zaj _) (.cons rfl (zaj _) (.cons rfl (zaj _) (.cons rfl (zaj _) .nil)))) (zfn rfl rfl rfl rfl rfl (.cons rfl (.cons (.fms0 rfl (by rw [y07]) (fun y hy => by obtain ⟨z, _, rfl⟩ := y0o.1 hy; rfl) (zdj _)) (.cons (.fms0 rfl (by rw [y07]) (fun y hy => by obtain ⟨z, _, rfl⟩ := y0o.1 hy; rfl) (zdj _)) (.cons (.fms0 rfl (by rw [y07]) (fun y hy => by obtain ⟨z, _, rfl⟩ := y0o.1 hy; rfl) (zdj _)) (.cons (.fms0 rfl (by rw [y07]) (fun y hy => by obtain ⟨z, _, rfl⟩ := y0o.1 hy; rfl) (zdj _)) .nil)))) .nil)) (rl18 rfl rfl rfl rfl rfl rfl rfl rfl rfl rfl rfl rfl rfl rfl rfl rfl (.cons rfl (.ms rfl) .nil)) ?_
 exact zq (zam q 6) (lvF [e0, e1, e2, e3] []) [(5, 0, zw7 [c0, c1, c2, c3])] (zu5 f n l i 4 [(13, css [c0, c1, c2, c3])]) rfl (.cons rfl (zgy _) .nil) (zfn rfl rfl rfl rfl rfl .nil) (rl18 rfl rfl rfl rfl rfl rfl rfl rfl rfl rfl rfl rfl rfl rfl rfl rfl (.cons rfl (by rw [zo6]; exact .fms1 rfl rfl) .nil)) fin
theorem zxy (f : List Ex) (n : Int) (l : List Sp) (i : Nat) (sk : List Sk) (hsk : sk.length ≤ 6) (w : Int) (E : List Bool) (m : Nat) (hE : E.length = m) (h1 : 1 ≤ m) (h4 : m ≤ 4) (q : Nat) {y : IC} (ok : Fit18 m (chA E) (List.replicate m (some 1)) E sk)
  (fin : Zm Try.prog w0 N0 none y (st 97 (zu5 f n l i m [(13, css (chS (chA E) sk))]) (zca 0 (lv5 (aft E sk)) ++ zce 5 q) (q + 5) 1 (ze5 5 q)) k Q) :
  Zm Try.prog w0 N0 none (zo3 y) (st 97 (b18 f n l i sk w m []) (zca 0 (lv5 E) ++ zce 5 q) (q + 5) 1 (ze5 5 q)) k Q := by
 rcases (show m = 1 ∨ m = 2 ∨ m = 3 ∨ m = 4 by omega) with rfl | rfl | rfl | rfl
 ·obtain ⟨b0, rfl⟩ := len1 hE
  exact cho1 f n l i sk hsk w b0 q ok fin
 ·obtain ⟨b0, b1, rfl⟩ := len2 hE
  exact cho2 f n l i sk hsk w b0 b1 q ok fin
 ·obtain ⟨b0, b1, b2, rfl⟩ := len3 hE
  exact cho3 f n l i sk hsk w b0 b1 b2 q ok fin
 ·obtain ⟨b0, b1, b2, b3, rfl⟩ := len4 hE
  exact cho4 f n l i sk hsk w b0 b1 b2 b3 q ok fin
end
theorem six {α : Type} {x : List α} (h : x.length = 6) : ∃ a b c d e f, x = [a, b, c, d, e, f] := by
 match x, h with
 | [a, b, c, d, e, f], _ => exact ⟨a, b, c, d, e, f, rfl⟩
theorem six_ne : ∀ x0 x1 x2 x3 x4 x5 : Bool, (if true = true then !(x0 == false && (x1 == false && (x2 == false && (x3 == false && (x4 == false && (x5 == false && true)))))) else x0 == false && (x1 == false && (x2 == false && (x3 == false && (x4 == false && (x5 == false && true)))))) = true → ¬ [x0, x1, x2, x3, x4, x5] = List.replicate 6 false := by decide
theorem six_eq : ∀ x0 x1 x2 x3 x4 x5 : Bool, (if true = true then !(x0 == false && (x1 == false && (x2 == false && (x3 == false && (x4 == false && (x5 == false && true)))))) else x0 == false && (x1 == false && (x2 == false && (x3 == false && (x4 == false && (x5 == false && true)))))) = false → [x0, x1, x2, x3, x4, x5] = List.replicate 6 false := by decide
def b72_3 : IC := .seq (.region [oM 50 (.bin .lss (.t 49) (.t 48))] none)
 (.seq (.cond (.t 50) (.skip)
 (.exit 3))
 (.seq (.block 4 (.seq (.region [oM 51 (.idxs 2 (.t 47) (.t 49)),
  oL 52 2 51,
  oM 9 (.alloc [.int .i64 0, .bool false]),
  ⟨none, .store 2 (.t 9) (.t 52), none⟩] none)
 (.region [oF 53 0 9,
  oN 54 53,
  oM 55 (.idxarr 6 1 (.t 4) (.t 54)),
  ⟨none, .store 1 (.t 55) (.c (.bool true)), none⟩] none)))
 (.region [oM 56 (.bin .add (.t 49) (.c (.int .i64 1))),
  oT 49 56] none)))
def b72_1 : IC := .seq (.region [oM 33 (.bin .lss (.t 32) (.t 31))] none)
 (.seq (.cond (.t 33) (.skip)
 (.exit 1))
 (.seq (.block 2 (.seq (.region [oM 34 (.idxs 2 (.t 30) (.t 32)),
  oL 35 2 34,
  oM 6 (.alloc [.nils, .int .i64 0]),
  ⟨none, .store 2 (.t 6) (.t 35), none⟩] none)
 (.seq (.seq (.region [oL 36 2 1,
  oL 37 2 6,
  oL 38 6 3,
  oM 39 (.call (.c (.fn 120 [] [])) [(.t 36), (.t 37), (.t 38)]),
  oT 7 39] none)
 (.seq (.region [oT 40 7,
  oM 41 (.bin .neq (.t 40) (.c (.int .i64 0)))] none)
 (.cond (.t 41) (.seq (.region [oT 42 7,
  oT 2 42] none)
 (.ret))
 (.skip))))
 (.seq (.region [oL 43 6 3,
  oL 44 2 6,
  oM 45 (.call (.c (.fn 121 [] [])) [(.t 43), (.t 44)]),
  ⟨none, .store 6 (.t 3) (.t 45), none⟩] none)
 (.seq (.region [oF 46 0 6,
  oN 47 46,
  oM 48 (.len false (.t 47)),
  oM 49 (.mov (.c (.int .i64 0)))] none)
 (.block 3 (.loop b72_3)))))))
 (.region [oM 57 (.bin .add (.t 32) (.c (.int .i64 1))),
  oT 32 57] none)))
-- pneumatic/sequence.Check
def ic72 : IC := .seq (.region [oM 1 (.box (.t 0)),
  oM 2 (.mov (.c (.int .i64 0)))] none)
 (.seq (.block 0 (.seq (.region [oF 11 0 1,
  oN 12 11,
  oM 13 (.bin .lss (.t 12) (.c (.int .i64 1))),
  oT 14 13,
  ⟨(some 15), .faddr 0 (.t 1), some (14, false)⟩,
  ⟨(some 16), .load none (.t 15), some (14, false)⟩,
  ⟨(some 17), .bin .gtr (.t 16) (.c (.int .i64 6)), some (14, false)⟩,
  oM 18 (.pick (.t 14) (.c (.bool true)) (.t 17)),
  oT 10 18] none)
 (.cond (.t 10) (.seq (.region [oM 2 (.mov (.c (.int .i64 2)))] none)
 (.ret))
 (.seq (.region [oF 20 1 1,
  oN 21 20,
  oM 22 (.len false (.t 21)),
  oM 23 (.bin .eql (.t 22) (.c (.int .i64 0))),
  oT 19 23] none)
 (.cond (.t 19) (.seq (.region [oM 2 (.mov (.c (.int .i64 13)))] none)
 (.ret))
 (.seq (.region [oF 25 1 1,
  oN 26 25,
  oM 27 (.len false (.t 26)),
  oM 28 (.bin .gtr (.t 27) (.c (.int .i64 64))),
  oT 24 28] none)
 (.cond (.t 24) (.seq (.region [oM 2 (.mov (.c (.int .i64 5)))] none)
 (.ret))
 (.skip))))))))
 (.seq (.region [oM 3 (.alloc [.bool false, .bool false, .bool false, .bool false, .bool false, .bool false]),
  oM 4 (.alloc [.bool false, .bool false, .bool false, .bool false, .bool false, .bool false])] none)
 (.seq (.seq (.region [oF 29 1 1,
  oN 30 29,
  oM 31 (.len false (.t 30)),
  oM 32 (.mov (.c (.int .i64 0)))] none)
 (.block 1 (.loop b72_1)))
 (.seq (.seq (.region [oL 58 6 3,
  oM 59 (.build [.bool false, .bool false, .bool false, .bool false, .bool false, .bool false] []),
  oM 60 (.eqs true [(0, .bool), (1, .bool), (2, .bool), (3, .bool), (4, .bool), (5, .bool)] (.t 58) (.t 59))] none)
 (.cond (.t 60) (.seq (.region [oM 2 (.mov (.c (.int .i64 9)))] none)
 (.ret))
 (.skip)))
 (.seq (.seq (.region [oF 61 0 1,
  oN 62 61,
  oM 63 (.slarr 6 1 (.t 4) none (some (.t 62))),
  oM 64 (.call (.c (.fn 122 [] [])) [(.t 63), (.c (.bool false))])] none)
 (.cond (.t 64) (.seq (.region [oM 2 (.mov (.c (.int .i64 13)))] none)
 (.ret))
 (.skip)))
 (.seq (.region [oM 2 (.mov (.c (.int .i64 0)))] none)
 (.ret)))))))
theorem fn72 : env0.fn 72 = some ⟨65, ic72, [.t 2]⟩ := by kernel_rfl
section
variable {w0 : World} {N0 : Nat} {k : List Fr} {Q : Exit → AS → Prop}
set_option maxHeartbeats 2000000 in
theorem mark72 (n : Int) (l : List Sp) (i : Nat) (q : List Sk) (w : Int) (x m : List Bool) (hql : q.length ≤ 100) (ha : ∀ s ∈ q, 0 ≤ s.a ∧ s.a < 6) (hm : m.length = 6) {y : IC}
  (fin : Zm Try.prog w0 N0 none y (st 65 [(1, .vptr [.int .i64 n, .vs (cPs l)]), (3, .mptr 0 0 0), (4, .mptr 1 0 0), (30, .vs (cPs l)), (31, .int .i64 (cPs l).length), (32, .int .i64 (i : Nat))] [(0, 0, .cells (x.map AV.bool)), (1, 0, .cells ((mvd m q).map AV.bool))] 2 1) k Q) :
  Zm Try.prog w0 N0 none (.loop b72_3) (st 65 [(1, .vptr [.int .i64 n, .vs (cPs l)]), (3, .mptr 0 0 0), (4, .mptr 1 0 0), (30, .vs (cPs l)), (31, .int .i64 (cPs l).length), (32, .int .i64 (i : Nat)), (47, .vs (cSs q)), (48, .int .i64 (cSs q).length), (49, .int .i64 0)] [(0, 0, .cells (x.map AV.bool)), (1, 0, .cells (m.map AV.bool))] 2 1) (.blk 3 :: .blk 2 :: .seq y :: k) Q := by
 have hcl : (cSs q).length = q.length := zbe q
 refine zbj (fun mm S => ∃ j, mm = q.length - j ∧ j ≤ q.length ∧
   S = st 65 [(1, .vptr [.int .i64 n, .vs (cPs l)]), (3, .mptr 0 0 0), (4, .mptr 1 0 0), (30, .vs (cPs l)), (31, .int .i64 (cPs l).length), (32, .int .i64 (i : Nat)), (47, .vs (cSs q)), (48, .int .i64 (cSs q).length), (49, .int .i64 (j : Nat))] [(0, 0, .cells (x.map AV.bool)), (1, 0, .cells ((mvd m (q.take j)).map AV.bool))] 2 1) q.length
  (zaq (.cons rfl (.cons rfl (.cons rfl (.cons rfl (.cons rfl (.cons rfl (.cons rfl (.cons rfl (.cons rfl .nil)))))))))) ⟨0, rfl, y0q _, rfl⟩ ?_
 rintro mm S ⟨j, rfl, hj, rfl⟩
 unfold b72_3
 refine zsr rfl ?_
 refine zao rfl rfl rfl (fun h3 => ?_) fun h3 => ?_
 ·have hlt : j < q.length := by
   have : ((j : Nat) : Int) < ((cSs q).length : Nat) := of_decide_eq_true h3
   rw [hcl] at this
   omega
  have hg := zd4 hlt
  have htk := mvd_take (x := m) hlt
  have hml := zjm (q.take j) m
  rw [hm] at hml
  obtain ⟨ha0, ha1⟩ := ha _ (y0r hlt)
  generalize q[j] = s at hg htk ha0 ha1
  obtain ⟨a, o⟩ := s
  have ha0 : 0 ≤ a := ha0
  have ha1 : a < 6 := ha1
  have hg : (cSs q)[((j : Nat) : Int).toNat]? = some [.int .i64 a, .bool o] := hg
  have htk : mvd m (q.take (j + 1)) = (mvd m (q.take j)).set a.toNat true := htk
  generalize mvd m (q.take j) = M at hml htk
  have hset : (M.map AV.bool).set (0 + a.toNat * 1) (.bool true) = (M.set a.toNat true).map AV.bool := by rw [List.map_set, Nat.mul_one, y1j]
  refine onu (za7 (zb2 rfl (zab (za8 (za7 (zad (zsr rfl (zba rfl rfl (by omega) (by assumption) rfl (zal rfl rfl rfl rfl (zay (zah rfl rfl rfl rfl rfl rfl rfl ?_)))))))))))
  refine onR rfl (za9 rfl (za6 rfl rfl (zex rfl rfl (decide_eq_true ⟨by omega, by omega⟩) ?_)))
  refine zel rfl rfl rfl rfl (by rw [y07]; omega) rfl ?_
  rw [hset]
  refine zai (zb9 (za8 (za5 rfl (zb3 (op := .add) rfl rfl rfl (za1 rfl (zai ?_))))))
  rw [zar j (by omega)]
  exact zat (show q.length - (j + 1) < q.length - j by omega) (zbd [(some (0, 0), x.map AV.bool), (some (1, 0), (M.set a.toNat true).map AV.bool)] [] rfl rfl rfl .nil (.cons rfl (.keep (zbl _)) (.cons rfl (.keep (zbl _)) .nil)) (.cons rfl (.same rfl) (.cons rfl (.mptr rfl) (.cons rfl (.mptr rfl) (.cons rfl (.same rfl) (.cons rfl (.same rfl) (.cons rfl (.same rfl) (.cons rfl (.same rfl) (.cons rfl (.same rfl) (.cons rfl (.same rfl) .nil)))))))))) ⟨j + 1, rfl, hlt, by rw [htk]; rfl⟩
 ·have hj2 : j = q.length := by
   have : ¬ ((j : Nat) : Int) < ((cSs q).length : Nat) := of_decide_eq_false h3
   rw [hcl] at this
   omega
  subst hj2
  rw [y1k]
  refine onu (za7 (zb5 rfl (zbi (zan ?_))))
  refine zc9 ?_
  refine zbh (zb9 (za8 ?_))
  exact zf6 (zaq (.cons rfl (.cons rfl (.cons rfl (.cons rfl (.cons rfl (.cons rfl .nil))))))) fin
set_option maxHeartbeats 4000000 in
theorem seq72 (n : Int) (l : List Sp) (hl : l.length ≤ 1000000) : PF Try.prog 72 [.agg (cQ n l)] (.int .i64 (chkP n l)) := by
 have hcl : (cPs l).length = l.length := zct l
 refine zax env0_ok fn72 [(0, .agg [.int .i64 n, .vs (cPs l)])] (by show 1 ≤ 65; decide) rfl fun w0 N0 => ?_
 unfold ic72 chkP
 refine zsr rfl (zbq rfl rfl (za1 rfl (onu (za7 (zad (zsr rfl (za9 rfl (za6 rfl rfl ?_))))))))
 refine zao rfl rfl rfl (fun h => ?_) fun h => ?_
 ·have h : n < 1 := of_decide_eq_true h
  rw [if_pos (.inl h)]
  refine za1 rfl (zbz rfl rfl (zbz rfl rfl (zbz rfl rfl (zau rfl rfl (za1 rfl (onu (zb2 rfl (zsr rfl (za1 rfl (onu ?_))))))))))
  refine zaf (zaa (za2 ?_))
  exact zae ⟨.inr rfl, _, rfl, rfl⟩
 have h : ¬ n < 1 := of_decide_eq_false h
 refine za1 rfl (zbc rfl (za9 rfl (zbc rfl (za6 rfl rfl (zbc rfl ?_)))))
 refine zao rfl rfl rfl (fun h6 => ?_) fun h6 => ?_
 ·have h6 : n > 6 := of_decide_eq_true h6
  rw [if_pos (.inr h6)]
  refine zap rfl rfl (za1 rfl (onu (zb2 rfl (zsr rfl (za1 rfl (onu (zaf (zaa (za2 ?_)))))))))
  exact zae ⟨.inr rfl, _, rfl, rfl⟩
 have h6 : ¬ n > 6 := of_decide_eq_false h6
 rw [if_neg (by omega)]
 refine zap rfl rfl (za1 rfl (onu (zb5 rfl (zsr rfl (za9 rfl (za6 rfl rfl (zbb rfl rfl ?_)))))))
 refine zao rfl rfl rfl (fun h2 => ?_) fun h2 => ?_
 ·have h2 : (((cPs l).length : Nat) : Int) = 0 := by simpa using h2
  rw [if_pos (by omega)]
  refine za1 rfl (onu (zb2 rfl (zsr rfl (za1 rfl (onu (zaf (zaa (za2 ?_))))))))
  exact zae ⟨.inr rfl, _, rfl, rfl⟩
 have h2 : ¬ (((cPs l).length : Nat) : Int) = 0 := by simpa using h2
 rw [if_neg (by omega)]
 refine za1 rfl (onu (zb5 rfl (zsr rfl (za9 rfl (za6 rfl rfl (zbb rfl rfl ?_))))))
 refine zao rfl rfl rfl (fun h3 => ?_) fun h3 => ?_
 ·have h3 : (((cPs l).length : Nat) : Int) > 64 := of_decide_eq_true h3
  rw [if_pos (by omega)]
  refine za1 rfl (onu (zb2 rfl (zsr rfl (za1 rfl (onu (zaf (zaa (za2 ?_))))))))
  exact zae ⟨.inr rfl, _, rfl, rfl⟩
 have h3 : ¬ (((cPs l).length : Nat) : Int) > 64 := of_decide_eq_false h3
 rw [if_neg (by omega)]
 refine za1 rfl (onu (zb5 rfl (zab (zb9 (za8 (zsr rfl (zay (zay (onu (za7 ?_))))))))))
 refine zsr rfl (za9 rfl (za6 rfl rfl (zbb rfl rfl (za1 rfl (onu (zad ?_))))))
 refine zbj (fun mm S => ∃ i x m, mm = l.length - i ∧ i ≤ l.length ∧ x.length = 6 ∧ m.length = 6 ∧ seqC n l (List.replicate 6 false) (List.replicate 6 false) = seqC n (l.drop i) x m ∧
   S = st 65 [(1, .vptr [.int .i64 n, .vs (cPs l)]), (3, .mptr 0 0 0), (4, .mptr 1 0 0), (30, .vs (cPs l)), (31, .int .i64 (cPs l).length), (32, .int .i64 (i : Nat))] [(0, 0, .cells (x.map AV.bool)), (1, 0, .cells (m.map AV.bool))] 2 1) l.length
  (zbd [(some (1, 1), (List.replicate 6 false).map AV.bool), (some (2, 2), (List.replicate 6 false).map AV.bool)] [(0, 0, [.int .i64 n, .vs (cPs l)])] rfl rfl rfl (.cons rfl rfl .nil) (.cons rfl (.keep rfl) (.cons rfl (.keep rfl) .nil)) (l' := [(1, .vptr [.int .i64 n, .vs (cPs l)]), (3, .mptr 0 0 0), (4, .mptr 1 0 0), (30, .vs (cPs l)), (31, .int .i64 (cPs l).length), (32, .int .i64 ((0 : Nat) : Int))]) (.cons rfl (.fptr rfl rfl) (.cons rfl (.mptr rfl) (.cons rfl (.mptr rfl) (.cons rfl (.same rfl) (.cons rfl (.same rfl) (.cons rfl (.same rfl) .nil))))))) ⟨0, _, _, rfl, y0q _, rfl, rfl, rfl, rfl⟩ ?_
 rintro mm S ⟨i, x, m, rfl, hi, hx, hm, hall, rfl⟩
 rw [hall]
 clear hall
 unfold b72_1
 refine zsr rfl ?_
 refine zao rfl rfl rfl (fun h4 => ?_) fun h4 => ?_
 ·have hlt : i < l.length := by
   have : ((i : Nat) : Int) < ((cPs l).length : Nat) := of_decide_eq_true h4
   rw [hcl] at this
   omega
  rw [y0d hlt, seqC]
  have hg := zgp hlt
  generalize l[i] = p at hg ⊢
  obtain ⟨q, w⟩ := p
  have hg : (cPs l)[((i : Nat) : Int).toNat]? = some [.vs (cSs q), .int .i64 w] := hg
  have p1 : PF Try.prog 120 [.agg [.int .i64 n, .vs (cPs l)], .agg [.vs (cSs q), .int .i64 w], .agg (x.map AV.bool)] (.int .i64 (fitC n ⟨q, w⟩ x)) := fits76 n l ⟨q, w⟩ x hx
  by_cases hf : fitC n ⟨q, w⟩ x = 0
  ·have hsp : spC ⟨q, w⟩ = 0 := by
    unfold fitC at hf
    split at hf
    ·rename_i h1; exact absurd hf h1
    ·rename_i h1; simpa using h1
   obtain ⟨hq, ha⟩ := zni hsp
   have hq : q.length ≤ 6 := hq
   have ha : ∀ s ∈ q, 0 ≤ s.a ∧ s.a < 6 := ha
   have p2 : PF Try.prog 121 [.agg (x.map AV.bool), .agg [.vs (cSs q), .int .i64 w]] (.agg ((aft x q).map AV.bool)) := zti ⟨q, w⟩ x (by show q.length ≤ _; omega) hx ha
   rw [hf] at p1 ⊢
   rw [if_neg (by decide)]
   have hal := zbu q x
   rw [hx] at hal
   have hml : (mvd m q).length = 6 := by rw [zjm]; exact hm
   generalize aft x q = X at p2 hal ⊢
   obtain ⟨x0, x1, x2, x3, x4, x5, rfl⟩ := six hx
   obtain ⟨y0, y1, y2, y3, y4, y5, rfl⟩ := six hal
   obtain ⟨m0, m1, m2, m3, m4, m5, rfl⟩ := six hm
   repeat (first | refine za7 ?_ | refine za5 rfl ?_ | refine zai ?_ | refine za8 ?_ | refine zad ?_ | refine zab ?_ | refine zb2 rfl ?_ | refine zal rfl rfl rfl rfl ?_ | refine zah rfl rfl rfl rfl rfl rfl rfl ?_ | refine zay ?_ | refine zba rfl rfl (by omega) (by assumption) rfl ?_)
   refine zas rfl rfl p1 noC ?_
   repeat (first | refine za7 ?_ | refine za5 rfl ?_ | refine zai ?_ | refine za8 ?_ | refine zab ?_ | refine zb5 rfl ?_ | refine za1 rfl ?_ | refine zal rfl rfl rfl rfl ?_ | refine zcc rfl rfl rfl ?_)
   refine zas rfl rfl p2 noC ?_
   refine zah rfl rfl rfl rfl rfl rfl rfl (onr rfl (za9 rfl (za6 rfl rfl (zbb rfl rfl (za1 rfl (onu (zad ?_)))))))
   refine zf2 [(some (0, 0), [y0, y1, y2, y3, y4, y5].map AV.bool), (some (1, 0), [m0, m1, m2, m3, m4, m5].map AV.bool)] [] [(1, .vptr [.int .i64 n, .vs (cPs l)]), (3, .mptr 0 0 0), (4, .mptr 1 0 0), (30, .vs (cPs l)), (31, .int .i64 (cPs l).length), (32, .int .i64 (i : Nat)), (47, .vs (cSs q)), (48, .int .i64 (cSs q).length), (49, .int .i64 0)] rfl .nil (.cons rfl (.keep rfl) (.cons rfl (.keep rfl) .nil)) (.cons rfl (.same rfl) (.cons rfl (.mptr rfl) (.cons rfl (.mptr rfl) (.cons rfl (.same rfl) (.cons rfl (.same rfl) (.cons rfl (.same rfl) (.cons rfl (.same rfl) (.cons rfl (.same rfl) (.cons rfl (.same rfl) .nil))))))))) ?_
   refine mark72 n l i q w [y0, y1, y2, y3, y4, y5] [m0, m1, m2, m3, m4, m5] (by omega) ha rfl ?_
   refine za5 rfl (zb3 (op := .add) rfl rfl rfl (za1 rfl (zai ?_)))
   rw [zar i (by omega)]
   exact zat (show l.length - (i + 1) < l.length - i by omega) (zbd [(some (0, 0), [y0, y1, y2, y3, y4, y5].map AV.bool), (some (1, 0), (mvd [m0, m1, m2, m3, m4, m5] q).map AV.bool)] [] rfl rfl rfl .nil (.cons rfl (.keep rfl) (.cons rfl (.keep (zbl _)) .nil)) (.cons rfl (.same rfl) (.cons rfl (.mptr rfl) (.cons rfl (.mptr rfl) (.cons rfl (.same rfl) (.cons rfl (.same rfl) (.cons rfl (.same rfl) .nil))))))) ⟨i + 1, _, _, rfl, hlt, rfl, hml, rfl, rfl⟩
  ·obtain ⟨x0, x1, x2, x3, x4, x5, rfl⟩ := six hx
   rw [if_pos hf]
   repeat (first | refine za7 ?_ | refine za5 rfl ?_ | refine zai ?_ | refine za8 ?_ | refine zad ?_ | refine zab ?_ | refine zb2 rfl ?_ | refine zal rfl rfl rfl rfl ?_ | refine zah rfl rfl rfl rfl rfl rfl rfl ?_ | refine zay ?_ | refine zba rfl rfl (by omega) (by assumption) rfl ?_)
   refine zas rfl rfl p1 noC ?_
   refine za1 rfl (onr rfl (za1 rfl ?_))
   refine zao rfl rfl rfl (fun h5 => ?_) fun h5 => absurd (by simpa using h5) hf
   refine onu (zb2 rfl (zsr rfl (za1 rfl (za1 rfl (onu (zaf (za2 (zaa (za2 ?_)))))))))
   refine zaw ?_
   refine zaa (za2 ?_)
   exact zae ⟨.inr rfl, _, rfl, rfl⟩
 ·have hi2 : i = l.length := by
   have : ¬ ((i : Nat) : Int) < ((cPs l).length : Nat) := of_decide_eq_false h4
   rw [hcl] at this
   omega
  subst hi2
  rw [y0p, seqC]
  obtain ⟨x0, x1, x2, x3, x4, x5, rfl⟩ := six hx
  obtain ⟨m0, m1, m2, m3, m4, m5, rfl⟩ := six hm
  refine onu (za7 (zb5 rfl (zbi (zan ?_))))
  refine zc9 ?_
  refine zbh (za8 (za7 (zsr rfl (zal rfl rfl rfl rfl (zhr rfl rfl ?_)))))
  refine o_eqs rfl rfl rfl (fun h => ?_) fun h => ?_
  ·rw [if_neg (six_ne _ _ _ _ _ _ h)]
   refine onu (zb2 rfl (zsr rfl (za1 rfl (onu (zaf (za2 ?_))))))
   exact zae ⟨.inr rfl, _, rfl, rfl⟩
  rw [if_pos (six_eq _ _ _ _ _ _ h)]
  clear h
  have hn : n = 1 ∨ n = 2 ∨ n = 3 ∨ n = 4 ∨ n = 5 ∨ n = 6 := by omega
  rcases hn with rfl | rfl | rfl | rfl | rfl | rfl
  ·have p3 := zeo [m0] (by simp) false
   refine onu (zb5 rfl (zab (za8 (za7 (zsr rfl (zak rfl rfl rfl (za6 rfl rfl ?_)))))))
   refine zht rfl rfl rfl rfl rfl (by decide) ?_
   refine zas rfl rfl p3 (fun _ => rfl) ?_
   show Om _ _ _ _ _ _ _ _ fun e S' => (e = Exit.normal ∨ e = Exit.ret) ∧ ∃ v0, _ ∧ _ = AV.int IntKind.i64 (if ([m0].any fun x => x == false) = true then 13 else 0)
   cases [m0].any (· == false)
   all_goals
    repeat (first | refine za7 ?_ | refine za5 rfl ?_ | refine zai ?_ | refine za8 ?_ | refine zab ?_ | refine zb2 rfl ?_ | refine zb5 rfl ?_ | refine zaf ?_ | refine za2 ?_ | refine za1 rfl ?_)
    exact zae ⟨.inr rfl, _, rfl, rfl⟩
  ·have p3 := zeo [m0, m1] (by simp) false
   refine onu (zb5 rfl (zab (za8 (za7 (zsr rfl (zak rfl rfl rfl (za6 rfl rfl ?_)))))))
   refine zht rfl rfl rfl rfl rfl (by decide) ?_
   refine zas rfl rfl p3 (fun _ => rfl) ?_
   show Om _ _ _ _ _ _ _ _ fun e S' => (e = Exit.normal ∨ e = Exit.ret) ∧ ∃ v0, _ ∧ _ = AV.int IntKind.i64 (if ([m0, m1].any fun x => x == false) = true then 13 else 0)
   cases [m0, m1].any (· == false)
   all_goals
    repeat (first | refine za7 ?_ | refine za5 rfl ?_ | refine zai ?_ | refine za8 ?_ | refine zab ?_ | refine zb2 rfl ?_ | refine zb5 rfl ?_ | refine zaf ?_ | refine za2 ?_ | refine za1 rfl ?_)
    exact zae ⟨.inr rfl, _, rfl, rfl⟩
  ·have p3 := zeo [m0, m1, m2] (by simp) false
   refine onu (zb5 rfl (zab (za8 (za7 (zsr rfl (zak rfl rfl rfl (za6 rfl rfl ?_)))))))
   refine zht rfl rfl rfl rfl rfl (by decide) ?_
   refine zas rfl rfl p3 (fun _ => rfl) ?_
   show Om _ _ _ _ _ _ _ _ fun e S' => (e = Exit.normal ∨ e = Exit.ret) ∧ ∃ v0, _ ∧ _ = AV.int IntKind.i64 (if ([m0, m1, m2].any fun x => x == false) = true then 13 else 0)
   cases [m0, m1, m2].any (· == false)
   all_goals
    repeat (first | refine za7 ?_ | refine za5 rfl ?_ | refine zai ?_ | refine za8 ?_ | refine zab ?_ | refine zb2 rfl ?_ | refine zb5 rfl ?_ | refine zaf ?_ | refine za2 ?_ | refine za1 rfl ?_)
    exact zae ⟨.inr rfl, _, rfl, rfl⟩
  ·have p3 := zeo [m0, m1, m2, m3] (by simp) false
   refine onu (zb5 rfl (zab (za8 (za7 (zsr rfl (zak rfl rfl rfl (za6 rfl rfl ?_)))))))
   refine zht rfl rfl rfl rfl rfl (by decide) ?_
   refine zas rfl rfl p3 (fun _ => rfl) ?_
   show Om _ _ _ _ _ _ _ _ fun e S' => (e = Exit.normal ∨ e = Exit.ret) ∧ ∃ v0, _ ∧ _ = AV.int IntKind.i64 (if ([m0, m1, m2, m3].any fun x => x == false) = true then 13 else 0)
   cases [m0, m1, m2, m3].any (· == false)
   all_goals
    repeat (first | refine za7 ?_ | refine za5 rfl ?_ | refine zai ?_ | refine za8 ?_ | refine zab ?_ | refine zb2 rfl ?_ | refine zb5 rfl ?_ | refine zaf ?_ | refine za2 ?_ | refine za1 rfl ?_)
    exact zae ⟨.inr rfl, _, rfl, rfl⟩
  ·have p3 := zeo [m0, m1, m2, m3, m4] (by simp) false
   refine onu (zb5 rfl (zab (za8 (za7 (zsr rfl (zak rfl rfl rfl (za6 rfl rfl ?_)))))))
   refine zht rfl rfl rfl rfl rfl (by decide) ?_
   refine zas rfl rfl p3 (fun _ => rfl) ?_
   show Om _ _ _ _ _ _ _ _ fun e S' => (e = Exit.normal ∨ e = Exit.ret) ∧ ∃ v0, _ ∧ _ = AV.int IntKind.i64 (if ([m0, m1, m2, m3, m4].any fun x => x == false) = true then 13 else 0)
   cases [m0, m1, m2, m3, m4].any (· == false)
   all_goals
    repeat (first | refine za7 ?_ | refine za5 rfl ?_ | refine zai ?_ | refine za8 ?_ | refine zab ?_ | refine zb2 rfl ?_ | refine zb5 rfl ?_ | refine zaf ?_ | refine za2 ?_ | refine za1 rfl ?_)
    exact zae ⟨.inr rfl, _, rfl, rfl⟩
  ·have p3 := zeo [m0, m1, m2, m3, m4, m5] (by simp) false
   refine onu (zb5 rfl (zab (za8 (za7 (zsr rfl (zak rfl rfl rfl (za6 rfl rfl ?_)))))))
   refine zht rfl rfl rfl rfl rfl (by decide) ?_
   refine zas rfl rfl p3 (fun _ => rfl) ?_
   show Om _ _ _ _ _ _ _ _ fun e S' => (e = Exit.normal ∨ e = Exit.ret) ∧ ∃ v0, _ ∧ _ = AV.int IntKind.i64 (if ([m0, m1, m2, m3, m4, m5].any fun x => x == false) = true then 13 else 0)
   cases [m0, m1, m2, m3, m4, m5].any (· == false)
   all_goals
    repeat (first | refine za7 ?_ | refine za5 rfl ?_ | refine zai ?_ | refine za8 ?_ | refine zab ?_ | refine zb2 rfl ?_ | refine zb5 rfl ?_ | refine zaf ?_ | refine za2 ?_ | refine za1 rfl ?_)
    exact zae ⟨.inr rfl, _, rfl, rfl⟩
end
def ownZ : List (List AV × List AV) := [1, 2, 3, 4].map fun n => ([vsI [0], .int .i64 ((n : Nat) : Int)], (List.replicate n 0).map (AV.int .i64))
theorem zp6 : zqt Try.prog (env0.tab [] []) 80 81 some ownZ = true := by kernel_rfl
theorem rep0 {n : Nat} (h1 : 1 ≤ n) (h4 : n ≤ 4) : PFo Try.prog 81 [vsI [0], .int .i64 ((n : Nat) : Int)] 1 n (some n) ((List.replicate n 0).map (AV.int .i64)) := by
 rcases (show n = 1 ∨ n = 2 ∨ n = 3 ∨ n = 4 by omega) with rfl | rfl | rfl | rfl
 ·exact ze6 (env0_ok.tab TabOk.nil) zp6 _ (y05 ..)
 ·exact ze6 (env0_ok.tab TabOk.nil) zp6 _ (y04 _ (y05 ..))
 ·exact ze6 (env0_ok.tab TabOk.nil) zp6 _ (y04 _ (y04 _ (y05 ..)))
 ·exact ze6 (env0_ok.tab TabOk.nil) zp6 _ (y04 _ (y04 _ (y04 _ (y05 ..))))
theorem zye (m : Nat) : enE (List.replicate m false) = List.replicate m 0 := List.map_replicate ..
theorem zle : ∀ l : List Int, flat.flatL (l.map (AV.int .i64)) = true
 | [] => rfl
 | z :: l => by
  have := zle l
  show (flat _ && flat.flatL _) = true
  rw [this]
  rfl
theorem znd {S : AS} {a b c d : Nat} {pa pb pc pd va vb vc vd : AV} {ra rb rc rd : List AV} (h1 : S.get a = some pa) (d1 : S.deref pa = some (va :: ra)) (h2 : S.get b = some pb) (d2 : S.deref pb = some (vb :: rb)) (h3 : S.get c = some pc) (d3 : S.deref pc = some (vc :: rc)) (h4 : S.get d = some pd) (d4 : S.deref pd = some (vd :: rd)) :
  S.res [.cell a none, .cell b none, .cell c none, .cell d none] = some (.tup [va, vb, vc, vd]) := by
 simp [AS.res, AS.resL, zsl, h1, h2, h3, h4, d1, d2, d3, d4]
theorem zg6 : ∀ (ms : List (Nat × Nat)) (hp : List (Nat × Nat × AObj)) (k : Nat), (∀ z ∈ ms, z.1 ≠ k) → Am.look k (zho ms hp) = Am.look k hp
 | [], _, _, _ => rfl
 | z :: ms, hp, k, h => by
  rw [zq6, zg6 ms _ k fun y hy => h y (y04 _ hy), za4, if_neg (h z (y05 ..))]
def J18s (f : List Ex) (m : Nat) (l : List Sp) (mm : Nat) (S : AS) : Prop := ∃ i q, mm = l.length - i ∧ i ≤ l.length ∧ dgS f 0 (List.replicate m false) l = dgS f i (zgi (List.replicate m false) (l.take i)) (l.drop i) ∧
 S = st 97 [(2, .vptr [.vs (cXs f)]), (3, .vptr [.int .i64 (m : Nat), .vs (cPs l)]), (4, .mptr 0 0 0), (5, .mptr 1 0 0), (6, .mptr 2 0 0), (7, .mptr 3 0 0), (10, .ms 4 0 1 0 m (some m)), (38, .vs (cPs l)), (39, .int .i64 (cPs l).length), (40, .int .i64 (i : Nat))] (zca 0 (lv5 (zgi (List.replicate m false) (l.take i))) ++ zce 5 q) (q + 5) 1 (ze5 5 q)
section
variable {w0 : World} {N0 : Nat} {k : List Fr} {Q : Exit → AS → Prop}
set_option maxHeartbeats 4000000 in
theorem round18 {f : List Ex} (hsl : ∀ y ∈ f, Slim y) {m : Nat} (hg : zc0 f m = 0) (m4 : m ≤ 4) {l : List Sp} (ok : SeqOk m l) (mm : Nat) (S : AS) (hJ : J18s f m l mm S)
  (fin : ∀ l' hp nx ck mk, dgS f 0 (List.replicate m false) l = (0, [], false) → zbs 4 l' = some (.mptr 0 0 0) → zbs 5 l' = some (.mptr 1 0 0) → zbs 6 l' = some (.mptr 2 0 0) → zbs 7 l' = some (.mptr 3 0 0) → 5 ≤ nx → (∀ z ∈ mk, 5 ≤ z.1) → Am.look 0 hp = some (0, .cells [.int .i64 0]) → Am.look 1 hp = some (0, .cells [.nils]) → Am.look 2 hp = some (0, .cells [.bool false]) → Am.look 3 hp = some (0, .cells [.int .i64 0]) → Um Try.prog w0 N0 none (.exit 0) (st 97 l' hp nx ck mk) k Q)
  (ret : ∀ l' (i : Nat) p hp nx ck mk, dgS f 0 (List.replicate m false) l = ((i : Int), p, true) → zbs 4 l' = some (.mptr 0 0 0) → zbs 5 l' = some (.mptr 1 0 0) → zbs 6 l' = some (.mptr 2 0 0) → zbs 7 l' = some (.mptr 3 0 0) → 5 ≤ nx → (∀ z ∈ mk, 5 ≤ z.1) → Am.look 0 hp = some (0, .cells [.int .i64 (i : Nat)]) → Am.look 1 hp = some (0, .cells [vsI p]) → Am.look 2 hp = some (0, .cells [.bool true]) → Am.look 3 hp = some (0, .cells [.int .i64 0]) → Um Try.prog w0 N0 none .ret (st 97 l' hp nx ck mk) k Q) :
  Zm Try.prog w0 N0 none b18_0 S [] (zmc w0 N0 none (J18s f m l) mm (unw Try.prog w0 N0 none k Q)) := by
 obtain ⟨i, q, rfl, hi, hall, rfl⟩ := hJ
 have l64 := ok.l64
 have hcl : (cPs l).length = l.length := zct l
 unfold b18_0
 refine zsr rfl ?_
 refine zao rfl rfl rfl (fun h3 => ?_) fun h3 => ?_
 ·have hlt : i < l.length := by
   have := of_decide_eq_true h3
   rw [hcl] at this
   omega
  have hst := ok.step hlt
  have hEl := SeqOk.behLen (n := m) (l := l) i
  have htk := zgo (E := List.replicate m false) hlt
  rw [dgS_step (n := m) (List.replicate m false) (y0s ..) hlt] at hall
  have hfit := zyl hst (by rw [hEl])
  have hstat := hst.stat (by rw [hEl])
  rw [hEl] at hfit hstat
  have hq := hst.len
  have h1 := ok.n1
  have hg' := zgp hlt
  generalize hE : zgi (List.replicate m false) (l.take i) = E at *
  generalize hE2 : zgi (List.replicate m false) (l.take (i + 1)) = E2 at *
  generalize l[i] = p at *
  obtain ⟨sk, w⟩ := p
  have hg' : (cPs l)[((i : Nat) : Int).toNat]? = some [.vs (cSs sk), .int .i64 w] := hg'
  have hfit : Fit18 m (chA E) (List.replicate m (some 1)) E sk := hfit
  have hstat : chS (chA E) sk = zf5 E (aft E sk) sk m := hstat
  have htk : E2 = aft E sk := htk
  have hq : sk.length ≤ 6 := hq
  have hall : dgS f 0 (List.replicate m false) l = match badP f (ze2 (zf5 E (aft E sk) sk m)) with
   | some q => ((i : Int), q, true)
   | none => dgS f (i + 1) E2 (l.drop (i + 1)) := hall
  refine onu (za7 (zb2 rfl (zab (za8 (za7 (zad (zsr rfl (za1 rfl (zba rfl rfl (by omega) (by assumption) rfl (zal rfl rfl rfl rfl (zay ?_)))))))))))
  refine zay ?_
  refine zah (sp := 1) rfl rfl rfl rfl (by (repeat (first | rw [za0, if_neg (by omega)] | rw [za0, if_pos rfl] | rw [za3, if_neg (by omega)] | rw [za3, if_pos rfl])); try rfl) rfl rfl ?_
  refine zah (sp := 2) rfl rfl rfl rfl (by (repeat (first | rw [za0, if_neg (by omega)] | rw [za0, if_pos rfl] | rw [za3, if_neg (by omega)] | rw [za3, if_pos rfl])); try rfl) rfl rfl ?_
  refine onu ?_
  refine zq (zam q 5) [(some (0, 0), [.int .i64 0]), (some (1, 0), [.nils]), (some (2, 0), [.bool false]), (some (3, 0), [.int .i64 0]), (some (4, 0), (enE E).map (AV.int .i64))] [(q + 5, 1, [.int .i64 (i : Nat)]), (q + 5 + 1, 2, [.vs (cSs sk), .int .i64 w])] [(2, .vptr [.vs (cXs f)]), (3, .vptr [.int .i64 (m : Nat), .vs (cPs l)]), (4, .mptr 0 0 0), (5, .mptr 1 0 0), (6, .mptr 2 0 0), (7, .mptr 3 0 0), (10, .ms 4 0 1 0 m (some m)), (38, .vs (cPs l)), (39, .int .i64 (cPs l).length), (40, .int .i64 (i : Nat)), (11, .vptr [.int .i64 (i : Nat)]), (12, .vptr [.vs (cSs sk), .int .i64 w])] rfl (.cons (by (repeat (first | rw [za0, if_neg (by omega)] | rw [za0, if_pos rfl] | rw [za3, if_neg (by omega)] | rw [za3, if_pos rfl])); try rfl) rfl (.cons (by (repeat (first | rw [za0, if_neg (by omega)] | rw [za0, if_pos rfl] | rw [za3, if_neg (by omega)] | rw [za3, if_pos rfl])); try rfl) rfl .nil)) (.cons (by (repeat (first | rw [za0, if_neg (by omega)] | rw [za0, if_pos rfl] | rw [za3, if_neg (by omega)] | rw [za3, if_pos rfl])); try rfl) (.keep rfl) (.cons (by (repeat (first | rw [za0, if_neg (by omega)] | rw [za0, if_pos rfl] | rw [za3, if_neg (by omega)] | rw [za3, if_pos rfl])); try rfl) (.keep rfl) (.cons (by (repeat (first | rw [za0, if_neg (by omega)] | rw [za0, if_pos rfl] | rw [za3, if_neg (by omega)] | rw [za3, if_pos rfl])); try rfl) (.keep rfl) (.cons (by (repeat (first | rw [za0, if_neg (by omega)] | rw [za0, if_pos rfl] | rw [za3, if_neg (by omega)] | rw [za3, if_pos rfl])); try rfl) (.keep rfl) (.cons (by (repeat (first | rw [za0, if_neg (by omega)] | rw [za0, if_pos rfl] | rw [za3, if_neg (by omega)] | rw [za3, if_pos rfl])); try rfl) (.keep (zaj _)) .nil))))) (.cons rfl (.same rfl) (.cons rfl (.same rfl) (.cons rfl (.mptr rfl) (.cons rfl (.mptr rfl) (.cons rfl (.mptr rfl) (.cons rfl (.mptr rfl) (.cons rfl (.ms rfl) (.cons rfl (.same rfl) (.cons rfl (.same rfl) (.cons rfl (.same rfl) (.cons rfl (.fptr (by simp [fzl]) rfl) (.cons rfl (.fptr (by simp [fzl, show Nat.beq 1 2 = false from rfl]) rfl) .nil)))))))))))) ?_
  refine zxy f m l i sk hq w E m hEl h1 m4 q hfit ?_
  rw [hstat, ← htk]
  rw [← htk] at hall
  have hrow := zy4 (zf5 E E2 sk m)
  rw [zf0] at hrow
  have hCl := zf0 E E2 sk m
  have hCn : ∀ c ∈ zf5 E E2 sk m, c ≠ [] ∧ c.length ≤ 3 := statL_ne
  generalize zf5 E E2 sk m = C at *
  have hmk0 : zdf (ze5 5 q) (zca 0 (lv5 E2) ++ zce 5 q) := fun z hz => by
   obtain ⟨z1, z2, z3⟩ := zhd hz
   show Am.look z.1 ((0, _) :: (1, _) :: (2, _) :: (3, _) :: (4, _) :: zce 5 q) = _
   rw [za3, if_neg (by omega), za3, if_neg (by omega), za3, if_neg (by omega), za3, if_neg (by omega), za3, if_neg (by omega), zhb, if_pos ⟨z1, z2⟩, z3]
  refine zsr rfl (za1 rfl ?_)
  refine zas rfl rfl (comb52 C) noC ?_ hmk0
  refine onu (zad ?_)
  refine zq (zam q 5) [(some (0, 0), [.int .i64 0]), (some (1, 0), [.nils]), (some (2, 0), [.bool false]), (some (3, 0), [.int .i64 0]), (some (4, 0), (enE E2).map (AV.int .i64))] [] (l18 f m l m i (.fn 130 [] [.vptr [css C]])) rfl .nil (.cons (by (repeat (first | rw [za0, if_neg (by omega)] | rw [za0, if_pos rfl] | rw [za3, if_neg (by omega)] | rw [za3, if_pos rfl])); try rfl) (.keep rfl) (.cons (by (repeat (first | rw [za0, if_neg (by omega)] | rw [za0, if_pos rfl] | rw [za3, if_neg (by omega)] | rw [za3, if_pos rfl])); try rfl) (.keep rfl) (.cons (by (repeat (first | rw [za0, if_neg (by omega)] | rw [za0, if_pos rfl] | rw [za3, if_neg (by omega)] | rw [za3, if_pos rfl])); try rfl) (.keep rfl) (.cons (by (repeat (first | rw [za0, if_neg (by omega)] | rw [za0, if_pos rfl] | rw [za3, if_neg (by omega)] | rw [za3, if_pos rfl])); try rfl) (.keep rfl) (.cons (by (repeat (first | rw [za0, if_neg (by omega)] | rw [za0, if_pos rfl] | rw [za3, if_neg (by omega)] | rw [za3, if_pos rfl])); try rfl) (.keep (zaj _)) .nil))))) (.cons rfl (.same rfl) (.cons rfl (.same rfl) (.cons rfl (.same rfl) (.cons rfl (.mptr rfl) (.cons rfl (.mptr rfl) (.cons rfl (.mptr rfl) (.cons rfl (.mptr rfl) (.cons rfl (.ms rfl) (.cons rfl (.same rfl) (.cons rfl (.same rfl) (.cons rfl (.same rfl) (.cons rfl (.same rfl) .nil)))))))))))) ?_
  show Zm _ _ _ _ _ (st _ _ _ (q + 5) 1 (ze5 5 q)) _ _
  refine zi1 (.inl rfl) rfl fun hA hB => (range80 (local18 (D := q + 5) (by omega) (enE E2) (l18 f m l m i (.fn 130 [] [.vptr [css C]]))) (fun s p H hp h => yield18 (D := q + 5) (by omega) hsl hg m l i (.fn 130 [] [.vptr [css C]]) (enE E2) hA hB s p H hp h) C (by omega) (fun c hc => ⟨(hCn c hc).1, by have := (hCn c hc).2; omega⟩) ⟨_, _, _⟩ () ?_ (zkv _ _ hrow)).mono fun v H2 hF => ?_
  ·refine ⟨y0c _, ?_, ?_, ?_, ?_, ?_, ?_, ?_⟩
   ·exact zav
   ·exact (zb1 (y0n _)).trans zav
   ·show Am.look 0 ((q + 5 + 1, _) :: (q + 5, _) :: (0, _) :: _) = _
    exact (by (repeat (first | rw [za3, if_pos rfl] | rw [za3, if_neg (by omega)])); try rfl)
   ·show Am.look 1 ((q + 5 + 1, _) :: (q + 5, _) :: (0, _) :: (1, _) :: _) = _
    exact (by (repeat (first | rw [za3, if_pos rfl] | rw [za3, if_neg (by omega)])); try rfl)
   ·show Am.look 2 ((q + 5 + 1, _) :: (q + 5, _) :: (0, _) :: (1, _) :: (2, _) :: _) = _
    exact (by (repeat (first | rw [za3, if_pos rfl] | rw [za3, if_neg (by omega)])); try rfl)
   ·show Am.look 3 ((q + 5 + 1, _) :: (q + 5, _) :: (0, _) :: (1, _) :: (2, _) :: (3, _) :: _) = _
    exact (by (repeat (first | rw [za3, if_pos rfl] | rw [za3, if_neg (by omega)])); try rfl)
   ·show Am.look 4 ((q + 5 + 1, _) :: (q + 5, _) :: (0, _) :: (1, _) :: (2, _) :: (3, _) :: (4, _) :: _) = _
    exact (by (repeat (first | rw [za3, if_pos rfl] | rw [za3, if_neg (by omega)])); try rfl)
  obtain ⟨hK, hF⟩ := hF
  rw [zmt] at hF
  have hold : ∀ z ∈ ze5 5 q, Am.look z.1 H2.heap = some (z.2, .deferred) := fun z hz => by
   obtain ⟨z1, z2, z3⟩ := zhd hz
   refine (hK.look z.1 (fun h => by rcases h with h | h | h <;> omega) (by show z.1 < q + 5 + 2; omega)).trans ?_
   show Am.look z.1 ((q + 5 + 1, _) :: (q + 5, _) :: (0, _) :: (1, _) :: (2, _) :: (3, _) :: (4, _) :: zce 5 q) = _
   rw [za3, if_neg (by omega), za3, if_neg (by omega), za3, if_neg (by omega), za3, if_neg (by omega), za3, if_neg (by omega), za3, if_neg (by omega), za3, if_neg (by omega), zhb, if_pos ⟨z1, z2⟩, z3]
  have hmk : Am.look (q + 5) H2.heap = some (1, .deferred) → zdf ((q + 5, 1) :: ze5 5 q) (zbo (q + 5 + 1) H2.heap) := fun h1 z hz => by
   rcases y0l.1 hz with rfl | hz
   ·rw [za4, if_neg (by omega)]; exact h1
   ·have := zhd hz
    rw [za4, if_neg (by omega)]; exact hold z hz
  cases hb : badP f (ze2 C) with
  | none =>
   rw [hb] at hF hall
   obtain ⟨nx, h4, h3, r0, r1, r2, r3, he⟩ := hF
   refine ⟨_, _, .normal, _, _, _, _, _, _, h4, by simp, rfl, hmk h3, ?_⟩
   refine zb9 (zb9 (za8 ?_))
   refine zq (q := q + 1) (by rw [y0m, zam]) [(some (0, 0), [.int .i64 0]), (some (1, 0), [.nils]), (some (2, 0), [.bool false]), (some (3, 0), [.int .i64 0]), (some (4, 0), (enE E2).map (AV.int .i64))] [] [(2, .vptr [.vs (cXs f)]), (3, .vptr [.int .i64 (m : Nat), .vs (cPs l)]), (4, .mptr 0 0 0), (5, .mptr 1 0 0), (6, .mptr 2 0 0), (7, .mptr 3 0 0), (10, .ms 4 0 1 0 m (some m)), (38, .vs (cPs l)), (39, .int .i64 (cPs l).length), (40, .int .i64 (i : Nat))] rfl .nil (.cons (by (repeat (first | rw [za0, if_pos rfl] | rw [za0, if_neg (by omega)] | rw [za4, if_neg (by omega)])); all_goals (first | rfl | assumption)) (.keep rfl) (.cons (by (repeat (first | rw [za0, if_pos rfl] | rw [za0, if_neg (by omega)] | rw [za4, if_neg (by omega)])); all_goals (first | rfl | assumption)) (.keep rfl) (.cons (by (repeat (first | rw [za0, if_pos rfl] | rw [za0, if_neg (by omega)] | rw [za4, if_neg (by omega)])); all_goals (first | rfl | assumption)) (.keep rfl) (.cons (by (repeat (first | rw [za0, if_pos rfl] | rw [za0, if_neg (by omega)] | rw [za4, if_neg (by omega)])); all_goals (first | rfl | assumption)) (.keep rfl) (.cons (by (repeat (first | rw [za0, if_pos rfl] | rw [za0, if_neg (by omega)] | rw [za4, if_neg (by omega)])); all_goals (first | rfl | assumption)) (.keep (zaj _)) .nil))))) (.cons rfl (.same rfl) (.cons rfl (.same rfl) (.cons rfl (.mptr rfl) (.cons rfl (.mptr rfl) (.cons rfl (.mptr rfl) (.cons rfl (.mptr rfl) (.cons rfl (.ms rfl) (.cons rfl (.same rfl) (.cons rfl (.same rfl) (.cons rfl (.same rfl) .nil)))))))))) ?_
   refine za5 rfl (zb3 (op := .add) rfl rfl rfl (za1 rfl (zai ?_)))
   rw [zar i (by omega)]
   exact zat (show l.length - (i + 1) < l.length - i by omega) (zaq (.cons rfl (.cons rfl (.cons rfl (.cons rfl (.cons rfl (.cons rfl (.cons rfl (.cons rfl (.cons rfl (.cons rfl .nil))))))))))) ⟨i + 1, q + 1, rfl, hlt, hall.trans (by rw [hE2]), by rw [hE2]; rfl⟩
  | some p =>
   rw [hb] at hF hall
   obtain ⟨nx, ⟨tm, h4⟩, h3, r0, r1, r2, r3⟩ := hF
   refine ⟨_, _, .ret, _, _, _, _, _, _, h4, by simp, rfl, hmk h3, ?_⟩
   refine zaa (zaa (za2 ?_))
   refine zaw ?_
   refine ret _ i p _ _ _ _ hall rfl rfl rfl rfl (by omega) (fun z hz => ?_) (by (repeat (first | rw [za0, if_pos rfl] | rw [za0, if_neg (by omega)] | rw [za4, if_neg (by omega)])); all_goals (first | rfl | assumption)) (by (repeat (first | rw [za0, if_pos rfl] | rw [za0, if_neg (by omega)] | rw [za4, if_neg (by omega)])); all_goals (first | rfl | assumption)) (by (repeat (first | rw [za0, if_pos rfl] | rw [za0, if_neg (by omega)] | rw [za4, if_neg (by omega)])); all_goals (first | rfl | assumption)) (by (repeat (first | rw [za0, if_pos rfl] | rw [za0, if_neg (by omega)] | rw [za4, if_neg (by omega)])); all_goals (first | rfl | assumption))
   rcases y0l.1 hz with rfl | hz
   ·show 5 ≤ q + 5; omega
   ·exact (zhd hz).1
 ·have hi2 : i = l.length := by
   have := of_decide_eq_false h3
   rw [hcl] at this
   omega
  subst hi2
  rw [y0p, dgS] at hall
  refine onu (za7 (zb5 rfl (zbi (zan ?_))))
  refine zc9 ?_
  exact fin _ _ _ _ _ hall rfl rfl rfl rfl (by omega) (fun z hz => (zhd hz).1) rfl rfl rfl rfl
set_option maxHeartbeats 4000000 in
theorem zts (f : List Ex) (hsl : ∀ y ∈ f, Slim y) (n : Int) (l : List Sp) (hl : l.length ≤ 1000000) (hn : zq4 n l = 0 → n ≤ 4) : PF Try.prog 18 [.agg [.vs (cXs f)], .agg (cQ n l)] (dgV f n l) := by
 have hcl : (cPs l).length = l.length := zct l
 have p1 := seq72 n l hl
 rw [chk_eq] at p1
 have p1 : PF Try.prog 72 [.agg [.int .i64 n, .vs (cPs l)]] (.int .i64 (zq4 n l)) := p1
 have p2 := zk8 f hsl n
 refine zax env0_ok fn18 [(0, .agg [.vs (cXs f)]), (1, .agg [.int .i64 n, .vs (cPs l)])] (by show 2 ≤ 97; decide) rfl fun w0 N0 => ?_
 unfold ic18 dgV
 repeat (first | refine za7 ?_ | refine za5 rfl ?_ | refine zai ?_ | refine za8 ?_ | refine zal rfl rfl rfl rfl ?_ | refine zay ?_ | refine zbq rfl rfl ?_)
 refine zas rfl rfl p1 noC ?_
 refine za1 rfl (onr rfl (za1 rfl ?_))
 refine zao rfl rfl rfl (fun h => ?_) fun h => ?_
 ·have h : zq4 n l ≠ 0 := bne_iff_ne.1 h
  rw [show dgT f n l = (0, [], false) from if_neg h, show dgC f n l = zq4 n l from if_neg h]
  repeat (first | refine za7 ?_ | refine za5 rfl ?_ | refine zai ?_ | refine za8 ?_ | refine zb2 rfl ?_ | refine zaf ?_ | refine za2 ?_ | refine za1 rfl ?_ | refine zah rfl rfl rfl rfl rfl rfl rfl ?_)
  exact zae ⟨.inr rfl, _, rfl, rfl⟩
 have h : zq4 n l = 0 := by simpa using h
 refine onu (zb5 rfl (zab (za8 (za7 (zsr rfl (zal rfl rfl rfl rfl (za9 rfl (za6 rfl rfl ?_))))))))
 refine zas rfl rfl p2 noC ?_
 refine za1 rfl (onr rfl (za1 rfl ?_))
 have hC : dgC f n l = zc0 f n := if_pos h
 rw [hC]
 refine zao rfl rfl rfl (fun h2 => ?_) fun h2 => ?_
 ·have h2 : zc0 f n ≠ 0 := bne_iff_ne.1 h2
  rw [show dgT f n l = (0, [], false) from (if_pos h).trans (if_neg h2)]
  repeat (first | refine za7 ?_ | refine za5 rfl ?_ | refine zai ?_ | refine za8 ?_ | refine zb2 rfl ?_ | refine zaf ?_ | refine za2 ?_ | refine za1 rfl ?_ | refine zah rfl rfl rfl rfl rfl rfl rfl ?_)
  exact zae ⟨.inr rfl, _, rfl, rfl⟩
 have h2 : zc0 f n = 0 := by simpa using h2
 rw [show dgT f n l = dgS f 0 (List.replicate n.toNat false) l from (if_pos h).trans (if_pos h2), h2]
 have hn := hn h
 obtain ⟨m, rfl, ok⟩ := chk_ok h
 have m1 := ok.n1
 have m4 : m ≤ 4 := by omega
 rw [y0y]
 clear hC h p1 p2
 refine onu (zb5 rfl (zab (za8 (zsr rfl ?_))))
 refine zvy [[.int .i64 0]] rfl rfl rfl rfl ?_
 refine za9 rfl (za6 rfl rfl ?_)
 refine o_own rfl rfl (rep0 m1 m4) (zle _) ?_
 refine za1 rfl (onu (za7 (zsr rfl (za9 rfl (za6 rfl rfl (zbb rfl rfl (za1 rfl (onu (zad ?_)))))))))
 refine zbj (J18s f m l) l.length (zbd [(some (2, 2), [.int .i64 0]), (some (3, 3), [.nils]), (some (4, 4), [.bool false]), (some (5, 5), [.int .i64 0]), (some (6, 6), (enE (List.replicate m false)).map (AV.int .i64))] [(0, 0, [.vs (cXs f)]), (1, 1, [.int .i64 (m : Nat), .vs (cPs l)])] rfl rfl rfl (.cons rfl rfl (.cons rfl rfl .nil)) (.cons rfl (.keep rfl) (.cons rfl (.keep rfl) (.cons rfl (.keep rfl) (.cons rfl (.keep rfl) (.cons (by rw [zye]; rfl) (.keep (zaj _)) .nil))))) (l' := [(2, .vptr [.vs (cXs f)]), (3, .vptr [.int .i64 (m : Nat), .vs (cPs l)]), (4, .mptr 0 0 0), (5, .mptr 1 0 0), (6, .mptr 2 0 0), (7, .mptr 3 0 0), (10, .ms 4 0 1 0 m (some m)), (38, .vs (cPs l)), (39, .int .i64 (cPs l).length), (40, .int .i64 ((0 : Nat) : Int))]) (.cons rfl (.fptr rfl rfl) (.cons rfl (.fptr rfl rfl) (.cons rfl (.mptr rfl) (.cons rfl (.mptr rfl) (.cons rfl (.mptr rfl) (.cons rfl (.mptr rfl) (.cons rfl (.ms rfl) (.cons rfl (.same rfl) (.cons rfl (.same rfl) (.cons rfl (.same rfl) .nil))))))))))) ⟨0, 0, rfl, y0q _, rfl, rfl⟩ fun mm S hJ => round18 hsl h2 m4 ok mm S hJ ?_ ?_
 ·intro l' hp nx ck mk hd g4 g5 g6 g7 hnx hmk r0 r1 r2 r3
  rw [hd]
  refine zbh (za8 (zsr rfl ?_))
  refine zah (sp := 0) g4 rfl rfl rfl r0 rfl rfl ?_
  refine zah (sp := 0) g5 rfl rfl rfl (by (repeat (first | rw [za0, if_pos rfl] | rw [za0, if_neg (by omega)] | rw [za4, if_neg (by omega)])); all_goals (first | rfl | assumption)) rfl rfl ?_
  refine zah (sp := 0) g6 rfl rfl rfl (by (repeat (first | rw [za0, if_pos rfl] | rw [za0, if_neg (by omega)] | rw [za4, if_neg (by omega)])); all_goals (first | rfl | assumption)) rfl rfl ?_
  refine zah (sp := 0) g7 rfl rfl rfl (by (repeat (first | rw [za0, if_pos rfl] | rw [za0, if_neg (by omega)] | rw [za4, if_neg (by omega)])); all_goals (first | rfl | assumption)) rfl rfl ?_
  refine onu (zaf ?_)
  have hlv : ∀ k < 5, Am.look k (zho mk (zb0 3 (0, .cells [.int .i64 0]) (zb0 2 (0, .cells [.bool false]) (zb0 1 (0, .cells [.nils]) (zb0 0 (0, .cells [.int .i64 0]) hp))))) = Am.look k (zb0 3 (0, .cells [.int .i64 0]) (zb0 2 (0, .cells [.bool false]) (zb0 1 (0, .cells [.nils]) (zb0 0 (0, .cells [.int .i64 0]) hp)))) := fun k hk => zg6 _ _ _ fun z hz e => by have := hmk z hz; omega
  refine zae ⟨.inr rfl, _, znd ((zd8 4).trans g4) (zc8 (sp := 0) (cs := [.int .i64 0]) ((hlv 0 (by decide)).trans ?_) (show 0 < nx by omega)) ((zd8 5).trans g5) (zc8 (sp := 0) (cs := [.nils]) ((hlv 1 (by decide)).trans ?_) (show 1 < nx by omega)) ((zd8 6).trans g6) (zc8 (sp := 0) (cs := [.bool false]) ((hlv 2 (by decide)).trans ?_) (show 2 < nx by omega)) ((zd8 7).trans g7) (zc8 (sp := 0) (cs := [.int .i64 0]) ((hlv 3 (by decide)).trans ?_) (show 3 < nx by omega)), rfl⟩
  all_goals exact (by (repeat (first | rw [za0, if_pos rfl] | rw [za0, if_neg (by omega)] | rw [za4, if_neg (by omega)])); all_goals (first | rfl | assumption))
 ·intro l' i p hp nx ck mk hd g4 g5 g6 g7 hnx hmk r0 r1 r2 r3
  rw [hd]
  refine zaa (za2 ?_)
  have hlv : ∀ k < 5, Am.look k (zho mk (hp)) = Am.look k (hp) := fun k hk => zg6 _ _ _ fun z hz e => by have := hmk z hz; omega
  refine zae ⟨.inr rfl, _, znd ((zd8 4).trans g4) (zc8 (sp := 0) (cs := [.int .i64 (i : Nat)]) ((hlv 0 (by decide)).trans ?_) (show 0 < nx by omega)) ((zd8 5).trans g5) (zc8 (sp := 0) (cs := [vsI p]) ((hlv 1 (by decide)).trans ?_) (show 1 < nx by omega)) ((zd8 6).trans g6) (zc8 (sp := 0) (cs := [.bool true]) ((hlv 2 (by decide)).trans ?_) (show 2 < nx by omega)) ((zd8 7).trans g7) (zc8 (sp := 0) (cs := [.int .i64 0]) ((hlv 3 (by decide)).trans ?_) (show 3 < nx by omega)), rfl⟩
  ·exact r0
  ·exact r1
  ·exact r2
  ·exact r3
end
theorem zo5 : ∀ {cs : List (List Int)} {q : List Int}, q.length = cs.length → (∀ i, i < cs.length → q.getD i 0 ∈ cs.getD i []) → q ∈ ze2 cs
 | [], q, h, _ => by
  have : q = [] := y1h.1 h
  rw [this, ze2]
  exact y0i.2 rfl
 | c :: cs, [], h, _ => by simp at h
 | c :: cs, x :: q, h, hm => by
  rw [ze2, List.mem_flatMap]
  exact ⟨x, hm 0 (Nat.zero_lt_succ _), y0o.2 ⟨q, zo5 (by simpa using h) fun i hi => hm (i + 1) (by rw [y0m]; omega), rfl⟩⟩
theorem znj {E F : List Bool} {l : List Sk} {n i : Nat} (h : i < n) : (zf5 E F l n).getD i [] = zpj E F l i := by
 rw [y08, y06 (by rw [zf0]; exact h), y1c, zra]
theorem zh6 (b : Bool) : zgq b = 0 ∨ zgq b = 2 := by cases b <;> simp [zgq]
theorem enE_len (E : List Bool) : (enE E).length = E.length := y07 ..
theorem zs1 {E : List Bool} {i : Nat} (h : i < E.length) : (enE E).getD i 0 = zgq (E.getD i false) := by
 unfold enE
 rw [y08, y0h, y06 h, y08, y06 h]
 rfl
theorem zyf {n : Int} {E : List Bool} {p : Sp} (h : StpOk n E p) (hE : (E.length : Int) = n) : enE E ∈ ze2 (zf5 E (aft E p.l) p.l E.length) := by
 have h0 : ∀ s ∈ p.l, 0 ≤ s.a := fun s hs => (h.acts hE s hs).1
 refine zo5 (by rw [enE_len, zf0]) fun i hi => ?_
 rw [zf0] at hi
 rw [znj hi, zs1 hi]
 unfold zpj
 rcases zj6 (i := i) h0 h.su with ⟨e, e2⟩ | ⟨e, e2⟩ | e
 ·rw [if_pos e, e2]; simp [zgq]
 ·rw [if_neg (by omega), if_pos e, e2]; simp [zgq]
 ·rw [if_neg (by omega), if_neg (by omega), zfo p.l E h0 e, Bool.and_self]; simp
theorem zr6 {f : List Ex} {n : Nat} {l : List Sp} (ok : SeqOk n l) (hs : (dgS f 0 (List.replicate n false) l).2.2 = false) {k : Nat} (hk : k ≤ l.length) : (zh2 f (enE (zgi (List.replicate n false) (l.take k)))).isEmpty = true := by
 have key : ∀ i (h : i < l.length), (zh2 f (enE (zgi (List.replicate n false) (l.take i)))).isEmpty = true := fun i h => by
  have hl := SeqOk.behLen (n := n) (l := l) i
  have := zyf (ok.step h) (by rw [hl])
  rw [hl] at this
  refine zo8 l 0 (List.replicate n false) hs i h _ ?_
  rw [y0s]
  exact this
 by_cases h : k < l.length
 ·exact key k h
 ·have hk : k = l.length := by omega
  have hl0 := ok.l0
  subst hk
  rw [y1k, ok.last]
  have := key 0 (by omega)
  exact this
def allE : List (List Bool) := [
 [false],
 [true],
 [false, false],
 [false, true],
 [true, false],
 [true, true],
 [false, false, false],
 [false, false, true],
 [false, true, false],
 [false, true, true],
 [true, false, false],
 [true, false, true],
 [true, true, false],
 [true, true, true],
 [false, false, false, false],
 [false, false, false, true],
 [false, false, true, false],
 [false, false, true, true],
 [false, true, false, false],
 [false, true, false, true],
 [false, true, true, false],
 [false, true, true, true],
 [true, false, false, false],
 [true, false, false, true],
 [true, false, true, false],
 [true, false, true, true],
 [true, true, false, false],
 [true, true, false, true],
 [true, true, true, false],
 [true, true, true, true]]
def zcy : List Bool → Nat
 | [] => 0
 | b :: e => (if b then 1 else 0) + 2 * zcy e
def zdn (e : List Bool) : List Int := e.map fun b => if b then 2 else 0
theorem zdt : ∀ e : List Bool, 1 ≤ e.length → e.length ≤ 4 → e ∈ allE
 | [], h, _ => by simp at h
 | [a], _, _ => by cases a <;> decide
 | [a, b], _, _ => by cases a <;> cases b <;> decide
 | [a, b, c], _, _ => by cases a <;> cases b <;> cases c <;> decide
 | [a, b, c, d], _, _ => by cases a <;> cases b <;> cases c <;> cases d <;> decide
 | _ :: _ :: _ :: _ :: _ :: e, _, h => by simp only [y0m] at h; omega
def rows55 : List (List AV × AV) := [
 ([.int .i64 1, .int .i64 0], .vs [[.bool false]]),
 ([.int .i64 1, .int .i64 1], .vs [[.bool true]]),
 ([.int .i64 2, .int .i64 0], .vs [[.bool false], [.bool false]]),
 ([.int .i64 2, .int .i64 2], .vs [[.bool false], [.bool true]]),
 ([.int .i64 2, .int .i64 1], .vs [[.bool true], [.bool false]]),
 ([.int .i64 2, .int .i64 3], .vs [[.bool true], [.bool true]]),
 ([.int .i64 3, .int .i64 0], .vs [[.bool false], [.bool false], [.bool false]]),
 ([.int .i64 3, .int .i64 4], .vs [[.bool false], [.bool false], [.bool true]]),
 ([.int .i64 3, .int .i64 2], .vs [[.bool false], [.bool true], [.bool false]]),
 ([.int .i64 3, .int .i64 6], .vs [[.bool false], [.bool true], [.bool true]]),
 ([.int .i64 3, .int .i64 1], .vs [[.bool true], [.bool false], [.bool false]]),
 ([.int .i64 3, .int .i64 5], .vs [[.bool true], [.bool false], [.bool true]]),
 ([.int .i64 3, .int .i64 3], .vs [[.bool true], [.bool true], [.bool false]]),
 ([.int .i64 3, .int .i64 7], .vs [[.bool true], [.bool true], [.bool true]]),
 ([.int .i64 4, .int .i64 0], .vs [[.bool false], [.bool false], [.bool false], [.bool false]]),
 ([.int .i64 4, .int .i64 8], .vs [[.bool false], [.bool false], [.bool false], [.bool true]]),
 ([.int .i64 4, .int .i64 4], .vs [[.bool false], [.bool false], [.bool true], [.bool false]]),
 ([.int .i64 4, .int .i64 12], .vs [[.bool false], [.bool false], [.bool true], [.bool true]]),
 ([.int .i64 4, .int .i64 2], .vs [[.bool false], [.bool true], [.bool false], [.bool false]]),
 ([.int .i64 4, .int .i64 10], .vs [[.bool false], [.bool true], [.bool false], [.bool true]]),
 ([.int .i64 4, .int .i64 6], .vs [[.bool false], [.bool true], [.bool true], [.bool false]]),
 ([.int .i64 4, .int .i64 14], .vs [[.bool false], [.bool true], [.bool true], [.bool true]]),
 ([.int .i64 4, .int .i64 1], .vs [[.bool true], [.bool false], [.bool false], [.bool false]]),
 ([.int .i64 4, .int .i64 9], .vs [[.bool true], [.bool false], [.bool false], [.bool true]]),
 ([.int .i64 4, .int .i64 5], .vs [[.bool true], [.bool false], [.bool true], [.bool false]]),
 ([.int .i64 4, .int .i64 13], .vs [[.bool true], [.bool false], [.bool true], [.bool true]]),
 ([.int .i64 4, .int .i64 3], .vs [[.bool true], [.bool true], [.bool false], [.bool false]]),
 ([.int .i64 4, .int .i64 11], .vs [[.bool true], [.bool true], [.bool false], [.bool true]]),
 ([.int .i64 4, .int .i64 7], .vs [[.bool true], [.bool true], [.bool true], [.bool false]]),
 ([.int .i64 4, .int .i64 15], .vs [[.bool true], [.bool true], [.bool true], [.bool true]])]
def rows56 : List (List AV × AV) := [
 ([.vs [[.bool false]]], .vs [[.int .i64 0]]),
 ([.vs [[.bool true]]], .vs [[.int .i64 2]]),
 ([.vs [[.bool false], [.bool false]]], .vs [[.int .i64 0], [.int .i64 0]]),
 ([.vs [[.bool false], [.bool true]]], .vs [[.int .i64 0], [.int .i64 2]]),
 ([.vs [[.bool true], [.bool false]]], .vs [[.int .i64 2], [.int .i64 0]]),
 ([.vs [[.bool true], [.bool true]]], .vs [[.int .i64 2], [.int .i64 2]]),
 ([.vs [[.bool false], [.bool false], [.bool false]]], .vs [[.int .i64 0], [.int .i64 0], [.int .i64 0]]),
 ([.vs [[.bool false], [.bool false], [.bool true]]], .vs [[.int .i64 0], [.int .i64 0], [.int .i64 2]]),
 ([.vs [[.bool false], [.bool true], [.bool false]]], .vs [[.int .i64 0], [.int .i64 2], [.int .i64 0]]),
 ([.vs [[.bool false], [.bool true], [.bool true]]], .vs [[.int .i64 0], [.int .i64 2], [.int .i64 2]]),
 ([.vs [[.bool true], [.bool false], [.bool false]]], .vs [[.int .i64 2], [.int .i64 0], [.int .i64 0]]),
 ([.vs [[.bool true], [.bool false], [.bool true]]], .vs [[.int .i64 2], [.int .i64 0], [.int .i64 2]]),
 ([.vs [[.bool true], [.bool true], [.bool false]]], .vs [[.int .i64 2], [.int .i64 2], [.int .i64 0]]),
 ([.vs [[.bool true], [.bool true], [.bool true]]], .vs [[.int .i64 2], [.int .i64 2], [.int .i64 2]]),
 ([.vs [[.bool false], [.bool false], [.bool false], [.bool false]]], .vs [[.int .i64 0], [.int .i64 0], [.int .i64 0], [.int .i64 0]]),
 ([.vs [[.bool false], [.bool false], [.bool false], [.bool true]]], .vs [[.int .i64 0], [.int .i64 0], [.int .i64 0], [.int .i64 2]]),
 ([.vs [[.bool false], [.bool false], [.bool true], [.bool false]]], .vs [[.int .i64 0], [.int .i64 0], [.int .i64 2], [.int .i64 0]]),
 ([.vs [[.bool false], [.bool false], [.bool true], [.bool true]]], .vs [[.int .i64 0], [.int .i64 0], [.int .i64 2], [.int .i64 2]]),
 ([.vs [[.bool false], [.bool true], [.bool false], [.bool false]]], .vs [[.int .i64 0], [.int .i64 2], [.int .i64 0], [.int .i64 0]]),
 ([.vs [[.bool false], [.bool true], [.bool false], [.bool true]]], .vs [[.int .i64 0], [.int .i64 2], [.int .i64 0], [.int .i64 2]]),
 ([.vs [[.bool false], [.bool true], [.bool true], [.bool false]]], .vs [[.int .i64 0], [.int .i64 2], [.int .i64 2], [.int .i64 0]]),
 ([.vs [[.bool false], [.bool true], [.bool true], [.bool true]]], .vs [[.int .i64 0], [.int .i64 2], [.int .i64 2], [.int .i64 2]]),
 ([.vs [[.bool true], [.bool false], [.bool false], [.bool false]]], .vs [[.int .i64 2], [.int .i64 0], [.int .i64 0], [.int .i64 0]]),
 ([.vs [[.bool true], [.bool false], [.bool false], [.bool true]]], .vs [[.int .i64 2], [.int .i64 0], [.int .i64 0], [.int .i64 2]]),
 ([.vs [[.bool true], [.bool false], [.bool true], [.bool false]]], .vs [[.int .i64 2], [.int .i64 0], [.int .i64 2], [.int .i64 0]]),
 ([.vs [[.bool true], [.bool false], [.bool true], [.bool true]]], .vs [[.int .i64 2], [.int .i64 0], [.int .i64 2], [.int .i64 2]]),
 ([.vs [[.bool true], [.bool true], [.bool false], [.bool false]]], .vs [[.int .i64 2], [.int .i64 2], [.int .i64 0], [.int .i64 0]]),
 ([.vs [[.bool true], [.bool true], [.bool false], [.bool true]]], .vs [[.int .i64 2], [.int .i64 2], [.int .i64 0], [.int .i64 2]]),
 ([.vs [[.bool true], [.bool true], [.bool true], [.bool false]]], .vs [[.int .i64 2], [.int .i64 2], [.int .i64 2], [.int .i64 0]]),
 ([.vs [[.bool true], [.bool true], [.bool true], [.bool true]]], .vs [[.int .i64 2], [.int .i64 2], [.int .i64 2], [.int .i64 2]])]
def zuv : List (List AV × AV) := [
 ([.vs [[.bool false]]], .int .i64 0),
 ([.vs [[.bool true]]], .int .i64 1),
 ([.vs [[.bool false], [.bool false]]], .int .i64 0),
 ([.vs [[.bool false], [.bool true]]], .int .i64 2),
 ([.vs [[.bool true], [.bool false]]], .int .i64 1),
 ([.vs [[.bool true], [.bool true]]], .int .i64 3),
 ([.vs [[.bool false], [.bool false], [.bool false]]], .int .i64 0),
 ([.vs [[.bool false], [.bool false], [.bool true]]], .int .i64 4),
 ([.vs [[.bool false], [.bool true], [.bool false]]], .int .i64 2),
 ([.vs [[.bool false], [.bool true], [.bool true]]], .int .i64 6),
 ([.vs [[.bool true], [.bool false], [.bool false]]], .int .i64 1),
 ([.vs [[.bool true], [.bool false], [.bool true]]], .int .i64 5),
 ([.vs [[.bool true], [.bool true], [.bool false]]], .int .i64 3),
 ([.vs [[.bool true], [.bool true], [.bool true]]], .int .i64 7),
 ([.vs [[.bool false], [.bool false], [.bool false], [.bool false]]], .int .i64 0),
 ([.vs [[.bool false], [.bool false], [.bool false], [.bool true]]], .int .i64 8),
 ([.vs [[.bool false], [.bool false], [.bool true], [.bool false]]], .int .i64 4),
 ([.vs [[.bool false], [.bool false], [.bool true], [.bool true]]], .int .i64 12),
 ([.vs [[.bool false], [.bool true], [.bool false], [.bool false]]], .int .i64 2),
 ([.vs [[.bool false], [.bool true], [.bool false], [.bool true]]], .int .i64 10),
 ([.vs [[.bool false], [.bool true], [.bool true], [.bool false]]], .int .i64 6),
 ([.vs [[.bool false], [.bool true], [.bool true], [.bool true]]], .int .i64 14),
 ([.vs [[.bool true], [.bool false], [.bool false], [.bool false]]], .int .i64 1),
 ([.vs [[.bool true], [.bool false], [.bool false], [.bool true]]], .int .i64 9),
 ([.vs [[.bool true], [.bool false], [.bool true], [.bool false]]], .int .i64 5),
 ([.vs [[.bool true], [.bool false], [.bool true], [.bool true]]], .int .i64 13),
 ([.vs [[.bool true], [.bool true], [.bool false], [.bool false]]], .int .i64 3),
 ([.vs [[.bool true], [.bool true], [.bool false], [.bool true]]], .int .i64 11),
 ([.vs [[.bool true], [.bool true], [.bool true], [.bool false]]], .int .i64 7),
 ([.vs [[.bool true], [.bool true], [.bool true], [.bool true]]], .int .i64 15)]
def yad : List (List AV × AV) := [
 ([.int .i64 1, .int .i64 0], .vs [[.int .i64 0]]),
 ([.int .i64 1, .int .i64 1], .vs [[.int .i64 2]]),
 ([.int .i64 2, .int .i64 0], .vs [[.int .i64 0], [.int .i64 0]]),
 ([.int .i64 2, .int .i64 2], .vs [[.int .i64 0], [.int .i64 2]]),
 ([.int .i64 2, .int .i64 1], .vs [[.int .i64 2], [.int .i64 0]]),
 ([.int .i64 2, .int .i64 3], .vs [[.int .i64 2], [.int .i64 2]]),
 ([.int .i64 3, .int .i64 0], .vs [[.int .i64 0], [.int .i64 0], [.int .i64 0]]),
 ([.int .i64 3, .int .i64 4], .vs [[.int .i64 0], [.int .i64 0], [.int .i64 2]]),
 ([.int .i64 3, .int .i64 2], .vs [[.int .i64 0], [.int .i64 2], [.int .i64 0]]),
 ([.int .i64 3, .int .i64 6], .vs [[.int .i64 0], [.int .i64 2], [.int .i64 2]]),
 ([.int .i64 3, .int .i64 1], .vs [[.int .i64 2], [.int .i64 0], [.int .i64 0]]),
 ([.int .i64 3, .int .i64 5], .vs [[.int .i64 2], [.int .i64 0], [.int .i64 2]]),
 ([.int .i64 3, .int .i64 3], .vs [[.int .i64 2], [.int .i64 2], [.int .i64 0]]),
 ([.int .i64 3, .int .i64 7], .vs [[.int .i64 2], [.int .i64 2], [.int .i64 2]]),
 ([.int .i64 4, .int .i64 0], .vs [[.int .i64 0], [.int .i64 0], [.int .i64 0], [.int .i64 0]]),
 ([.int .i64 4, .int .i64 8], .vs [[.int .i64 0], [.int .i64 0], [.int .i64 0], [.int .i64 2]]),
 ([.int .i64 4, .int .i64 4], .vs [[.int .i64 0], [.int .i64 0], [.int .i64 2], [.int .i64 0]]),
 ([.int .i64 4, .int .i64 12], .vs [[.int .i64 0], [.int .i64 0], [.int .i64 2], [.int .i64 2]]),
 ([.int .i64 4, .int .i64 2], .vs [[.int .i64 0], [.int .i64 2], [.int .i64 0], [.int .i64 0]]),
 ([.int .i64 4, .int .i64 10], .vs [[.int .i64 0], [.int .i64 2], [.int .i64 0], [.int .i64 2]]),
 ([.int .i64 4, .int .i64 6], .vs [[.int .i64 0], [.int .i64 2], [.int .i64 2], [.int .i64 0]]),
 ([.int .i64 4, .int .i64 14], .vs [[.int .i64 0], [.int .i64 2], [.int .i64 2], [.int .i64 2]]),
 ([.int .i64 4, .int .i64 1], .vs [[.int .i64 2], [.int .i64 0], [.int .i64 0], [.int .i64 0]]),
 ([.int .i64 4, .int .i64 9], .vs [[.int .i64 2], [.int .i64 0], [.int .i64 0], [.int .i64 2]]),
 ([.int .i64 4, .int .i64 5], .vs [[.int .i64 2], [.int .i64 0], [.int .i64 2], [.int .i64 0]]),
 ([.int .i64 4, .int .i64 13], .vs [[.int .i64 2], [.int .i64 0], [.int .i64 2], [.int .i64 2]]),
 ([.int .i64 4, .int .i64 3], .vs [[.int .i64 2], [.int .i64 2], [.int .i64 0], [.int .i64 0]]),
 ([.int .i64 4, .int .i64 11], .vs [[.int .i64 2], [.int .i64 2], [.int .i64 0], [.int .i64 2]]),
 ([.int .i64 4, .int .i64 7], .vs [[.int .i64 2], [.int .i64 2], [.int .i64 2], [.int .i64 0]]),
 ([.int .i64 4, .int .i64 15], .vs [[.int .i64 2], [.int .i64 2], [.int .i64 2], [.int .i64 2]])]
def own95 : List (List AV × List AV) := [
 ([.int .i64 1, .int .i64 0], [.int .i64 0]),
 ([.int .i64 1, .int .i64 1], [.int .i64 2]),
 ([.int .i64 2, .int .i64 0], [.int .i64 0, .int .i64 0]),
 ([.int .i64 2, .int .i64 2], [.int .i64 0, .int .i64 2]),
 ([.int .i64 2, .int .i64 1], [.int .i64 2, .int .i64 0]),
 ([.int .i64 2, .int .i64 3], [.int .i64 2, .int .i64 2]),
 ([.int .i64 3, .int .i64 0], [.int .i64 0, .int .i64 0, .int .i64 0]),
 ([.int .i64 3, .int .i64 4], [.int .i64 0, .int .i64 0, .int .i64 2]),
 ([.int .i64 3, .int .i64 2], [.int .i64 0, .int .i64 2, .int .i64 0]),
 ([.int .i64 3, .int .i64 6], [.int .i64 0, .int .i64 2, .int .i64 2]),
 ([.int .i64 3, .int .i64 1], [.int .i64 2, .int .i64 0, .int .i64 0]),
 ([.int .i64 3, .int .i64 5], [.int .i64 2, .int .i64 0, .int .i64 2]),
 ([.int .i64 3, .int .i64 3], [.int .i64 2, .int .i64 2, .int .i64 0]),
 ([.int .i64 3, .int .i64 7], [.int .i64 2, .int .i64 2, .int .i64 2]),
 ([.int .i64 4, .int .i64 0], [.int .i64 0, .int .i64 0, .int .i64 0, .int .i64 0]),
 ([.int .i64 4, .int .i64 8], [.int .i64 0, .int .i64 0, .int .i64 0, .int .i64 2]),
 ([.int .i64 4, .int .i64 4], [.int .i64 0, .int .i64 0, .int .i64 2, .int .i64 0]),
 ([.int .i64 4, .int .i64 12], [.int .i64 0, .int .i64 0, .int .i64 2, .int .i64 2]),
 ([.int .i64 4, .int .i64 2], [.int .i64 0, .int .i64 2, .int .i64 0, .int .i64 0]),
 ([.int .i64 4, .int .i64 10], [.int .i64 0, .int .i64 2, .int .i64 0, .int .i64 2]),
 ([.int .i64 4, .int .i64 6], [.int .i64 0, .int .i64 2, .int .i64 2, .int .i64 0]),
 ([.int .i64 4, .int .i64 14], [.int .i64 0, .int .i64 2, .int .i64 2, .int .i64 2]),
 ([.int .i64 4, .int .i64 1], [.int .i64 2, .int .i64 0, .int .i64 0, .int .i64 0]),
 ([.int .i64 4, .int .i64 9], [.int .i64 2, .int .i64 0, .int .i64 0, .int .i64 2]),
 ([.int .i64 4, .int .i64 5], [.int .i64 2, .int .i64 0, .int .i64 2, .int .i64 0]),
 ([.int .i64 4, .int .i64 13], [.int .i64 2, .int .i64 0, .int .i64 2, .int .i64 2]),
 ([.int .i64 4, .int .i64 3], [.int .i64 2, .int .i64 2, .int .i64 0, .int .i64 0]),
 ([.int .i64 4, .int .i64 11], [.int .i64 2, .int .i64 2, .int .i64 0, .int .i64 2]),
 ([.int .i64 4, .int .i64 7], [.int .i64 2, .int .i64 2, .int .i64 2, .int .i64 0]),
 ([.int .i64 4, .int .i64 15], [.int .i64 2, .int .i64 2, .int .i64 2, .int .i64 2])]
theorem eq61 : zuv = allE.map fun e => ([vsB e], .int .i64 (zcy e : Nat)) := by kernel_rfl
theorem eq95 : yad = allE.map fun e => ([.int .i64 (e.length : Nat), .int .i64 (zcy e : Nat)], vsI (zdn e)) := by kernel_rfl
theorem eqO95 : own95 = allE.map fun e => ([.int .i64 (e.length : Nat), .int .i64 (zcy e : Nat)], (zdn e).map (AV.int .i64)) := by kernel_rfl
def tabX : Tab := [(55, rows55), (56, rows56), (61, zuv), (93, zuv), (95, yad)]
theorem yav : TabOk Try.prog tabX := TabOk.of_run (env0_ok.tab TabOk.nil (pure := [])) (n := 80) (by kernel_rfl)
theorem own95_ok : zqt Try.prog (env0.tab [] []) 80 95 some own95 = true := by kernel_rfl
def zdc (e : List Bool) (i : Nat) : List Bool := e.set i (!(e.getD i false))
theorem zdv (e : List Bool) (i : Nat) : (zdc e i).length = e.length := y1i ..
theorem shl1 {i : Nat} (h : i < 4) : Am.binOp .shl (.int .i64 1) (.int .i64 (i : Nat)) = some (.int .i64 ((2 ^ i : Nat) : Int)) := by
 rcases (show i = 0 ∨ i = 1 ∨ i = 2 ∨ i = 3 by omega) with rfl | rfl | rfl | rfl <;> rfl
theorem xorE_all : ∀ e ∈ allE, ∀ i ∈ [0, 1, 2, 3], i < e.length → IntKind.i64.wrap (BitVec.ofInt 64 (zcy e : Nat) ^^^ BitVec.ofInt 64 ((2 ^ i : Nat) : Int)).toNat = ((zcy (zdc e i) : Nat) : Int) := by decide +kernel
theorem xorE {e : List Bool} (h1 : 1 ≤ e.length) (h4 : e.length ≤ 4) {i : Nat} (hi : i < e.length) : Am.binOp .xor (.int .i64 (zcy e : Nat)) (.int .i64 ((2 ^ i : Nat) : Int)) = some (.int .i64 (zcy (zdc e i) : Nat)) := by
 have := xorE_all e (zdt e h1 h4) i (by rcases (show i = 0 ∨ i = 1 ∨ i = 2 ∨ i = 3 by omega) with rfl | rfl | rfl | rfl <;> simp) hi
 exact congrArg (fun z => some (AV.int .i64 z)) this
theorem zs3 : ∀ e ∈ allE, ∀ i ∈ [0, 1, 2, 3], i < e.length → zcy e ≠ zcy (zdc e i) := by decide +kernel
theorem flip_ne {e : List Bool} (h1 : 1 ≤ e.length) (h4 : e.length ≤ 4) {i : Nat} (hi : i < e.length) : zcy e ≠ zcy (zdc e i) :=
 zs3 e (zdt e h1 h4) i (by rcases (show i = 0 ∨ i = 1 ∨ i = 2 ∨ i = 3 by omega) with rfl | rfl | rfl | rfl <;> simp) hi
section
variable {e : List Bool} (h1 : 1 ≤ e.length) (h4 : e.length ≤ 4)
include h1 h4
theorem zzc : PF Try.prog 93 [vsB e] (.int .i64 (zcy e : Nat)) :=
 yav (93, zuv) (.tail _ (.tail _ (.tail _ (.head _)))) _ (by rw [eq61]; exact y0o.2 ⟨e, zdt e h1 h4, rfl⟩)
theorem ya1 : PF Try.prog 95 [.int .i64 (e.length : Nat), .int .i64 (zcy e : Nat)] (vsI (zdn e)) :=
 yav (95, yad) (.tail _ (.tail _ (.tail _ (.tail _ (.head _))))) _ (by rw [eq95]; exact y0o.2 ⟨e, zdt e h1 h4, rfl⟩)
theorem pos95o : PFo Try.prog 95 [.int .i64 (e.length : Nat), .int .i64 (zcy e : Nat)] 1 e.length (some e.length) ((zdn e).map (AV.int .i64)) := by
 have := ze6 (env0_ok.tab TabOk.nil) own95_ok _ (by rw [eqO95]; exact y0o.2 ⟨e, zdt e h1 h4, rfl⟩)
 simpa [zdn] using this
end
def zds (l : List Ex) (p : List Int) : Bool := (zh2 l p).isEmpty
-- pneumatic/homing.allowed
def ic94 : IC := .seq (.region [oM 2 (.box (.t 0)),
  oM 4 (.mov (.c (.bool false)))] none)
 (.seq (.region [oL 8 1 2,
  oT 9 1,
  oM 10 (.call (.c (.fn 25 [] [])) [(.t 8), (.t 9)]),
  oT 7 10,
  oM 11 (.extract (.t 7) 0),
  oM 12 (.extract (.t 7) 1),
  oT 5 11,
  oT 6 12] none)
 (.seq (.region [oT 13 6,
  oM 14 (.bin .eql (.t 13) (.c (.int .i64 0))),
  oT 15 14,
  ⟨(some 16), .mov (.t 5), some (15, true)⟩,
  oM 17 (.pick (.t 15) (.t 16) (.c (.bool false))),
  oT 4 17] none)
 (.ret)))
theorem fn94 : env0.fn 94 = some ⟨18, ic94, [.t 4]⟩ := by kernel_rfl
theorem zfp (l : List Ex) (hsl : ∀ y ∈ l, Slim y) (p : List Int) (hp : zw2 l p = 0) : PF Try.prog 94 [.agg [.vs (cXs l)], vsI p] (.bool (zds l p)) := by
 have h := zx2 l hsl p
 rw [znw, if_pos hp] at h
 unfold zds
 refine zax env0_ok fn94 [(0, .agg [.vs (cXs l)]), (1, vsI p)] (by show 2 ≤ 18; decide) rfl fun w0 N0 => ?_
 unfold ic94
 refine zsr rfl (zbq rfl rfl (za1 rfl (onr rfl (zal rfl rfl rfl rfl (za1 rfl ?_)))))
 refine zas rfl rfl h noC ?_
 repeat (first | refine za7 ?_ | refine za5 rfl ?_ | refine zai ?_ | refine za8 ?_ | refine zaf ?_ | refine zbc rfl ?_ | refine za1 rfl ?_ | refine zau rfl rfl ?_ | refine zc7 rfl rfl ?_ | refine zc6 rfl rfl rfl ?_)
 exact zae ⟨.inr rfl, _, rfl, rfl⟩
theorem ziu : ∀ e : List Bool, zwh (zdn e) = 0
 | [] => rfl
 | b :: e => by
  show (if (if b then (2 : Int) else 0) < 0 ∨ (if b then (2 : Int) else 0) ≥ 4 then (1 : Int) else zwh (zdn e)) = 0
  rw [ziu e]
  cases b <;> rfl
theorem zp9 {z : Int} (h0 : 0 ≤ z) (h4 : z < 4) : ∀ (p : List Int) (i : Nat), zwh p = 0 → zwh (p.set i z) = 0
 | [], _, h => h
 | y :: p, 0, h => by
  rw [List.set_cons_zero]
  unfold zwh at h ⊢
  rw [if_neg (by omega)]
  split at h
  ·cases h
  ·exact h
 | y :: p, i + 1, h => by
  rw [List.set_cons_succ]
  unfold zwh at h ⊢
  split at h
  ·cases h
  ·rename_i hy
   rw [if_neg hy]
   exact zp9 h0 h4 p i h
def zwj (e : List Bool) (i : Nat) : List Int := (zdn e).set i (if e.getD i false then 3 else 1)
def zrj (l : List Ex) (e : List Bool) (i : Nat) : Bool := zds l (zdn e) && zds l (zdn (zdc e i)) && zds l (zwj e i)
theorem zhe (e : List Bool) : (zdn e).length = e.length := y07 ..
section
variable {l : List Ex} {e : List Bool} (hg : zc0 l e.length = 0)
include hg
theorem zki : zw2 l (zdn e) = 0 := by
 unfold zw2
 rw [zhe, if_pos hg]
 exact ziu e
theorem ya2 (i : Nat) : zw2 l (zdn (zdc e i)) = 0 := by
 unfold zw2
 rw [zhe, zdv, if_pos hg]
 exact ziu _
theorem posC_way (i : Nat) : zw2 l (zwj e i) = 0 := by
 unfold zw2 zwj
 rw [y1i, zhe, if_pos hg]
 split
 ·exact zp9 (by decide) (by decide) _ _ (ziu e)
 ·exact zp9 (by decide) (by decide) _ _ (ziu e)
end
-- pneumatic/homing.may
def ic104 : IC := .seq (.region [oM 4 (.box (.t 0)),
  oM 8 (.mov (.c (.bool false)))] none)
 (.seq (.seq (.region [oL 10 1 4,
  oT 11 1,
  oT 12 2,
  oM 13 (.call (.c (.fn 95 [] [])) [(.t 11), (.t 12)]),
  oM 14 (.call (.c (.fn 94 [] [])) [(.t 10), (.t 13)]),
  oM 15 (.un .not (.t 14)),
  oT 16 15,
  ⟨(some 17), .load (some 1) (.t 4), some (16, false)⟩,
  ⟨(some 18), .mov (.t 1), some (16, false)⟩,
  ⟨(some 19), .mov (.t 2), some (16, false)⟩,
  ⟨(some 20), .mov (.t 3), some (16, false)⟩,
  ⟨(some 21), .bin .shl (.c (.int .i64 1)) (.t 20), some (16, false)⟩,
  ⟨(some 22), .bin .xor (.t 19) (.t 21), some (16, false)⟩,
  ⟨(some 23), .call (.c (.fn 95 [] [])) [(.t 18), (.t 22)], some (16, false)⟩,
  ⟨(some 24), .call (.c (.fn 94 [] [])) [(.t 17), (.t 23)], some (16, false)⟩,
  ⟨(some 25), .un .not (.t 24), some (16, false)⟩,
  oM 26 (.pick (.t 16) (.c (.bool true)) (.t 25))] (some [[], [], [], [1, 2], [0, 3, 3], [4], [5, 4], [6], [6], [6], [6], [10, 6], [9, 11, 6], [8, 12, 6, 6], [7, 13, 13, 6], [14, 6], [6, 15]]))
 (.cond (.t 26) (.seq (.region [oM 8 (.mov (.c (.bool false)))] none)
 (.ret))
 (.skip)))
 (.seq (.region [oT 27 1,
  oT 28 2,
  oM 29 (.call (.c (.fn 95 [] [])) [(.t 27), (.t 28)]),
  oT 9 29] none)
 (.seq (.seq (.region [oT 30 9,
  oT 31 3,
  oM 32 (.idxs 1 (.t 30) (.t 31)),
  oN 33 32,
  oM 34 (.bin .eql (.t 33) (.c (.int .i64 0)))] none)
 (.cond (.t 34) (.region [oT 35 9,
  oT 36 3,
  oM 37 (.idxs 1 (.t 35) (.t 36)),
  ⟨none, .store 1 (.t 37) (.c (.int .i64 1)), none⟩] none)
 (.region [oT 38 9,
  oT 39 3,
  oM 40 (.idxs 1 (.t 38) (.t 39)),
  ⟨none, .store 1 (.t 40) (.c (.int .i64 3)), none⟩] none)))
 (.seq (.region [oL 41 1 4,
  oT 42 9,
  oM 43 (.call (.c (.fn 94 [] [])) [(.t 41), (.t 42)]),
  oT 8 43] none)
 (.ret)))))
theorem fn104 : env0.fn 104 = some ⟨44, ic104, [.t 8]⟩ := by kernel_rfl
theorem zjf (l : List Int) : hasM.hasML (l.map (AV.int .i64)) = false := by
 induction l with
 | nil => rfl
 | cons z l ih => simp only [y1d, hasM.hasML, ih]; rfl
theorem zqa (l : List Int) : (l.map (AV.int .i64)) = (l.map fun z => ([.int .i64 z] : List AV)).flatten := by
 induction l with
 | nil => rfl
 | cons z l ih => simpa using ih
theorem vsI_inj {a b : List Int} (h : vsI a = vsI b) : a = b := by
 injection h with h
 exact (List.map_inj_right fun x y hxy => by injection hxy with hxy; injection hxy).1 h
theorem may104 (l : List Ex) (hsl : ∀ y ∈ l, Slim y) (e : List Bool) (h1 : 1 ≤ e.length) (h4 : e.length ≤ 4) (hg : zc0 l e.length = 0) (i : Nat) (hi : i < e.length) :
  PF Try.prog 104 [.agg [.vs (cXs l)], .int .i64 (e.length : Nat), .int .i64 (zcy e : Nat), .int .i64 (i : Nat)] (.bool (zrj l e i)) := by
 have a1 := zfp l hsl (zdn e) (zki hg)
 have a2 := zfp l hsl (zdn (zdc e i)) (ya2 hg i)
 have a3 := zfp l hsl (zwj e i) (posC_way hg i)
 have q1 := ya1 h1 h4
 have hf1 : 1 ≤ (zdc e i).length := by rw [zdv]; exact h1
 have hf4 : (zdc e i).length ≤ 4 := by rw [zdv]; exact h4
 have q2 := ya1 hf1 hf4
 rw [zdv] at q2
 have hx := xorE h1 h4 hi
 have hs := shl1 (show i < 4 by omega)
 have hpl : (zdn e).length = e.length := zhe e
 have hgd : (zdn e)[i]? = some (if e.getD i false then 2 else 0) := by
  rw [zdn, y0h, y08]
  rw [y06 hi]
  rfl
 have hge : ((zdn e).map (AV.int .i64))[i]? = some (.int .i64 (if e.getD i false then 2 else 0)) := by rw [y0h, hgd]; rfl
 have hne := flip_ne h1 h4 hi
 unfold zrj
 generalize hb1 : zds l (zdn e) = b1 at *
 generalize hb2 : zds l (zdn (zdc e i)) = b2 at *
 refine zax env0_ok fn104 [(0, .agg [.vs (cXs l)]), (1, .int .i64 (e.length : Nat)), (2, .int .i64 (zcy e : Nat)), (3, .int .i64 (i : Nat))] (by show 4 ≤ 44; decide) rfl fun w0 N0 => ?_
 unfold ic104
 refine zsr rfl (zbq rfl rfl (za1 rfl (onu (za7 (za7 ?_)))))
 refine zfl env0_ok [(95, [.int .i64 (e.length : Nat), .int .i64 (zcy e : Nat)], vsI (zdn e)), (95, [.int .i64 (e.length : Nat), .int .i64 (zcy (zdc e i) : Nat)], vsI (zdn (zdc e i))), (94, [.agg [.vs (cXs l)], vsI (zdn e)], .bool b1), (94, [.agg [.vs (cXs l)], vsI (zdn (zdc e i))], .bool b2)] (fun x hx => by
  rcases y0l.1 hx with rfl | hx
  ·exact q1
  rcases y0l.1 hx with rfl | hx
  ·exact q2
  rcases y0l.1 hx with rfl | hx
  ·exact a1
  obtain rfl := y0i.1 hx
  exact a2) (fun f => Nat.beq f 95 || Nat.beq f 94) rfl rfl rfl ?_
 refine zal rfl rfl rfl rfl (za1 rfl (za1 rfl ?_))
 refine zas rfl rfl zbn noC ?_
 refine zas rfl rfl (zd1 (by decide) (zd1 (by decide) zbn)) noC ?_
 cases b1 with
 | false =>
  repeat (first | refine za7 ?_ | refine za5 rfl ?_ | refine zai ?_ | refine za8 ?_ | refine zb2 rfl ?_ | refine zaf ?_ | refine za2 ?_ | refine zbz rfl rfl ?_ | refine za1 rfl ?_ | refine zau rfl rfl ?_ | refine zes rfl rfl ?_)
  exact zae ⟨.inr rfl, _, rfl, rfl⟩
 | true =>
  repeat (first | refine zbc rfl ?_ | refine za1 rfl ?_ | refine zal rfl rfl rfl rfl ?_ | refine zes rfl rfl ?_)
  refine zb3 (op := .shl) rfl rfl hs ?_
  refine zbc rfl ?_
  refine zb3 (op := .xor) rfl rfl hx ?_
  refine zbc rfl ?_
  refine zas rfl rfl (zua (fun e0 => ?_) zbn) noC ?_
  ·injection e0 with _ e0
   injection e0 with e0
   injection e0 with _ e0
   exact absurd (Int.ofNat_inj.1 e0) hne
  refine zbc rfl ?_
  refine zas rfl rfl (zd1 (by decide) (zd1 (by decide) (zua (fun e0 => ?_) zbn))) noC ?_
  ·injection e0 with _ e0
   injection e0 with e0
   have e0 := vsI_inj e0
   rw [e0, hb2] at hb1
   rw [hb1]
  cases b2 with
  | false =>
   refine zbc rfl (zes rfl rfl (zap rfl rfl (onu (zb2 rfl (zsr rfl (za1 rfl (onu (zaf (za2 ?_)))))))))
   exact zae ⟨.inr rfl, _, rfl, rfl⟩
  | true =>
   refine zbc rfl (zes rfl rfl (zap rfl rfl (onu (zb5 rfl (zab (za8 (zsr rfl (za1 rfl (za1 rfl ?_)))))))))
   refine o_own rfl rfl (pos95o h1 h4) (zh7 _) ?_
   refine za1 rfl (onu (za7 (zsr rfl (za1 rfl (za1 rfl (zb7 rfl rfl (by omega) (by omega) ?_))))))
   have e0 : 0 + ((i : Nat) : Int).toNat * 1 = i := by omega
   rw [e0]
   refine zhs rfl rfl (by decide) hge ?_
   have hml : ((zdn e).map (AV.int .i64)).length = e.length := by rw [y07, hpl]
   have hws : ∀ z : Int, ((zdn e).map (AV.int .i64)).set i (.int .i64 z) = ((zdn e).set i z).map (AV.int .i64) := fun z => by rw [List.map_set]
   have hfz : ∀ z : Int, RenF 1 1 (((zdn e).map (AV.int .i64)).set i (.int .i64 z)) (.ms 1 1 1 0 e.length (some e.length)) (vsI ((zdn e).set i z)) := fun z => .fms (by rw [y07, y1i, hpl]) (fun x hx => by obtain ⟨y, _, rfl⟩ := y0o.1 hx; rfl) ⟨[], by rw [y14, y0u, hws]; exact zqa _⟩
   unfold zwj at a3 ⊢
   cases hb : e.getD i false with
   | true =>
    rw [hb] at a3
    simp only [if_true, y0k, if_false] at a3
    refine zcc rfl rfl rfl (onu (zb5 rfl (za5 rfl (za1 rfl (za1 rfl (zb7 rfl rfl (by omega) (by omega) ?_))))))
    rw [e0]
    refine zel rfl rfl rfl rfl (by rw [hml]; exact hi) rfl ?_
    refine onr rfl (zal rfl rfl rfl rfl (za1 rfl ?_))
    refine zp2 1 1 [(41, .agg [.vs (cXs l)]), (42, vsI ((zdn e).set i 3))] rfl (by rw [hws]; exact zjf _) (.cons rfl .same (.cons rfl (hfz 3) .nil)) ?_
    refine zas rfl rfl a3 noC ?_
    refine za1 rfl (onu (zaf ?_))
    exact zae ⟨.inr rfl, _, rfl, rfl⟩
   | false =>
    rw [hb] at a3
    simp only [if_true, y0k, if_false] at a3
    refine zc6 rfl rfl rfl (onu (zb2 rfl (za5 rfl (za1 rfl (za1 rfl (zb7 rfl rfl (by omega) (by omega) ?_))))))
    rw [e0]
    refine zel rfl rfl rfl rfl (by rw [hml]; exact hi) rfl ?_
    refine onr rfl (zal rfl rfl rfl rfl (za1 rfl ?_))
    refine zp2 1 1 [(41, .agg [.vs (cXs l)]), (42, vsI ((zdn e).set i 1))] rfl (by rw [hws]; exact zjf _) (.cons rfl .same (.cons rfl (hfz 1) .nil)) ?_
    refine zas rfl rfl a3 noC ?_
    refine za1 rfl (onu (zaf ?_))
    exact zae ⟨.inr rfl, _, rfl, rfl⟩
end Go.Proofs.Ytoiblgbaeglgoaa
