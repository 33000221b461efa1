/- codec's Reader: reads and its deferred closure. Conditions stand at each theorem. -/
import Derived.Test.YtpnlcogbahjnoaaGreatClo
namespace Go.Proofs.YtpnlcogbahjnoaaGreat.F
open Go.RowKit Go.Proofs.YtpnlcogbahjnoaaGreat.M
set_option linter.unusedVariables false

theorem wp_post {P : Program} {c : Code} {Q : Exit → Act → World → Prop} {a : Act} {w : World} (Q' : Exit → Act → World → Prop) (h : c.wp P Q' a w) (hQ : ∀ e a' w', Q' e a' w' → Q e a' w') : c.wp P Q a w :=
  fun b k cs => let ⟨e, a', w', q, r⟩ := h b k cs; ⟨e, a', w', hQ _ _ _ q, r⟩
theorem assert_errno (xT : TypeId) (v : Value) (w : World) : (Instr.typeAssert (.iface 31 v) xT 31 true).run Tryz.prog w = .ok (.tuple #[v, .bool true]) w := by kernel_rfl
theorem caught_tmps (a b X : Value) : #[a, b] ++ ((Array.replicate 17 undef).setIfInBounds 3 X).setIfInBounds 0 X = #[a, b, X, undef, undef, X, undef, undef, undef, undef, undef, undef, undef, undef, undef, undef, undef, undef, undef] := by
  simp [Array.replicate, List.replicate]
def EndPost (R : World → Prop) (e : Exit) (a : Act) (w' : World) : Prop := e = .normal ∧ a.defers = [] ∧ R w'

set_option maxRecDepth 100000 in
set_option maxHeartbeats 1000000 in
theorem caught (w : World) (p : Nat) (bs : List UInt8) (h : RdAt w p bs 0) (c1 c2 : Nat) (x : Value) (h1 : BoxT w c1 122 (.pointer (some ⟨p, 0, none⟩))) (h2 : BoxT w c2 4 x) (c : Int) :
    CallsD Tryz.prog 113 #[.pointer (some ⟨c1, 0, none⟩), .pointer (some ⟨c2, 0, none⟩)] (.panicking (Pan c)) w fun e u' w' =>
      e = .returned (.tuple #[]) ∧ u' = .panicking [{ v := .iface 31 (.int .i64 c), recovered := true }] ∧ RdAt w' p [] c ∧ BoxT w' c2 4 (.bool false) ∧ Fr (fun k => k = p ∨ k = c2) w w' := by
  refine callsD_of_wpS Tryz.func113 rfl fun c₀ cs hu => ?_
  apply wpS_seq
  apply wpS_region
  simp [wpOpsS, go_sem, recoverD, hu, Pan, Tryz.ntmps113, Exit.thenS]
  refine wpS_of_wp (wp_post (EndPost fun w' => RdAt w' p [] c ∧ BoxT w' c2 4 (.bool false) ∧ Fr (fun k => k = p ∨ k = c2) w w') ?walk ?conv)
  case conv =>
    rintro e a' w' ⟨rfl, hd, hR⟩
    exact ⟨hd, _, rfl, _, results_none rfl _ _ _, rfl, rfl, hR⟩
  case walk =>
    have hta := assert_errno
    have q1 := h1.cell
    have H2 := Lib.hid h2
    have HR := Lib.hid h
    clear h h1 h2
    generalize hQ : EndPost (fun w' => RdAt w' p [] c ∧ BoxT w' c2 4 (.bool false) ∧ Fr (fun k => k = p ∨ k = c2) w w') = Q'
    have HQ := Lib.hid hQ
    clear hQ
    rw [caught_tmps]
    go_wp2_with fail
    refine (give_any w p bs HR.out c).mono ?_
    rintro e w1 ⟨rfl, hr, hf⟩
    have hn := H2.out.ne HR.out
    have b2 := H2.out.fr hf hn
    have q2 := b2.cell
    have f2 := free_at b2 0
    have B2 := Lib.hid b2
    have HR1 := Lib.hid hr
    have HF1 := Lib.hid hf
    clear b2 hr hf q1
    go_wp2_with fail
    rw [← HQ.out]
    have F : Fr (fun k => k = c2) w1 (w1.setCell ⟨c2, 0, none⟩ (.bool false)) := Fr.setCell (Fr.refl _ _) _ _ (fun _ => rfl)
    refine ⟨rfl, rfl, HR1.out.fr F (fun e => hn e.symm) (by rintro g rfl; exact Tag.not B2.out (by decide)), B2.out.set _, ?_⟩
    exact (HF1.out.mono (S' := fun k => k = p ∨ k = c2) (fun _ _ h => .inl h)).trans F (fun _ _ h => .inr h)

set_option maxRecDepth 100000 in
set_option maxHeartbeats 1000000 in
theorem idle (w : World) (c1 c2 : Nat) :
    CallsD Tryz.prog 113 #[.pointer (some ⟨c1, 0, none⟩), .pointer (some ⟨c2, 0, none⟩)] .returning w fun e u' w' => e = .returned (.tuple #[]) ∧ u' = .returning ∧ w' = w := by
  refine callsD_of_wpS Tryz.func113 rfl fun c₀ cs hu => ?_
  apply wpS_seq
  apply wpS_region
  simp [wpOpsS, go_sem, recoverD, hu, Tryz.ntmps113, Exit.thenS]
  refine wpS_of_wp (wp_post (EndPost fun w' => w' = w) ?walk ?conv)
  case conv =>
    rintro e a' w' ⟨rfl, hd, rfl⟩
    cases c₀
    exact ⟨hd, .returning, by simp_all, _, results_none rfl _ _ _, rfl, rfl, rfl⟩
  case walk =>
    generalize hQ : EndPost (fun w' => w' = w) = Q'
    have HQ := Lib.hid hQ
    clear hQ
    rw [caught_tmps]
    go_wp2_with fail
    rw [← HQ.out]
    exact ⟨rfl, rfl, rfl⟩

theorem two_boxT (w : World) (x y : Value) (t1 t2 : TypeId) : Below w.heap.size w ((w.alloc (.cells #[x] t1)).alloc (.cells #[y] t2)) ∧
    BoxT ((w.alloc (.cells #[x] t1)).alloc (.cells #[y] t2)) w.heap.size t1 x ∧ BoxT ((w.alloc (.cells #[x] t1)).alloc (.cells #[y] t2)) (w.heap.size + 1) t2 y := by
  refine ⟨((Below.refl _ w).alloc (Nat.le_refl _) _).alloc (by simp) _, ?_, ?_⟩
  · exact (Below.heap_alloc _ _ _ (by simp)).trans (heap_alloc_new w _)
  · have := heap_alloc_new (w.alloc (.cells #[x] t1)) (.cells #[y] t2)
    simpa [BoxT] using this

set_option maxRecDepth 100000 in
set_option maxHeartbeats 1000000 in
theorem reads_failed (w : World) (p : Nat) (bs : List UInt8) (f : Int) (h : RdAt w p bs f) (hf : f ≠ 0) (x : Value) :
    Calls Tryz.prog 94 #[.pointer (some ⟨p, 0, none⟩), x] w fun e w' => e = .returned (.bool false) ∧ Below w.heap.size w w' := by
  have hmf : ∀ (fn : Fn) (first cap : Array Value) (w : World), (Instr.makeFunc fn first cap).run Tryz.prog w = .ok (.func fn first cap) w := fun _ _ _ _ => rfl
  have HR := Lib.hid h
  clear h
  go_enter_defers Tryz.func94, Tryz.ntmps94
  go_upto_region 1 with fail
  obtain ⟨hA, b0, b1⟩ := two_boxT w (.pointer (some ⟨p, 0, none⟩)) (.bool false) 122 4
  generalize (w.alloc (.cells #[.pointer (some ⟨p, 0, none⟩)] 122)).alloc (.cells #[.bool false] 4) = w1 at *
  obtain ⟨sv, z, ho⟩ := HR.out.below hA
  have c0 := cell_at z 0
  have c2 := cell_at z 2
  simp at c0 c2
  have q0 := b0.cell
  have q1 := b1.cell
  have f1 := free_at b1 0
  have B1 := Lib.hid b1
  clear z ho b0 b1
  go_wp2_with fail
  have B2 := B1.out.set (.bool false)
  have q2 := B2.cell
  refine ⟨.bool false, by simp [results, Tryz.results94, go_sem, q2], rfl, ?_⟩
  exact (Fr.below (S := fun k => k = w.heap.size + 1) (Fr.setCell (Fr.refl _ _) _ _ (fun _ => rfl)) hA.size (by rintro k rfl; omega)) |> hA.trans
set_option maxRecDepth 100000 in
set_option maxHeartbeats 1000000 in
theorem readsnum_ok (w : World) (p : Nat) (bs : List UInt8) (h : RdAt w p bs 0) (c1 c2 : Nat) (x : Int) (h1 : BoxT w c1 122 (.pointer (some ⟨p, 0, none⟩))) (h2 : BoxT w c2 3 (.int .i64 x)) (n : Nat) (l : List UInt8) (hd : dec bs = .ok (n, l)) :
    Calls Tryz.prog 94 #[.pointer (some ⟨p, 0, none⟩), .func (.func 95) #[] #[.pointer (some ⟨c1, 0, none⟩), .pointer (some ⟨c2, 0, none⟩)]] w fun e w' => e = .returned (.bool true) ∧ RdAt w' p l 0 ∧ BoxT w' c2 3 (.int .i64 n) ∧ Fr (fun k => k = p ∨ k = c2) w w' := by
  have hmf : ∀ (fn : Fn) (first cap : Array Value) (w : World), (Instr.makeFunc fn first cap).run Tryz.prog w = .ok (.func fn first cap) w := fun _ _ _ _ => rfl
  have HR := Lib.hid h
  have H1 := Lib.hid h1
  have H2 := Lib.hid h2
  clear h h1 h2
  go_enter_defers Tryz.func94, Tryz.ntmps94
  go_upto_region 1 with fail
  obtain ⟨hA, b0, b1⟩ := two_boxT w (.pointer (some ⟨p, 0, none⟩)) (.bool false) 122 4
  generalize (w.alloc (.cells #[.pointer (some ⟨p, 0, none⟩)] 122)).alloc (.cells #[.bool false] 4) = w1 at *
  have hr1 := HR.out.below hA
  have HR1 := Lib.hid hr1
  obtain ⟨sv, z, ho⟩ := hr1
  have z0 := cell_at z 0
  have z2 := cell_at z 2
  simp at z0 z2
  have q0 := b0.cell
  have B0 := Lib.hid b0
  have B1 := Lib.hid b1
  clear z ho b0 b1
  have hc2 := lt_of_obj H2.out
  have hp := HR.out.lt
  go_wp2_with fail
  refine (numclo_ok w1 p bs HR1.out c1 c2 x (H1.out.below hA) (H2.out.below hA) n l hd).mono ?_
  rintro e w2 ⟨rfl, h3, h4, h5⟩
  have b2 := B1.out.fr h5 (by omega)
  have q2 := b2.cell
  have f2 := free_at b2 0
  have B2 := Lib.hid b2
  have H3' := Lib.hid h3
  have H4 := Lib.hid h4
  have H5 := Lib.hid h5
  clear b2 h3 h4 h5 z0 z2 q0
  go_wp2_with fail
  refine leaves_cons (f := 113) (args := #[.pointer (some ⟨w.heap.size, 0, none⟩), .pointer (some ⟨w.heap.size + 1, 0, none⟩)]) (by simp) (by simp [go_sem]) ?_
  refine (idle _ _ _).mono ?_
  rintro e u' w'' ⟨rfl, rfl, rfl⟩
  have B3 := B2.out.set (.bool true)
  have q3 := B3.cell
  have F : Fr (fun k => k = w.heap.size + 1) w2 (w2.setCell ⟨w.heap.size + 1, 0, none⟩ (.bool true)) := Fr.setCell (Fr.refl _ _) _ _ (fun _ => rfl)
  have nt : ∀ g, g = w.heap.size + 1 → ¬ Tag w2 g 5 := by rintro g rfl; exact Tag.not B2.out (by decide)
  refine ⟨.bool true, by simp [results, Tryz.results94, go_sem, q3], rfl, H3'.out.fr F (by omega) nt, H4.out.fr F (by omega), ?_⟩
  exact ((Fr.of_below (S := fun k => k = p ∨ k = c2) hA).trans H5.out (fun _ _ h => h)).trans F (fun x hx h => by omega)
set_option maxRecDepth 100000 in
set_option maxHeartbeats 1000000 in
theorem readsnum_no (w : World) (p : Nat) (bs : List UInt8) (h : RdAt w p bs 0) (c1 c2 : Nat) (x : Int) (h1 : BoxT w c1 122 (.pointer (some ⟨p, 0, none⟩))) (h2 : BoxT w c2 3 (.int .i64 x)) (c : Int) (hd : dec bs = .error c) :
    Calls Tryz.prog 94 #[.pointer (some ⟨p, 0, none⟩), .func (.func 95) #[] #[.pointer (some ⟨c1, 0, none⟩), .pointer (some ⟨c2, 0, none⟩)]] w fun e w' => e = .returned (.bool false) ∧ RdAt w' p [] c ∧ BoxT w' c2 3 (.int .i64 x) ∧ Fr (fun k => k = p ∨ k = c2) w w' := by
  have hmf : ∀ (fn : Fn) (first cap : Array Value) (w : World), (Instr.makeFunc fn first cap).run Tryz.prog w = .ok (.func fn first cap) w := fun _ _ _ _ => rfl
  have HR := Lib.hid h
  have H1 := Lib.hid h1
  have H2 := Lib.hid h2
  clear h h1 h2
  go_enter_defers Tryz.func94, Tryz.ntmps94
  go_upto_region 1 with fail
  obtain ⟨hA, b0, b1⟩ := two_boxT w (.pointer (some ⟨p, 0, none⟩)) (.bool false) 122 4
  generalize (w.alloc (.cells #[.pointer (some ⟨p, 0, none⟩)] 122)).alloc (.cells #[.bool false] 4) = w1 at *
  have hr1 := HR.out.below hA
  have HR1 := Lib.hid hr1
  obtain ⟨sv, z, ho⟩ := hr1
  have z0 := cell_at z 0
  have z2 := cell_at z 2
  simp at z0 z2
  have q0 := b0.cell
  have B0 := Lib.hid b0
  have B1 := Lib.hid b1
  clear z ho b0 b1
  have hc2 := lt_of_obj H2.out
  have hp := HR.out.lt
  go_wp2_with fail
  refine (numclo_no w1 p bs HR1.out c1 c2 (H1.out.below hA) c hd).mono ?_
  rintro e w2 ⟨rfl, ⟨l, h3⟩, h5⟩
  have b2 := B1.out.fr h5 (by omega)
  have b02 := B0.out.fr h5 (by omega)
  have B2 := Lib.hid b2
  have B02 := Lib.hid b02
  have H3' := Lib.hid h3
  have H5 := Lib.hid h5
  clear b2 b02 h3 h5 z0 z2 q0
  go_wp2_with fail
  refine leaves_cons (f := 113) (args := #[.pointer (some ⟨w.heap.size, 0, none⟩), .pointer (some ⟨w.heap.size + 1, 0, none⟩)]) (by simp) (by simp [go_sem]) ?_
  refine (caught w2 p l H3'.out w.heap.size (w.heap.size + 1) _ B02.out B2.out c).mono ?_
  rintro e u' w3 ⟨rfl, rfl, h6, h7, h8⟩
  have q3 := h7.cell
  refine ⟨.bool false, by simp [results, Tryz.results94, go_sem, q3], rfl, h6, ((H2.out.below hA).fr H5.out ?_).fr h8 (by have := H2.out.ne HR.out; omega), ?_⟩
  · exact fun e => H2.out.ne HR.out e
  · exact ((Fr.of_below (S := fun k => k = p ∨ k = c2) hA).trans H5.out (fun _ _ h => .inl h)).trans h8 (fun x hx h => by omega)
set_option maxRecDepth 100000 in
set_option maxHeartbeats 1000000 in
theorem readsbytes_ok (w : World) (p : Nat) (bs : List UInt8) (h : RdAt w p bs 0) (c1 c2 c3 : Nat) (x : Value) (most : Nat) (hm : most ≤ 1099511627776) (h1 : BoxT w c1 122 (.pointer (some ⟨p, 0, none⟩))) (h2 : BoxT w c2 3 (.int .i64 most)) (h3 : BoxT w c3 52 x) (r l : List UInt8) (hl : r.length ≤ 1099511627776) (hd : decB most bs = .ok (r, l)) :
    Calls Tryz.prog 94 #[.pointer (some ⟨p, 0, none⟩), .func (.func 97) #[] #[.pointer (some ⟨c1, 0, none⟩), .pointer (some ⟨c2, 0, none⟩), .pointer (some ⟨c3, 0, none⟩)]] w fun e w' => e = .returned (.bool true) ∧ RdAt w' p l 0 ∧ (∃ a k, BoxT w' c3 52 (.slice a r.length k) ∧ OB w' (.slice a r.length k) r) ∧ Fr (fun k => k = p ∨ k = c3) w w' := by
  have hmf : ∀ (fn : Fn) (first cap : Array Value) (w : World), (Instr.makeFunc fn first cap).run Tryz.prog w = .ok (.func fn first cap) w := fun _ _ _ _ => rfl
  have HR := Lib.hid h
  have H1 := Lib.hid h1
  have H2 := Lib.hid h2
  have H3 := Lib.hid h3
  clear h h1 h2 h3
  go_enter_defers Tryz.func94, Tryz.ntmps94
  go_upto_region 1 with fail
  obtain ⟨hA, b0, b1⟩ := two_boxT w (.pointer (some ⟨p, 0, none⟩)) (.bool false) 122 4
  generalize (w.alloc (.cells #[.pointer (some ⟨p, 0, none⟩)] 122)).alloc (.cells #[.bool false] 4) = w1 at *
  have hr1 := HR.out.below hA
  have HR1 := Lib.hid hr1
  obtain ⟨sv, z, ho⟩ := hr1
  have z0 := cell_at z 0
  have z2 := cell_at z 2
  simp at z0 z2
  have q0 := b0.cell
  have B0 := Lib.hid b0
  have B1 := Lib.hid b1
  clear z ho b0 b1
  have hc2 := lt_of_obj H3.out
  have hp := HR.out.lt
  go_wp2_with fail
  refine (bytesclo_ok w1 p bs HR1.out c1 c2 c3 x most hm (H1.out.below hA) (H2.out.below hA) (H3.out.below hA) r l hl hd).mono ?_
  rintro e w2 ⟨rfl, h3, h4, h5⟩
  have b2 := B1.out.fr h5 (by omega)
  have q2 := b2.cell
  have f2 := free_at b2 0
  have B2 := Lib.hid b2
  have H3' := Lib.hid h3
  have H4 := Lib.hid h4
  have H5 := Lib.hid h5
  clear b2 h3 h4 h5 z0 z2 q0
  go_wp2_with fail
  refine leaves_cons (f := 113) (args := #[.pointer (some ⟨w.heap.size, 0, none⟩), .pointer (some ⟨w.heap.size + 1, 0, none⟩)]) (by simp) (by simp [go_sem]) ?_
  refine (idle _ _ _).mono ?_
  rintro e u' w'' ⟨rfl, rfl, rfl⟩
  have B3 := B2.out.set (.bool true)
  have q3 := B3.cell
  have F : Fr (fun k => k = w.heap.size + 1) w2 (w2.setCell ⟨w.heap.size + 1, 0, none⟩ (.bool true)) := Fr.setCell (Fr.refl _ _) _ _ (fun _ => rfl)
  have nt : ∀ g, g = w.heap.size + 1 → ¬ Tag w2 g 5 := by rintro g rfl; exact Tag.not B2.out (by decide)
  refine ⟨.bool true, by simp [results, Tryz.results94, go_sem, q3], rfl, H3'.out.fr F (by omega) nt, (by obtain ⟨a, k, y1, y2⟩ := H4.out; exact ⟨a, k, y1.fr F (by omega), y2.fr F nt⟩), ?_⟩
  exact ((Fr.of_below (S := fun k => k = p ∨ k = c3) hA).trans H5.out (fun _ _ h => h)).trans F (fun x hx h => by omega)
set_option maxRecDepth 100000 in
set_option maxHeartbeats 1000000 in
theorem readsbytes_no (w : World) (p : Nat) (bs : List UInt8) (h : RdAt w p bs 0) (c1 c2 c3 : Nat) (x : Value) (most : Nat) (hm : most ≤ 1099511627776) (h1 : BoxT w c1 122 (.pointer (some ⟨p, 0, none⟩))) (h2 : BoxT w c2 3 (.int .i64 most)) (h3 : BoxT w c3 52 x) (c : Int) (hd : decB most bs = .error c) :
    Calls Tryz.prog 94 #[.pointer (some ⟨p, 0, none⟩), .func (.func 97) #[] #[.pointer (some ⟨c1, 0, none⟩), .pointer (some ⟨c2, 0, none⟩), .pointer (some ⟨c3, 0, none⟩)]] w fun e w' => e = .returned (.bool false) ∧ RdAt w' p [] c ∧ BoxT w' c3 52 x ∧ Fr (fun k => k = p ∨ k = c3) w w' := by
  have hmf : ∀ (fn : Fn) (first cap : Array Value) (w : World), (Instr.makeFunc fn first cap).run Tryz.prog w = .ok (.func fn first cap) w := fun _ _ _ _ => rfl
  have HR := Lib.hid h
  have H1 := Lib.hid h1
  have H2 := Lib.hid h2
  have H3 := Lib.hid h3
  clear h h1 h2 h3
  go_enter_defers Tryz.func94, Tryz.ntmps94
  go_upto_region 1 with fail
  obtain ⟨hA, b0, b1⟩ := two_boxT w (.pointer (some ⟨p, 0, none⟩)) (.bool false) 122 4
  generalize (w.alloc (.cells #[.pointer (some ⟨p, 0, none⟩)] 122)).alloc (.cells #[.bool false] 4) = w1 at *
  have hr1 := HR.out.below hA
  have HR1 := Lib.hid hr1
  obtain ⟨sv, z, ho⟩ := hr1
  have z0 := cell_at z 0
  have z2 := cell_at z 2
  simp at z0 z2
  have q0 := b0.cell
  have B0 := Lib.hid b0
  have B1 := Lib.hid b1
  clear z ho b0 b1
  have hc2 := lt_of_obj H3.out
  have hp := HR.out.lt
  go_wp2_with fail
  refine (bytesclo_no w1 p bs HR1.out c1 c2 c3 most hm (H1.out.below hA) (H2.out.below hA) c hd).mono ?_
  rintro e w2 ⟨rfl, ⟨l, h3⟩, h5⟩
  have b2 := B1.out.fr h5 (by omega)
  have b02 := B0.out.fr h5 (by omega)
  have B2 := Lib.hid b2
  have B02 := Lib.hid b02
  have H3' := Lib.hid h3
  have H5 := Lib.hid h5
  clear b2 b02 h3 h5 z0 z2 q0
  go_wp2_with fail
  refine leaves_cons (f := 113) (args := #[.pointer (some ⟨w.heap.size, 0, none⟩), .pointer (some ⟨w.heap.size + 1, 0, none⟩)]) (by simp) (by simp [go_sem]) ?_
  refine (caught w2 p l H3'.out w.heap.size (w.heap.size + 1) _ B02.out B2.out c).mono ?_
  rintro e u' w3 ⟨rfl, rfl, h6, h7, h8⟩
  have q3 := h7.cell
  refine ⟨.bool false, by simp [results, Tryz.results94, go_sem, q3], rfl, h6, ((H3.out.below hA).fr H5.out ?_).fr h8 (by have := H3.out.ne HR.out; omega), ?_⟩
  · exact fun e => H3.out.ne HR.out e
  · exact ((Fr.of_below (S := fun k => k = p ∨ k = c3) hA).trans H5.out (fun _ _ h => .inl h)).trans h8 (fun x hx h => by omega)
end Go.Proofs.YtpnlcogbahjnoaaGreat.F
