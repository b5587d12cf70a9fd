/- Written by a program of mine (give.py, over the kit's print) out of the translation: contracts of the Go functions. Lean checks it. -/
import Derived.Test.YtdjkkceamldmjaaPrint0
namespace Go.Proofs.Ytdjkkceamldmjaa.Print
open Go.RowKit Go.Proofs.YtdjkkceamldmjaaW.PrintWords Go.Proofs.YtdjkkceamldmjaaW.PrintLast Go.Proofs.YtdjkkceamldmjaaW.PrintMore
attribute [local go_sem] max2_int min2_int max_two min_two max_three min_three max_four min_four   -- for this text's walks alone
set_option linter.unusedVariables false
set_option linter.unusedSimpArgs false

/-! ### thwartref01_Put: function 27 -/
def thwartref01_Put.f : Nat → Int → Option (ByteArray)
 | 0,_ => none
 | k + 1,a0 => if a0 < 128 then (some (strOfNums (([(a0) % 256] : List Int)))) else ((some (([(IntKind.u64.wrap (128 + (Int.tmod a0 128))) % 256] : List Int) : List Int)).bind fun y211 => ((thwartref01_Put.f k (IntKind.u64.wrap (Int.tdiv a0 128))).bind fun t214 => (if (strOfNums y211).size + t214.size ≤ 9223372036854775807 then (some ((strOfNums y211) ++ t214)) else (none))))
theorem thwartref01_Put.mono_l : ∀ k,(∀ y0,LeO (thwartref01_Put.f k y0) (thwartref01_Put.f (k + 1) y0))
 | 0 => fun _ r h => by simp [thwartref01_Put.f] at h
 | k + 1 => by
  have ih0:=thwartref01_Put.mono_l k
  ·intro y0
   unfold thwartref01_Put.f
   repeat' first
   | (with_reducible exact ih0 _)
   | (with_reducible exact LeO.refl _)
   | (with_reducible exact LeO.none _)
   | (with_reducible refine LeO.ite ?_ ?_)
   | (with_reducible refine LeO.bind ?_ (fun _ => ?_))
   | exact ih0 _
   | exact LeO.none _
   | refine LeO.ite ?_ ?_
   | refine LeO.bind ?_ (fun _ => ?_)
theorem thwartref01_Put.mono : ∀ a0 k,LeO (thwartref01_Put.f k a0) (thwartref01_Put.f (k + 1) a0):=by
 intro a0 k
 have ih0:=thwartref01_Put.mono_l k
 exact ih0 a0
def thwartref01_Put.T3 : Bool × List (List Nat × List Nat):=(true,[([],[]),([0],[0]),([1],[1]),([2],[2]),([3],[3]),([4],[4]),([],[]),([6],[6]),([7],[7]),([5,8],[5,8]),([9,8,0,1,2,3,4,5,6,7,8,9],[9])])
def thwartref01_Put.B3 : List Nat:=[0,1,3,7,15,31,0,64,192,511,1023]
theorem thwartref01_Put.tab3 : rtab .any (opsOf Try.f27 3) = thwartref01_Put.T3:=by kernel_rfl
theorem thwartref01_Put.bits3 : waitsOk thwartref01_Put.T3.2 thwartref01_Put.B3 = true:=by kernel_rfl
set_option maxHeartbeats 8000000 in
set_option maxRecDepth 100000 in
theorem thwartref01_Put.calls (k : Nat) : ∀ (a0 : Int) (r : ByteArray) (w : World) (h : thwartref01_Put.f k a0 = some r),
  Calls Try.prog 27 #[.int .u64 a0] w fun e w' => e = .returned (.string r) ∧ Below w.heap.size w w' := by
 induction k using Nat.strongRecOn with
 | _ k ih =>
 intro a0 r w h
 cases k with
 | zero => exact absurd h (by simp [thwartref01_Put.f])
 | succ k =>
 simp only [thwartref01_Put.f] at h
 have HB:=Aside0.mk (Below.refl w.heap.size w)
 have H : (if a0 < 128 then (some (strOfNums (([(a0) % 256] : List Int)))) else ((some (([(IntKind.u64.wrap (128 + (Int.tmod a0 128))) % 256] : List Int) : List Int)).bind fun y211 => ((thwartref01_Put.f k (IntKind.u64.wrap (Int.tdiv a0 128))).bind fun t214 => (if (strOfNums y211).size + t214.size ≤ 9223372036854775807 then (some ((strOfNums y211) ++ t214)) else (none))))) = some r:=h
 clear h
 by_cases c2 : a0 < 128
 ·rw [if_pos c2] at H
  have c2b0 : decide (a0 < 128) = true:=decide_eq_true c2
  clear c2
  obtain ⟨y208,hy208⟩ : ∃ y_ : List Int,y_ = (([(a0) % 256] : List Int)):=⟨_,rfl⟩
  replace H : (some (strOfNums y208)) = some r:=by first | (rw [hy208];with_reducible exact H) | (have H2_:=(Option.bind_some _ _).symm.trans H;rw [hy208];with_reducible exact H2_) | (have H2_:=(Option.bind_some _ _).symm.trans H;with_reducible exact H2_) | with_reducible exact H | (rw [hy208];exact H) | exact H
  have Ny208:=Aside0.mk hy208
  clear hy208
  obtain rfl:=Option.some.inj H
  go_enter Try.func27,Try.ntmps27
  go_wp2_with (first | ((with_reducible refine gate_dst (N:=7) rfl ?_);refine Kd.R_lit (Kd.int .u8) _ 5 ?hg (N:=7) ?hd (xs:=([(a0) % 256] : List Int)) (inner:=[.int .u8 ((a0) % 256)]) (ok:=fun _ => True) (okp:=fun _ => True) ?hr ?hp (fun _ hk => hk) trivial (Below.refl _ _) (Nat.le_refl _) (by simp) ?_;(case hd => rfl);(case hg => rfl);(case hr => first | (go_simp;done) | (go_simp;rfl));(case hp => exact (Reps.one (show Kd.M (Kd.int .u8) _ _ _ ((a0) % 256) [.int .u8 ((a0) % 256)] from rfl) (Reps.none _ _)));intro v209 w3 ho4 hb hg_ hnew_;clear hg_ hnew_;(first | rw [← Ny208.out] at ho4 | (simp only [Int.reduceToNat] at ho4;rw [← Ny208.out] at ho4));have n0_:=Aside0.mk (Kd.R_lower ho4 (below_size (by repeat (first | (with_reducible first | exact HB.out | apply below_alloc | apply pw_below_drewN | apply below_drew1) | exact HB.out))));have n1_:=Aside0.mk (below_step (by repeat (first | (with_reducible first | exact HB.out | apply below_alloc | apply pw_below_drewN | apply below_drew1) | exact HB.out)) hb);clear HB;have HO210:=n0_;have HB:=n1_;clear n0_ n1_;clear hb ho4;have hcv5:=own_string (P:=Try.prog) Try.underlying82 Try.underlying5 Try.underlying9 (Kd.own_of_R HO210.out)))
  go_ret
  exact ⟨by first | rfl | (simp [errW_none,errW_some] <;> rfl) | (simp [*,errW_none,errW_some] <;> rfl) | (simp [errW_none,errW_some];exact isEmpty_bne _),by repeat (first | (with_reducible first | exact HB.out | apply below_alloc | apply pw_below_drewN | apply below_drew1) | exact HB.out)⟩
 ·rw [if_neg c2] at H
  have c2b0 : decide (a0 < 128) = false:=decide_eq_false c2
  clear c2
  obtain ⟨y211,hy211⟩ : ∃ y_ : List Int,y_ = (([(IntKind.u64.wrap (128 + (Int.tmod a0 128))) % 256] : List Int)):=⟨_,rfl⟩
  replace H : ((thwartref01_Put.f k (IntKind.u64.wrap (Int.tdiv a0 128))).bind fun t214 => (if (strOfNums y211).size + t214.size ≤ 9223372036854775807 then (some ((strOfNums y211) ++ t214)) else (none))) = some r:=by first | (rw [hy211];with_reducible exact H) | (have H2_:=(Option.bind_some _ _).symm.trans H;rw [hy211];with_reducible exact H2_) | (have H2_:=(Option.bind_some _ _).symm.trans H;with_reducible exact H2_) | with_reducible exact H | (rw [hy211];exact H) | exact H
  have Ny211:=Aside0.mk hy211
  clear hy211
  replace H:=Option.bind_eq_some_iff.mp H
  obtain ⟨t214,A60,H⟩:=H
  replace H : (if (strOfNums y211).size + t214.size ≤ 9223372036854775807 then (some ((strOfNums y211) ++ t214)) else (none)) = some r:=H
  have A6:=Aside0.mk A60
  clear A60
  by_cases c7 : (strOfNums y211).size + t214.size ≤ 9223372036854775807
  ·rw [if_pos c7] at H
   have c7b0:=eq_true c7
   have c7b1 : decide ((strOfNums y211).size + t214.size ≤ 9223372036854775807) = true:=decide_eq_true c7
   try have c7b2 : (9223372036854775807 < (strOfNums y211).size + t214.size) = False:=eq_false (Nat.not_lt.2 c7)
   obtain rfl:=Option.some.inj H
   go_enter Try.func27,Try.ntmps27
   try go_wp2
   have n0_:=Aside0.mk (below_drew1 HB.out)
   clear HB
   have HB:=n0_
   clear n0_
   refine start_ (n:=11) (S:=fun w' => True) (ds:=[]) #[false,false,false,false,false,false,false,false,false,false,false] (by kernel_rfl) rfl rfl trivial (fun hHeld => ?_);refine with_tabW thwartref01_Put.tab3 thwartref01_Put.bits3 (fun HT_ HW_ => ?_)
   generalize w.drew = w8 at HB hHeld ⊢
   refine pure_ (i:=0) (N:=some 9) (v := ?_) (a' := ?_) #[true,false,false,false,false,false,false,false,false,false,false] rfl rfl (any_of HT_.out (by kernel_rfl)) (fun _ _ _ h => h) (Or.inl ⟨by rfl,?_⟩) ?_ ?_
   rotate_left
   ·intro w'
    go_simp
    with_reducible rfl
   rotate_left
   ·simp only [Act.put,List.setIfInBounds_toArray,List.set_cons_zero,List.set_cons_succ,i64_w,i32_w]
    rfl
   refine pure_ (i:=1) (N:=some 10) (v := ?_) (a' := ?_) #[true,true,false,false,false,false,false,false,false,false,false] rfl rfl (any_of HT_.out (by kernel_rfl)) (fun _ _ _ h => h) (Or.inl ⟨by rfl,?_⟩) ?_ ?_
   rotate_left
   ·intro w'
    go_simp
    with_reducible rfl
   rotate_left
   ·simp only [Act.put,List.setIfInBounds_toArray,List.set_cons_zero,List.set_cons_succ,i64_w,i32_w]
    rfl
   refine pure_ (i:=2) (N:=some 11) (v := ?_) (a' := ?_) #[true,true,true,false,false,false,false,false,false,false,false] rfl rfl (any_of HT_.out (by kernel_rfl)) (fun _ _ _ h => h) (Or.inl ⟨by rfl,?_⟩) ?_ ?_
   rotate_left
   ·intro w'
    go_simp
    with_reducible rfl
   rotate_left
   ·simp only [Act.put,List.setIfInBounds_toArray,List.set_cons_zero,List.set_cons_succ,i64_w,i32_w]
    rfl
   refine pure_ (i:=3) (N:=some 12) (v := ?_) (a' := ?_) #[true,true,true,true,false,false,false,false,false,false,false] rfl rfl (any_of HT_.out (by kernel_rfl)) (fun _ _ _ h => h) (Or.inl ⟨by rfl,?_⟩) ?_ ?_
   rotate_left
   ·intro w'
    go_simp
    with_reducible rfl
   rotate_left
   ·simp only [Act.put,List.setIfInBounds_toArray,List.set_cons_zero,List.set_cons_succ,i64_w,i32_w]
    rfl
   refine pure_ (i:=6) (N:=some 15) (v := ?_) (a' := ?_) #[true,true,true,true,false,false,true,false,false,false,false] rfl rfl (any_of HT_.out (by kernel_rfl)) (fun _ _ _ h => h) (Or.inl ⟨by rfl,?_⟩) ?_ ?_
   rotate_left
   ·intro w'
    go_simp
    with_reducible rfl
   rotate_left
   ·simp only [Act.put,List.setIfInBounds_toArray,List.set_cons_zero,List.set_cons_succ,i64_w,i32_w]
    rfl
   refine pure_ (i:=7) (N:=some 16) (v := ?_) (a' := ?_) #[true,true,true,true,false,false,true,true,false,false,false] rfl rfl (any_of HT_.out (by kernel_rfl)) (fun _ _ _ h => h) (Or.inl ⟨by rfl,?_⟩) ?_ ?_
   rotate_left
   ·intro w'
    go_simp
    with_reducible rfl
   rotate_left
   ·simp only [Act.put,List.setIfInBounds_toArray,List.set_cons_zero,List.set_cons_succ,i64_w,i32_w]
    rfl
   refine join_ (σ:=Value) 2 #[true,true,true,true,true,true,true,true,true,false,false] (fun s_ => [(13,s_),(14,.string (strOfNums y211)),(17,.string t214)]) (fun s_ w' => (Kd.R (Kd.int .u8) 5 w' w.heap.size (fun _ => True) s_ y211) ∧ (Below w.heap.size w w')) ?_ ?_
   rotate_left
   ·intro hCont
    refine two_ (i:=4) (j:=8) (Ni:=some 13) (Nj:=some 17) #[true,true,true,true,true,false,true,true,false,false,false] #[true,true,true,true,false,false,true,true,true,false,false] rfl rfl rfl rfl (two_of HT_.out (by kernel_rfl)) (by decide) (by decide) (fun K hK => ?_) (fun K hK => ?_)
    ·skip
     refine Kd.R_lit_step (Kd.int .u8) _ 5 ?hg (N:=13) ?hd (xs:=([(IntKind.u64.wrap (128 + (Int.tmod a0 128))) % 256] : List Int)) (inner:=[.int .u8 ((IntKind.u64.wrap (128 + (Int.tmod a0 128))) % 256)]) (ok:=fun _ => True) (okp:=fun _ => True) ?hr ?hp (fun _ hk => hk) trivial (Below.refl _ _) (Nat.le_refl _) (by simp) ?_;(case hd => rfl);(case hg => rfl);(case hr => first | (go_simp;done) | (go_simp;rfl));(case hp => exact (Reps.one (show Kd.M (Kd.int .u8) _ _ _ ((IntKind.u64.wrap (128 + (Int.tmod a0 128))) % 256) [.int .u8 ((IntKind.u64.wrap (128 + (Int.tmod a0 128))) % 256)] from rfl) (Reps.none _ _)))
     intro v212 w9 ho10 hb hg_ hnew_
     clear hg_ hnew_
     (first | rw [← Ny211.out] at ho10 | (simp only [Int.reduceToNat] at ho10;rw [← Ny211.out] at ho10))
     have n0_:=Aside0.mk (Kd.R_lower ho10 (below_size (by repeat (first | (with_reducible first | exact HB.out | apply below_alloc | apply pw_below_drewN | apply below_drew1) | exact HB.out))))
     have n1_:=Aside0.mk (below_step (by repeat (first | (with_reducible first | exact HB.out | apply below_alloc | apply pw_below_drewN | apply below_drew1) | exact HB.out)) hb)
     clear HB
     have HO213:=n0_
     have HB:=n1_
     clear n0_ n1_
     clear hb ho10
     refine hK.out _ _ trivial (fun hHeld => ?_)
     clear hK K
     refine norm_ (a' := ?_) ?_ ?_
     rotate_left
     ·show Act.put _ (some 13) _ = _
      simp only [Act.put,List.setIfInBounds_toArray,List.set_cons_zero,List.set_cons_succ,i64_w,i32_w]
      rfl
     refine two_ (i:=5) (j:=8) (Ni:=some 14) (Nj:=some 17) #[true,true,true,true,true,true,true,true,false,false,false] #[true,true,true,true,true,false,true,true,true,false,false] rfl rfl rfl rfl (two_of HT_.out (by kernel_rfl)) (by decide) (by decide) (fun K hK => ?_) (fun K hK => ?_)
     ·skip
      have hcv11:=own_string (P:=Try.prog) Try.underlying82 Try.underlying5 Try.underlying9 (Kd.own_of_R HO213.out)
      refine value_ (w1 := ?_) (v := ?_) (by rfl) rfl ?_ ?_
      rotate_left 2
      ·go_simp
       constructor
       ·rfl
       ·rfl
      clear hcv11
      refine hK.out _ _ trivial (fun hHeld => ?_)
      clear hK K
      refine norm_ (a' := ?_) ?_ ?_
      rotate_left
      ·show Act.put _ (some 14) _ = _
       simp only [Act.put,List.setIfInBounds_toArray,List.set_cons_zero,List.set_cons_succ,i64_w,i32_w]
       rfl
      refine one_ (i:=8) (N:=some 17) #[true,true,true,true,true,true,true,true,true,false,false] rfl rfl (one_of HT_.out (by kernel_rfl)) (by decide) (fun K hK => ?_)
      refine goes_ Try.func27 (by kernel_rfl) rfl #[.int .u64 (IntKind.u64.wrap (Int.tdiv a0 128))] (by rfl) rfl rfl (by (try simp only [List.map_toArray,List.map_cons,List.map_nil]);first | done | rfl | (simp only [List.length_drop,List.length_take];rfl)) ?_
      with_reducible refine (ih k (by omega) (IntKind.u64.wrap (Int.tdiv a0 128)) t214 _ A6.out).mono ?_
      rintro e w12 ⟨rfl,hb⟩
      refine ⟨_,rfl,?_⟩
      have n0_:=Aside0.mk (Kd.R_below (by (with_reducible repeat (first | apply Kd.R_alloc | apply Kd.R_drewN | apply Kd.R_drew));exact HO213.out) hb)
      have n1_:=Aside0.mk (below_step (by repeat (first | (with_reducible first | exact HB.out | apply below_alloc | apply pw_below_drewN | apply below_drew1) | exact HB.out)) hb)
      clear HO213
      clear HB
      have HO213:=n0_
      have HB:=n1_
      clear n0_ n1_
      (try clear hb)
      (try clear hb2)
      (try clear hk)
      (try clear hi)
      refine hK.out _ _ trivial (fun hHeld => ?_)
      clear hK K
      refine norm_ (a' := ?_) ?_ ?_
      rotate_left
      ·show Act.put _ (some 17) _ = _
       simp only [Act.put,List.setIfInBounds_toArray,List.set_cons_zero,List.set_cons_succ,i64_w,i32_w]
       rfl
      exact norm_ (by simp only [putAll,Act.put,List.setIfInBounds_toArray,List.set_cons_zero,List.set_cons_succ]) (hCont (v212) _ ⟨(by (with_reducible repeat (first | apply Kd.R_alloc | apply Kd.R_drewN | apply Kd.R_drew));exact HO213.out),(by repeat (first | (with_reducible first | exact HB.out | apply below_alloc | apply pw_below_drewN | apply below_drew1) | exact HB.out))⟩)
     ·skip
      refine goes_ Try.func27 (by kernel_rfl) rfl #[.int .u64 (IntKind.u64.wrap (Int.tdiv a0 128))] (by rfl) rfl rfl (by (try simp only [List.map_toArray,List.map_cons,List.map_nil]);first | done | rfl | (simp only [List.length_drop,List.length_take];rfl)) ?_
      with_reducible refine (ih k (by omega) (IntKind.u64.wrap (Int.tdiv a0 128)) t214 _ A6.out).mono ?_
      rintro e w11 ⟨rfl,hb⟩
      refine ⟨_,rfl,?_⟩
      have n0_:=Aside0.mk (Kd.R_below (by (with_reducible repeat (first | apply Kd.R_alloc | apply Kd.R_drewN | apply Kd.R_drew));exact HO213.out) hb)
      have n1_:=Aside0.mk (below_step (by repeat (first | (with_reducible first | exact HB.out | apply below_alloc | apply pw_below_drewN | apply below_drew1) | exact HB.out)) hb)
      clear HO213
      clear HB
      have HO213:=n0_
      have HB:=n1_
      clear n0_ n1_
      (try clear hb)
      (try clear hb2)
      (try clear hk)
      (try clear hi)
      refine hK.out _ _ trivial (fun hHeld => ?_)
      clear hK K
      refine norm_ (a' := ?_) ?_ ?_
      rotate_left
      ·show Act.put _ (some 17) _ = _
       simp only [Act.put,List.setIfInBounds_toArray,List.set_cons_zero,List.set_cons_succ,i64_w,i32_w]
       rfl
      refine one_ (i:=5) (N:=some 14) #[true,true,true,true,true,true,true,true,true,false,false] rfl rfl (one_of HT_.out (by kernel_rfl)) (by decide) (fun K hK => ?_)
      have hcv12:=own_string (P:=Try.prog) Try.underlying82 Try.underlying5 Try.underlying9 (Kd.own_of_R HO213.out)
      refine value_ (w1 := ?_) (v := ?_) (by rfl) rfl ?_ ?_
      rotate_left 2
      ·go_simp
       constructor
       ·rfl
       ·rfl
      clear hcv12
      refine hK.out _ _ trivial (fun hHeld => ?_)
      clear hK K
      refine norm_ (a' := ?_) ?_ ?_
      rotate_left
      ·show Act.put _ (some 14) _ = _
       simp only [Act.put,List.setIfInBounds_toArray,List.set_cons_zero,List.set_cons_succ,i64_w,i32_w]
       rfl
      exact norm_ (by simp only [putAll,Act.put,List.setIfInBounds_toArray,List.set_cons_zero,List.set_cons_succ]) (hCont (v212) _ ⟨(by (with_reducible repeat (first | apply Kd.R_alloc | apply Kd.R_drewN | apply Kd.R_drew));exact HO213.out),(by repeat (first | (with_reducible first | exact HB.out | apply below_alloc | apply pw_below_drewN | apply below_drew1) | exact HB.out))⟩)
    ·skip
     refine goes_ Try.func27 (by kernel_rfl) rfl #[.int .u64 (IntKind.u64.wrap (Int.tdiv a0 128))] (by rfl) rfl rfl (by (try simp only [List.map_toArray,List.map_cons,List.map_nil]);first | done | rfl | (simp only [List.length_drop,List.length_take];rfl)) ?_
     with_reducible refine (ih k (by omega) (IntKind.u64.wrap (Int.tdiv a0 128)) t214 _ A6.out).mono ?_
     rintro e w9 ⟨rfl,hb⟩
     refine ⟨_,rfl,?_⟩
     have n0_:=Aside0.mk (below_step (by repeat (first | (with_reducible first | exact HB.out | apply below_alloc | apply pw_below_drewN | apply below_drew1) | exact HB.out)) hb)
     clear HB
     have HB:=n0_
     clear n0_
     (try clear hb)
     (try clear hb2)
     (try clear hk)
     (try clear hi)
     refine hK.out _ _ trivial (fun hHeld => ?_)
     clear hK K
     refine norm_ (a' := ?_) ?_ ?_
     rotate_left
     ·show Act.put _ (some 17) _ = _
      simp only [Act.put,List.setIfInBounds_toArray,List.set_cons_zero,List.set_cons_succ,i64_w,i32_w]
      rfl
     refine one_ (i:=4) (N:=some 13) #[true,true,true,true,true,false,true,true,true,false,false] rfl rfl (one_of HT_.out (by kernel_rfl)) (by decide) (fun K hK => ?_)
     refine Kd.R_lit_step (Kd.int .u8) _ 5 ?hg (N:=13) ?hd (xs:=([(IntKind.u64.wrap (128 + (Int.tmod a0 128))) % 256] : List Int)) (inner:=[.int .u8 ((IntKind.u64.wrap (128 + (Int.tmod a0 128))) % 256)]) (ok:=fun _ => True) (okp:=fun _ => True) ?hr ?hp (fun _ hk => hk) trivial (Below.refl _ _) (Nat.le_refl _) (by simp) ?_;(case hd => rfl);(case hg => rfl);(case hr => first | (go_simp;done) | (go_simp;rfl));(case hp => exact (Reps.one (show Kd.M (Kd.int .u8) _ _ _ ((IntKind.u64.wrap (128 + (Int.tmod a0 128))) % 256) [.int .u8 ((IntKind.u64.wrap (128 + (Int.tmod a0 128))) % 256)] from rfl) (Reps.none _ _)))
     intro v212 w10 ho11 hb hg_ hnew_
     clear hg_ hnew_
     (first | rw [← Ny211.out] at ho11 | (simp only [Int.reduceToNat] at ho11;rw [← Ny211.out] at ho11))
     have n0_:=Aside0.mk (Kd.R_lower ho11 (below_size (by repeat (first | (with_reducible first | exact HB.out | apply below_alloc | apply pw_below_drewN | apply below_drew1) | exact HB.out))))
     have n1_:=Aside0.mk (below_step (by repeat (first | (with_reducible first | exact HB.out | apply below_alloc | apply pw_below_drewN | apply below_drew1) | exact HB.out)) hb)
     clear HB
     have HO213:=n0_
     have HB:=n1_
     clear n0_ n1_
     clear hb ho11
     refine hK.out _ _ trivial (fun hHeld => ?_)
     clear hK K
     refine norm_ (a' := ?_) ?_ ?_
     rotate_left
     ·show Act.put _ (some 13) _ = _
      simp only [Act.put,List.setIfInBounds_toArray,List.set_cons_zero,List.set_cons_succ,i64_w,i32_w]
      rfl
     refine one_ (i:=5) (N:=some 14) #[true,true,true,true,true,true,true,true,true,false,false] rfl rfl (one_of HT_.out (by kernel_rfl)) (by decide) (fun K hK => ?_)
     have hcv12:=own_string (P:=Try.prog) Try.underlying82 Try.underlying5 Try.underlying9 (Kd.own_of_R HO213.out)
     refine value_ (w1 := ?_) (v := ?_) (by rfl) rfl ?_ ?_
     rotate_left 2
     ·go_simp
      constructor
      ·rfl
      ·rfl
     clear hcv12
     refine hK.out _ _ trivial (fun hHeld => ?_)
     clear hK K
     refine norm_ (a' := ?_) ?_ ?_
     rotate_left
     ·show Act.put _ (some 14) _ = _
      simp only [Act.put,List.setIfInBounds_toArray,List.set_cons_zero,List.set_cons_succ,i64_w,i32_w]
      rfl
     exact norm_ (by simp only [putAll,Act.put,List.setIfInBounds_toArray,List.set_cons_zero,List.set_cons_succ]) (hCont (v212) _ ⟨(by (with_reducible repeat (first | apply Kd.R_alloc | apply Kd.R_drewN | apply Kd.R_drew));exact HO213.out),(by repeat (first | (with_reducible first | exact HB.out | apply below_alloc | apply pw_below_drewN | apply below_drew1) | exact HB.out))⟩)
   rintro v212 w13 ⟨h0_,h1_⟩
   have n0_ : Aside0 (Kd.R (Kd.int .u8) 5 w13 w.heap.size (fun _ => True) v212 y211):=⟨h0_⟩
   have n1_ : Aside0 (Below w.heap.size w w13):=⟨h1_⟩
   clear HB
   clear h0_ h1_
   have HO213:=n0_
   have HB:=n1_
   clear n0_ n1_
   have hHeld:=trivial
   refine norm_ (a' := ?_) ?_ ?_
   rotate_left
   ·simp only [putAll,Act.put,List.setIfInBounds_toArray,List.set_cons_zero,List.set_cons_succ]
    rfl
   refine pure_ (i:=9) (N:=some 18) (v := ?_) (a' := ?_) #[true,true,true,true,true,true,true,true,true,true,false] rfl rfl (any_of HT_.out (by kernel_rfl)) (fun _ _ _ h => h) (Or.inl ⟨by rfl,?_⟩) ?_ ?_
   rotate_left
   ·intro w'
    go_simp
    with_reducible rfl
   rotate_left
   ·simp only [Act.put,List.setIfInBounds_toArray,List.set_cons_zero,List.set_cons_succ,i64_w,i32_w]
    rfl
   refine pure_ (i:=10) (N:=some 2) (v := ?_) (a' := ?_) #[true,true,true,true,true,true,true,true,true,true,true] rfl rfl (any_of HT_.out (by kernel_rfl)) (fun _ _ _ h => h) (Or.inl ⟨by rfl,?_⟩) ?_ ?_
   rotate_left
   ·intro w'
    go_simp
    with_reducible rfl
   rotate_left
   ·simp only [Act.put,List.setIfInBounds_toArray,List.set_cons_zero,List.set_cons_succ,i64_w,i32_w]
    rfl
   refine done_ (done_of HT_.out (by kernel_rfl)) ?_
   try go_wp2
   go_ret
   exact ⟨by first | rfl | (simp [errW_none,errW_some] <;> rfl) | (simp [*,errW_none,errW_some] <;> rfl) | (simp [errW_none,errW_some];exact isEmpty_bne _),by repeat (first | (with_reducible first | exact HB.out | apply below_alloc | apply pw_below_drewN | apply below_drew1) | exact HB.out)⟩
  ·rw [if_neg c7] at H
   exact absurd H (by simp)

/-! ### thwartref05_Right: function 28 -/
def thwartref05_Right.f (a0_0 : ByteArray) (a0_1 : Int) (a0_2 : Int) (a0_3 : Int) (a0_4 : Bool) : Option (Bool):=if (a0_0.size : Int) ≥ 1 then (if (a0_0.size : Int) ≤ 40 then (if a0_1 ≥ 0 then (if a0_1 ≤ 1048576 then (if a0_2 ≥ 1 then (if a0_2 ≤ 400 then (if a0_3 ≥ 1 then (some (decide (a0_3 ≤ 1099511627776))) else (some false)) else (some false)) else (some false)) else (some false)) else (some false)) else (some false)) else (some false)
set_option maxHeartbeats 8000000 in
set_option maxRecDepth 100000 in
theorem thwartref05_Right.calls (a0_0 : ByteArray) (a0_1 : Int) (a0_2 : Int) (a0_3 : Int) (a0_4 : Bool) (r : Bool) (w : World) (h : thwartref05_Right.f a0_0 a0_1 a0_2 a0_3 a0_4 = some r) :
  Calls Try.prog 28 #[.agg #[.string a0_0,.int .i64 a0_1,.int .i64 a0_2,.int .u64 a0_3,.bool a0_4]] w fun e w' => e = .returned (.bool r) ∧ Below w.heap.size w w' := by
 have hu49:=Try.underlying49
 have HB:=Aside0.mk (Below.refl w.heap.size w)
 have H : (if (a0_0.size : Int) ≥ 1 then (if (a0_0.size : Int) ≤ 40 then (if a0_1 ≥ 0 then (if a0_1 ≤ 1048576 then (if a0_2 ≥ 1 then (if a0_2 ≤ 400 then (if a0_3 ≥ 1 then (some (decide (a0_3 ≤ 1099511627776))) else (some false)) else (some false)) else (some false)) else (some false)) else (some false)) else (some false)) else (some false)) = some r:=h
 clear h
 by_cases c2 : (a0_0.size : Int) ≥ 1
 ·rw [if_pos c2] at H
  have c2b0 : decide (1 ≤ (a0_0.size : Int)) = true:=decide_eq_true c2
  have c2b1 : decide (1 ≤ a0_0.size) = true:=decide_eq_true (by omega)
  clear c2
  by_cases c3 : (a0_0.size : Int) ≤ 40
  ·rw [if_pos c3] at H
   have c3b0 : decide ((a0_0.size : Int) ≤ 40) = true:=decide_eq_true c3
   have c3b1 : decide (a0_0.size ≤ 40) = true:=decide_eq_true (by omega)
   clear c3
   by_cases c4 : a0_1 ≥ 0
   ·rw [if_pos c4] at H
    have c4b0 : decide (0 ≤ a0_1) = true:=decide_eq_true c4
    clear c4
    by_cases c5 : a0_1 ≤ 1048576
    ·rw [if_pos c5] at H
     have c5b0 : decide (a0_1 ≤ 1048576) = true:=decide_eq_true c5
     clear c5
     by_cases c6 : a0_2 ≥ 1
     ·rw [if_pos c6] at H
      have c6b0 : decide (1 ≤ a0_2) = true:=decide_eq_true c6
      clear c6
      by_cases c7 : a0_2 ≤ 400
      ·rw [if_pos c7] at H
       have c7b0 : decide (a0_2 ≤ 400) = true:=decide_eq_true c7
       clear c7
       by_cases c8 : a0_3 ≥ 1
       ·rw [if_pos c8] at H
        have c8b0 : decide (1 ≤ a0_3) = true:=decide_eq_true c8
        clear c8
        obtain rfl:=Option.some.inj H
        go_enter Try.func28,Try.ntmps28
        go_wp2_with (first | ((with_reducible refine gate_dst (N:=1) rfl ?_);(try (refine gate_guard (by rfl) ?_;dsimp only));refine box_event ?hg (N:=1) ?hd (cs := #[.string a0_0,.int .i64 a0_1,.int .i64 a0_2,.int .u64 a0_3,.bool a0_4]) (t:=49) ?hr ?_;(case hd => rfl);(case hg => rfl);(case hr => first | (go_simp;done) | (go_simp;rfl));intro gb215 hg w9 hbox hb;have n0_:=Aside0.mk (below_step (by repeat (first | (with_reducible first | exact HB.out | apply below_alloc | apply pw_below_drewN | apply below_drew1) | exact HB.out)) hb);have n1_:=Aside0.mk (hbox);have n2_:=Aside0.mk ((by rw [hg];exact (below_size (by repeat (first | (with_reducible first | exact HB.out | apply below_alloc | apply pw_below_drewN | apply below_drew1) | exact HB.out))) : w.heap.size ≤ gb215));have n3_:=Aside0.mk ((by rw [hg];exact (below_size (by repeat (first | (with_reducible first | exact HB.out | apply below_alloc | apply pw_below_drewN | apply below_drew1) | exact HB.out))) : w.heap.size ≤ gb215));clear HB;have HB:=n0_;have BK215:=n1_;have GW215:=n2_;have GE215:=n3_;clear n0_ n1_ n2_ n3_;clear hb hbox hg;have hcz10_0 : w9.cell? ⟨gb215,0,none⟩ = some (.string a0_0):=(blk_cell BK215.out 0).trans rfl;have hcz10_1 : w9.cell? ⟨gb215,1,none⟩ = some (.int .i64 a0_1):=(blk_cell BK215.out 1).trans rfl;have hcz10_2 : w9.cell? ⟨gb215,2,none⟩ = some (.int .i64 a0_2):=(blk_cell BK215.out 2).trans rfl;have hcz10_3 : w9.cell? ⟨gb215,3,none⟩ = some (.int .u64 a0_3):=(blk_cell BK215.out 3).trans rfl;have hcz10_4 : w9.cell? ⟨gb215,4,none⟩ = some (.bool a0_4):=(blk_cell BK215.out 4).trans rfl;have hfz10_0:=blk_frozen BK215.out 0;have hfz10_1:=blk_frozen BK215.out 1;have hfz10_2:=blk_frozen BK215.out 2;have hfz10_3:=blk_frozen BK215.out 3;have hfz10_4:=blk_frozen BK215.out 4))
        go_ret
        exact ⟨by first | rfl | (simp [errW_none,errW_some] <;> rfl) | (simp [*,errW_none,errW_some] <;> rfl) | (simp [errW_none,errW_some];exact isEmpty_bne _),by repeat (first | (with_reducible first | exact HB.out | apply below_alloc | apply pw_below_drewN | apply below_drew1 | refine below_set ?_ GE215.out) | exact HB.out)⟩
       ·rw [if_neg c8] at H
        have c8b0 : decide (1 ≤ a0_3) = false:=decide_eq_false c8
        clear c8
        obtain rfl:=Option.some.inj H
        go_enter Try.func28,Try.ntmps28
        go_wp2_with (first | ((with_reducible refine gate_dst (N:=1) rfl ?_);(try (refine gate_guard (by rfl) ?_;dsimp only));refine box_event ?hg (N:=1) ?hd (cs := #[.string a0_0,.int .i64 a0_1,.int .i64 a0_2,.int .u64 a0_3,.bool a0_4]) (t:=49) ?hr ?_;(case hd => rfl);(case hg => rfl);(case hr => first | (go_simp;done) | (go_simp;rfl));intro gb215 hg w11 hbox hb;have n0_:=Aside0.mk (below_step (by repeat (first | (with_reducible first | exact HB.out | apply below_alloc | apply pw_below_drewN | apply below_drew1) | exact HB.out)) hb);have n1_:=Aside0.mk (hbox);have n2_:=Aside0.mk ((by rw [hg];exact (below_size (by repeat (first | (with_reducible first | exact HB.out | apply below_alloc | apply pw_below_drewN | apply below_drew1) | exact HB.out))) : w.heap.size ≤ gb215));have n3_:=Aside0.mk ((by rw [hg];exact (below_size (by repeat (first | (with_reducible first | exact HB.out | apply below_alloc | apply pw_below_drewN | apply below_drew1) | exact HB.out))) : w.heap.size ≤ gb215));clear HB;have HB:=n0_;have BK215:=n1_;have GW215:=n2_;have GE215:=n3_;clear n0_ n1_ n2_ n3_;clear hb hbox hg;have hcz12_0 : w11.cell? ⟨gb215,0,none⟩ = some (.string a0_0):=(blk_cell BK215.out 0).trans rfl;have hcz12_1 : w11.cell? ⟨gb215,1,none⟩ = some (.int .i64 a0_1):=(blk_cell BK215.out 1).trans rfl;have hcz12_2 : w11.cell? ⟨gb215,2,none⟩ = some (.int .i64 a0_2):=(blk_cell BK215.out 2).trans rfl;have hcz12_3 : w11.cell? ⟨gb215,3,none⟩ = some (.int .u64 a0_3):=(blk_cell BK215.out 3).trans rfl;have hcz12_4 : w11.cell? ⟨gb215,4,none⟩ = some (.bool a0_4):=(blk_cell BK215.out 4).trans rfl;have hfz12_0:=blk_frozen BK215.out 0;have hfz12_1:=blk_frozen BK215.out 1;have hfz12_2:=blk_frozen BK215.out 2;have hfz12_3:=blk_frozen BK215.out 3;have hfz12_4:=blk_frozen BK215.out 4))
        go_ret
        exact ⟨by first | rfl | (simp [errW_none,errW_some] <;> rfl) | (simp [*,errW_none,errW_some] <;> rfl) | (simp [errW_none,errW_some];exact isEmpty_bne _),by repeat (first | (with_reducible first | exact HB.out | apply below_alloc | apply pw_below_drewN | apply below_drew1 | refine below_set ?_ GE215.out) | exact HB.out)⟩
      ·rw [if_neg c7] at H
       have c7b0 : decide (a0_2 ≤ 400) = false:=decide_eq_false c7
       clear c7
       obtain rfl:=Option.some.inj H
       go_enter Try.func28,Try.ntmps28
       go_wp2_with (first | ((with_reducible refine gate_dst (N:=1) rfl ?_);(try (refine gate_guard (by rfl) ?_;dsimp only));refine box_event ?hg (N:=1) ?hd (cs := #[.string a0_0,.int .i64 a0_1,.int .i64 a0_2,.int .u64 a0_3,.bool a0_4]) (t:=49) ?hr ?_;(case hd => rfl);(case hg => rfl);(case hr => first | (go_simp;done) | (go_simp;rfl));intro gb215 hg w13 hbox hb;have n0_:=Aside0.mk (below_step (by repeat (first | (with_reducible first | exact HB.out | apply below_alloc | apply pw_below_drewN | apply below_drew1) | exact HB.out)) hb);have n1_:=Aside0.mk (hbox);have n2_:=Aside0.mk ((by rw [hg];exact (below_size (by repeat (first | (with_reducible first | exact HB.out | apply below_alloc | apply pw_below_drewN | apply below_drew1) | exact HB.out))) : w.heap.size ≤ gb215));have n3_:=Aside0.mk ((by rw [hg];exact (below_size (by repeat (first | (with_reducible first | exact HB.out | apply below_alloc | apply pw_below_drewN | apply below_drew1) | exact HB.out))) : w.heap.size ≤ gb215));clear HB;have HB:=n0_;have BK215:=n1_;have GW215:=n2_;have GE215:=n3_;clear n0_ n1_ n2_ n3_;clear hb hbox hg;have hcz14_0 : w13.cell? ⟨gb215,0,none⟩ = some (.string a0_0):=(blk_cell BK215.out 0).trans rfl;have hcz14_1 : w13.cell? ⟨gb215,1,none⟩ = some (.int .i64 a0_1):=(blk_cell BK215.out 1).trans rfl;have hcz14_2 : w13.cell? ⟨gb215,2,none⟩ = some (.int .i64 a0_2):=(blk_cell BK215.out 2).trans rfl;have hcz14_3 : w13.cell? ⟨gb215,3,none⟩ = some (.int .u64 a0_3):=(blk_cell BK215.out 3).trans rfl;have hcz14_4 : w13.cell? ⟨gb215,4,none⟩ = some (.bool a0_4):=(blk_cell BK215.out 4).trans rfl;have hfz14_0:=blk_frozen BK215.out 0;have hfz14_1:=blk_frozen BK215.out 1;have hfz14_2:=blk_frozen BK215.out 2;have hfz14_3:=blk_frozen BK215.out 3;have hfz14_4:=blk_frozen BK215.out 4))
       go_ret
       exact ⟨by first | rfl | (simp [errW_none,errW_some] <;> rfl) | (simp [*,errW_none,errW_some] <;> rfl) | (simp [errW_none,errW_some];exact isEmpty_bne _),by repeat (first | (with_reducible first | exact HB.out | apply below_alloc | apply pw_below_drewN | apply below_drew1 | refine below_set ?_ GE215.out) | exact HB.out)⟩
     ·rw [if_neg c6] at H
      have c6b0 : decide (1 ≤ a0_2) = false:=decide_eq_false c6
      clear c6
      obtain rfl:=Option.some.inj H
      go_enter Try.func28,Try.ntmps28
      go_wp2_with (first | ((with_reducible refine gate_dst (N:=1) rfl ?_);(try (refine gate_guard (by rfl) ?_;dsimp only));refine box_event ?hg (N:=1) ?hd (cs := #[.string a0_0,.int .i64 a0_1,.int .i64 a0_2,.int .u64 a0_3,.bool a0_4]) (t:=49) ?hr ?_;(case hd => rfl);(case hg => rfl);(case hr => first | (go_simp;done) | (go_simp;rfl));intro gb215 hg w15 hbox hb;have n0_:=Aside0.mk (below_step (by repeat (first | (with_reducible first | exact HB.out | apply below_alloc | apply pw_below_drewN | apply below_drew1) | exact HB.out)) hb);have n1_:=Aside0.mk (hbox);have n2_:=Aside0.mk ((by rw [hg];exact (below_size (by repeat (first | (with_reducible first | exact HB.out | apply below_alloc | apply pw_below_drewN | apply below_drew1) | exact HB.out))) : w.heap.size ≤ gb215));have n3_:=Aside0.mk ((by rw [hg];exact (below_size (by repeat (first | (with_reducible first | exact HB.out | apply below_alloc | apply pw_below_drewN | apply below_drew1) | exact HB.out))) : w.heap.size ≤ gb215));clear HB;have HB:=n0_;have BK215:=n1_;have GW215:=n2_;have GE215:=n3_;clear n0_ n1_ n2_ n3_;clear hb hbox hg;have hcz16_0 : w15.cell? ⟨gb215,0,none⟩ = some (.string a0_0):=(blk_cell BK215.out 0).trans rfl;have hcz16_1 : w15.cell? ⟨gb215,1,none⟩ = some (.int .i64 a0_1):=(blk_cell BK215.out 1).trans rfl;have hcz16_2 : w15.cell? ⟨gb215,2,none⟩ = some (.int .i64 a0_2):=(blk_cell BK215.out 2).trans rfl;have hcz16_3 : w15.cell? ⟨gb215,3,none⟩ = some (.int .u64 a0_3):=(blk_cell BK215.out 3).trans rfl;have hcz16_4 : w15.cell? ⟨gb215,4,none⟩ = some (.bool a0_4):=(blk_cell BK215.out 4).trans rfl;have hfz16_0:=blk_frozen BK215.out 0;have hfz16_1:=blk_frozen BK215.out 1;have hfz16_2:=blk_frozen BK215.out 2;have hfz16_3:=blk_frozen BK215.out 3;have hfz16_4:=blk_frozen BK215.out 4))
      go_ret
      exact ⟨by first | rfl | (simp [errW_none,errW_some] <;> rfl) | (simp [*,errW_none,errW_some] <;> rfl) | (simp [errW_none,errW_some];exact isEmpty_bne _),by repeat (first | (with_reducible first | exact HB.out | apply below_alloc | apply pw_below_drewN | apply below_drew1 | refine below_set ?_ GE215.out) | exact HB.out)⟩
    ·rw [if_neg c5] at H
     have c5b0 : decide (a0_1 ≤ 1048576) = false:=decide_eq_false c5
     clear c5
     obtain rfl:=Option.some.inj H
     go_enter Try.func28,Try.ntmps28
     go_wp2_with (first | ((with_reducible refine gate_dst (N:=1) rfl ?_);(try (refine gate_guard (by rfl) ?_;dsimp only));refine box_event ?hg (N:=1) ?hd (cs := #[.string a0_0,.int .i64 a0_1,.int .i64 a0_2,.int .u64 a0_3,.bool a0_4]) (t:=49) ?hr ?_;(case hd => rfl);(case hg => rfl);(case hr => first | (go_simp;done) | (go_simp;rfl));intro gb215 hg w17 hbox hb;have n0_:=Aside0.mk (below_step (by repeat (first | (with_reducible first | exact HB.out | apply below_alloc | apply pw_below_drewN | apply below_drew1) | exact HB.out)) hb);have n1_:=Aside0.mk (hbox);have n2_:=Aside0.mk ((by rw [hg];exact (below_size (by repeat (first | (with_reducible first | exact HB.out | apply below_alloc | apply pw_below_drewN | apply below_drew1) | exact HB.out))) : w.heap.size ≤ gb215));have n3_:=Aside0.mk ((by rw [hg];exact (below_size (by repeat (first | (with_reducible first | exact HB.out | apply below_alloc | apply pw_below_drewN | apply below_drew1) | exact HB.out))) : w.heap.size ≤ gb215));clear HB;have HB:=n0_;have BK215:=n1_;have GW215:=n2_;have GE215:=n3_;clear n0_ n1_ n2_ n3_;clear hb hbox hg;have hcz18_0 : w17.cell? ⟨gb215,0,none⟩ = some (.string a0_0):=(blk_cell BK215.out 0).trans rfl;have hcz18_1 : w17.cell? ⟨gb215,1,none⟩ = some (.int .i64 a0_1):=(blk_cell BK215.out 1).trans rfl;have hcz18_2 : w17.cell? ⟨gb215,2,none⟩ = some (.int .i64 a0_2):=(blk_cell BK215.out 2).trans rfl;have hcz18_3 : w17.cell? ⟨gb215,3,none⟩ = some (.int .u64 a0_3):=(blk_cell BK215.out 3).trans rfl;have hcz18_4 : w17.cell? ⟨gb215,4,none⟩ = some (.bool a0_4):=(blk_cell BK215.out 4).trans rfl;have hfz18_0:=blk_frozen BK215.out 0;have hfz18_1:=blk_frozen BK215.out 1;have hfz18_2:=blk_frozen BK215.out 2;have hfz18_3:=blk_frozen BK215.out 3;have hfz18_4:=blk_frozen BK215.out 4))
     go_ret
     exact ⟨by first | rfl | (simp [errW_none,errW_some] <;> rfl) | (simp [*,errW_none,errW_some] <;> rfl) | (simp [errW_none,errW_some];exact isEmpty_bne _),by repeat (first | (with_reducible first | exact HB.out | apply below_alloc | apply pw_below_drewN | apply below_drew1 | refine below_set ?_ GE215.out) | exact HB.out)⟩
   ·rw [if_neg c4] at H
    have c4b0 : decide (0 ≤ a0_1) = false:=decide_eq_false c4
    clear c4
    obtain rfl:=Option.some.inj H
    go_enter Try.func28,Try.ntmps28
    go_wp2_with (first | ((with_reducible refine gate_dst (N:=1) rfl ?_);(try (refine gate_guard (by rfl) ?_;dsimp only));refine box_event ?hg (N:=1) ?hd (cs := #[.string a0_0,.int .i64 a0_1,.int .i64 a0_2,.int .u64 a0_3,.bool a0_4]) (t:=49) ?hr ?_;(case hd => rfl);(case hg => rfl);(case hr => first | (go_simp;done) | (go_simp;rfl));intro gb215 hg w19 hbox hb;have n0_:=Aside0.mk (below_step (by repeat (first | (with_reducible first | exact HB.out | apply below_alloc | apply pw_below_drewN | apply below_drew1) | exact HB.out)) hb);have n1_:=Aside0.mk (hbox);have n2_:=Aside0.mk ((by rw [hg];exact (below_size (by repeat (first | (with_reducible first | exact HB.out | apply below_alloc | apply pw_below_drewN | apply below_drew1) | exact HB.out))) : w.heap.size ≤ gb215));have n3_:=Aside0.mk ((by rw [hg];exact (below_size (by repeat (first | (with_reducible first | exact HB.out | apply below_alloc | apply pw_below_drewN | apply below_drew1) | exact HB.out))) : w.heap.size ≤ gb215));clear HB;have HB:=n0_;have BK215:=n1_;have GW215:=n2_;have GE215:=n3_;clear n0_ n1_ n2_ n3_;clear hb hbox hg;have hcz20_0 : w19.cell? ⟨gb215,0,none⟩ = some (.string a0_0):=(blk_cell BK215.out 0).trans rfl;have hcz20_1 : w19.cell? ⟨gb215,1,none⟩ = some (.int .i64 a0_1):=(blk_cell BK215.out 1).trans rfl;have hcz20_2 : w19.cell? ⟨gb215,2,none⟩ = some (.int .i64 a0_2):=(blk_cell BK215.out 2).trans rfl;have hcz20_3 : w19.cell? ⟨gb215,3,none⟩ = some (.int .u64 a0_3):=(blk_cell BK215.out 3).trans rfl;have hcz20_4 : w19.cell? ⟨gb215,4,none⟩ = some (.bool a0_4):=(blk_cell BK215.out 4).trans rfl;have hfz20_0:=blk_frozen BK215.out 0;have hfz20_1:=blk_frozen BK215.out 1;have hfz20_2:=blk_frozen BK215.out 2;have hfz20_3:=blk_frozen BK215.out 3;have hfz20_4:=blk_frozen BK215.out 4))
    go_ret
    exact ⟨by first | rfl | (simp [errW_none,errW_some] <;> rfl) | (simp [*,errW_none,errW_some] <;> rfl) | (simp [errW_none,errW_some];exact isEmpty_bne _),by repeat (first | (with_reducible first | exact HB.out | apply below_alloc | apply pw_below_drewN | apply below_drew1 | refine below_set ?_ GE215.out) | exact HB.out)⟩
  ·rw [if_neg c3] at H
   have c3b0 : decide ((a0_0.size : Int) ≤ 40) = false:=decide_eq_false c3
   have c3b1 : decide (a0_0.size ≤ 40) = false:=decide_eq_false (by omega)
   clear c3
   obtain rfl:=Option.some.inj H
   go_enter Try.func28,Try.ntmps28
   go_wp2_with (first | ((with_reducible refine gate_dst (N:=1) rfl ?_);(try (refine gate_guard (by rfl) ?_;dsimp only));refine box_event ?hg (N:=1) ?hd (cs := #[.string a0_0,.int .i64 a0_1,.int .i64 a0_2,.int .u64 a0_3,.bool a0_4]) (t:=49) ?hr ?_;(case hd => rfl);(case hg => rfl);(case hr => first | (go_simp;done) | (go_simp;rfl));intro gb215 hg w21 hbox hb;have n0_:=Aside0.mk (below_step (by repeat (first | (with_reducible first | exact HB.out | apply below_alloc | apply pw_below_drewN | apply below_drew1) | exact HB.out)) hb);have n1_:=Aside0.mk (hbox);have n2_:=Aside0.mk ((by rw [hg];exact (below_size (by repeat (first | (with_reducible first | exact HB.out | apply below_alloc | apply pw_below_drewN | apply below_drew1) | exact HB.out))) : w.heap.size ≤ gb215));have n3_:=Aside0.mk ((by rw [hg];exact (below_size (by repeat (first | (with_reducible first | exact HB.out | apply below_alloc | apply pw_below_drewN | apply below_drew1) | exact HB.out))) : w.heap.size ≤ gb215));clear HB;have HB:=n0_;have BK215:=n1_;have GW215:=n2_;have GE215:=n3_;clear n0_ n1_ n2_ n3_;clear hb hbox hg;have hcz22_0 : w21.cell? ⟨gb215,0,none⟩ = some (.string a0_0):=(blk_cell BK215.out 0).trans rfl;have hcz22_1 : w21.cell? ⟨gb215,1,none⟩ = some (.int .i64 a0_1):=(blk_cell BK215.out 1).trans rfl;have hcz22_2 : w21.cell? ⟨gb215,2,none⟩ = some (.int .i64 a0_2):=(blk_cell BK215.out 2).trans rfl;have hcz22_3 : w21.cell? ⟨gb215,3,none⟩ = some (.int .u64 a0_3):=(blk_cell BK215.out 3).trans rfl;have hcz22_4 : w21.cell? ⟨gb215,4,none⟩ = some (.bool a0_4):=(blk_cell BK215.out 4).trans rfl;have hfz22_0:=blk_frozen BK215.out 0;have hfz22_1:=blk_frozen BK215.out 1;have hfz22_2:=blk_frozen BK215.out 2;have hfz22_3:=blk_frozen BK215.out 3;have hfz22_4:=blk_frozen BK215.out 4))
   go_ret
   exact ⟨by first | rfl | (simp [errW_none,errW_some] <;> rfl) | (simp [*,errW_none,errW_some] <;> rfl) | (simp [errW_none,errW_some];exact isEmpty_bne _),by repeat (first | (with_reducible first | exact HB.out | apply below_alloc | apply pw_below_drewN | apply below_drew1 | refine below_set ?_ GE215.out) | exact HB.out)⟩
 ·rw [if_neg c2] at H
  have c2b0 : decide (1 ≤ (a0_0.size : Int)) = false:=decide_eq_false c2
  have c2b1 : decide (1 ≤ a0_0.size) = false:=decide_eq_false (by omega)
  clear c2
  obtain rfl:=Option.some.inj H
  go_enter Try.func28,Try.ntmps28
  go_wp2_with (first | ((with_reducible refine gate_dst (N:=1) rfl ?_);(try (refine gate_guard (by rfl) ?_;dsimp only));refine box_event ?hg (N:=1) ?hd (cs := #[.string a0_0,.int .i64 a0_1,.int .i64 a0_2,.int .u64 a0_3,.bool a0_4]) (t:=49) ?hr ?_;(case hd => rfl);(case hg => rfl);(case hr => first | (go_simp;done) | (go_simp;rfl));intro gb215 hg w23 hbox hb;have n0_:=Aside0.mk (below_step (by repeat (first | (with_reducible first | exact HB.out | apply below_alloc | apply pw_below_drewN | apply below_drew1) | exact HB.out)) hb);have n1_:=Aside0.mk (hbox);have n2_:=Aside0.mk ((by rw [hg];exact (below_size (by repeat (first | (with_reducible first | exact HB.out | apply below_alloc | apply pw_below_drewN | apply below_drew1) | exact HB.out))) : w.heap.size ≤ gb215));have n3_:=Aside0.mk ((by rw [hg];exact (below_size (by repeat (first | (with_reducible first | exact HB.out | apply below_alloc | apply pw_below_drewN | apply below_drew1) | exact HB.out))) : w.heap.size ≤ gb215));clear HB;have HB:=n0_;have BK215:=n1_;have GW215:=n2_;have GE215:=n3_;clear n0_ n1_ n2_ n3_;clear hb hbox hg;have hcz24_0 : w23.cell? ⟨gb215,0,none⟩ = some (.string a0_0):=(blk_cell BK215.out 0).trans rfl;have hcz24_1 : w23.cell? ⟨gb215,1,none⟩ = some (.int .i64 a0_1):=(blk_cell BK215.out 1).trans rfl;have hcz24_2 : w23.cell? ⟨gb215,2,none⟩ = some (.int .i64 a0_2):=(blk_cell BK215.out 2).trans rfl;have hcz24_3 : w23.cell? ⟨gb215,3,none⟩ = some (.int .u64 a0_3):=(blk_cell BK215.out 3).trans rfl;have hcz24_4 : w23.cell? ⟨gb215,4,none⟩ = some (.bool a0_4):=(blk_cell BK215.out 4).trans rfl;have hfz24_0:=blk_frozen BK215.out 0;have hfz24_1:=blk_frozen BK215.out 1;have hfz24_2:=blk_frozen BK215.out 2;have hfz24_3:=blk_frozen BK215.out 3;have hfz24_4:=blk_frozen BK215.out 4))
  go_ret
  exact ⟨by first | rfl | (simp [errW_none,errW_some] <;> rfl) | (simp [*,errW_none,errW_some] <;> rfl) | (simp [errW_none,errW_some];exact isEmpty_bne _),by repeat (first | (with_reducible first | exact HB.out | apply below_alloc | apply pw_below_drewN | apply below_drew1 | refine below_set ?_ GE215.out) | exact HB.out)⟩

/-! ### thwartref01_Text: function 51 -/
def thwartref01_Text.f (k : Nat) (a0 : ByteArray) : Option ByteArray := if a0.size ≤ 4611686018427387904 then (thwartref01_Put.f k a0.size).bind fun t => (if t.size + a0.size ≤ 9223372036854775807 then some (t ++ a0) else none) else none
theorem thwartref01_Text.mono : ∀ a0 k, LeO (thwartref01_Text.f k a0) (thwartref01_Text.f (k + 1) a0) := by
  intro a0 k
  unfold thwartref01_Text.f
  refine LeO.ite (LeO.bind (thwartref01_Put.mono _ _) (fun _ => LeO.refl _)) (LeO.refl _)
set_option maxHeartbeats 400000 in
theorem thwartref01_Text.calls (k : Nat) (a0 : ByteArray) (r : ByteArray) (w : World) (h : thwartref01_Text.f k a0 = some r) :
    Calls Try.prog 51 #[.string a0] w fun e w' => e = .returned (.string r) ∧ Below w.heap.size w w' := by
  unfold thwartref01_Text.f at h
  by_cases hz : a0.size ≤ 4611686018427387904
  case neg => rw [if_neg hz] at h; exact absurd h (by simp)
  rw [if_pos hz] at h
  obtain ⟨t, h1, h2⟩ := Option.bind_eq_some_iff.mp h
  clear h
  by_cases hs : t.size + a0.size ≤ 9223372036854775807
  case neg => rw [if_neg hs] at h2; exact absurd h2 (by simp)
  rw [if_pos hs] at h2
  have HR := Aside0.mk (Option.some.inj h2)
  have H1 := Aside0.mk h1
  have HS := Aside0.mk hs
  clear h1 h2 hs
  go_enter Try.func51, Try.ntmps51
  go_wp2_with fail
  refine (thwartref01_Put.calls k (a0.size : Int) t _ H1.out).mono ?_
  rintro e w1 ⟨rfl, hb⟩
  have hd0 := eq_true HS.out
  have hd : decide (t.size + a0.size ≤ 9223372036854775807) = true := decide_eq_true HS.out
  have hd2 : (9223372036854775807 < t.size + a0.size) = False := eq_false (Nat.not_lt.2 HS.out)
  go_wp2
  go_ret
  exact ⟨by rw [HR.out]; rfl, hb⟩

/-! ### thwartref05_one: function 29 -/
def thwartref05_one.j0 : Nat → Int → ByteArray → Int → Int → Int → Bool → Option (ByteArray)
 | 0,_,_,_,_,_,_ => none
 | k + 1,x3,x217000,x217001,x217002,x217003,x217004 => (thwartref01_Text.f k x217000).bind fun t217 => ((thwartref01_Put.f k (IntKind.u64.wrap (x217001))).bind fun t218 => (if t217.size + t218.size ≤ 9223372036854775807 then ((thwartref01_Put.f k x3).bind fun t219 => (if t217.size + t218.size + t219.size ≤ 9223372036854775807 then ((thwartref01_Put.f k x217003).bind fun t220 => (if t217.size + t218.size + t219.size + t220.size ≤ 9223372036854775807 then (some (((t217 ++ t218) ++ t219) ++ t220)) else (none))) else (none))) else (none)))
def thwartref05_one.f (k : Nat) (a0_0 : ByteArray) (a0_1 : Int) (a0_2 : Int) (a0_3 : Int) (a0_4 : Bool) : Option (ByteArray):=if a0_4 = true then (thwartref05_one.j0 k (IntKind.u64.wrap ((IntKind.u64.wrap (2 * (IntKind.u64.wrap (a0_2)))) + 1)) a0_0 a0_1 a0_2 a0_3 a0_4) else (thwartref05_one.j0 k (IntKind.u64.wrap (2 * (IntKind.u64.wrap (a0_2)))) a0_0 a0_1 a0_2 a0_3 a0_4)
theorem thwartref05_one.mono_l : ∀ k,(∀ y0 y1 y2 y3 y4 y5,LeO (thwartref05_one.j0 k y0 y1 y2 y3 y4 y5) (thwartref05_one.j0 (k + 1) y0 y1 y2 y3 y4 y5))
 | 0 => fun _ _ _ _ _ _ r h => by simp [thwartref05_one.j0] at h
 | k + 1 => by
  have ih0:=thwartref05_one.mono_l k
  ·intro y0 y1 y2 y3 y4 y5
   unfold thwartref05_one.j0
   repeat' first
   | (with_reducible exact ih0 _ _ _ _ _ _)
   | (with_reducible exact thwartref01_Put.mono _ _)
   | (with_reducible exact thwartref01_Text.mono _ _)
   | (with_reducible exact LeO.refl _)
   | (with_reducible exact LeO.none _)
   | (with_reducible refine LeO.ite ?_ ?_)
   | (with_reducible refine LeO.bind ?_ (fun _ => ?_))
   | exact ih0 _ _ _ _ _ _
   | exact thwartref01_Put.mono _ _
   | exact thwartref01_Text.mono _ _
   | exact LeO.none _
   | refine LeO.ite ?_ ?_
   | refine LeO.bind ?_ (fun _ => ?_)
theorem thwartref05_one.mono : ∀ a0 a1 a2 a3 a4 k,LeO (thwartref05_one.f k a0 a1 a2 a3 a4) (thwartref05_one.f (k + 1) a0 a1 a2 a3 a4):=by
 intro a0 a1 a2 a3 a4 k
 have ih0:=thwartref05_one.mono_l k
 unfold thwartref05_one.f
 repeat' first
   | (with_reducible exact ih0 _ _ _ _ _ _)
   | (with_reducible exact thwartref01_Put.mono _ _)
   | (with_reducible exact thwartref01_Text.mono _ _)
   | (with_reducible exact LeO.refl _)
   | (with_reducible exact LeO.none _)
   | (with_reducible refine LeO.ite ?_ ?_)
   | (with_reducible refine LeO.bind ?_ (fun _ => ?_))
   | exact ih0 _ _ _ _ _ _
   | exact thwartref01_Put.mono _ _
   | exact thwartref01_Text.mono _ _
   | exact LeO.none _
   | refine LeO.ite ?_ ?_
   | refine LeO.bind ?_ (fun _ => ?_)
def thwartref05_one.T4 : Bool × List (List Nat × List Nat):=(true,[([],[]),([0],[0]),([1],[1]),([],[]),([3],[3]),([4],[4]),([5,2],[5]),([2,6],[2,6]),([],[]),([8,6],[8]),([7,9],[7,9]),([],[]),([11],[11]),([12,9],[12]),([10,13],[10,13]),([14,13,0,1,2,3,4,5,6,7,8,9,10,11,12,13,14],[14])])
def thwartref05_one.B4 : List Nat:=[0,1,3,0,8,24,63,127,0,383,1023,0,2048,7039,16383,32767]
theorem thwartref05_one.tab4 : rtab .any (opsOf Try.f29 4) = thwartref05_one.T4:=by kernel_rfl
theorem thwartref05_one.bits4 : waitsOk thwartref05_one.T4.2 thwartref05_one.B4 = true:=by kernel_rfl
set_option maxHeartbeats 8000000 in
set_option maxRecDepth 100000 in
theorem thwartref05_one.calls (k : Nat) (a0_0 : ByteArray) (a0_1 : Int) (a0_2 : Int) (a0_3 : Int) (a0_4 : Bool) (r : ByteArray) (w : World) (h : thwartref05_one.f k a0_0 a0_1 a0_2 a0_3 a0_4 = some r) :
  Calls Try.prog 29 #[.agg #[.string a0_0,.int .i64 a0_1,.int .i64 a0_2,.int .u64 a0_3,.bool a0_4]] w fun e w' => e = .returned (.string r) ∧ Below w.heap.size w w' := by
 have hu49:=Try.underlying49
 have HB:=Aside0.mk (Below.refl w.heap.size w)
 have H : (if a0_4 = true then (thwartref05_one.j0 k (IntKind.u64.wrap ((IntKind.u64.wrap (2 * (IntKind.u64.wrap (a0_2)))) + 1)) a0_0 a0_1 a0_2 a0_3 a0_4) else (thwartref05_one.j0 k (IntKind.u64.wrap (2 * (IntKind.u64.wrap (a0_2)))) a0_0 a0_1 a0_2 a0_3 a0_4)) = some r:=h
 clear h
 have HC2:=Aside0.mk H
 clear H
 go_enter Try.func29,Try.ntmps29
 go_upto_if 9 with (first | ((with_reducible refine gate_dst (N:=1) rfl ?_);refine box_event ?hg (N:=1) ?hd (cs := #[.string a0_0,.int .i64 a0_1,.int .i64 a0_2,.int .u64 a0_3,.bool a0_4]) (t:=49) ?hr ?_;(case hd => rfl);(case hg => rfl);(case hr => first | (go_simp;done) | (go_simp;rfl));intro gb216 hg w3 hbox hb;have n0_:=Aside0.mk (below_step (by repeat (first | (with_reducible first | exact HB.out | apply below_alloc | apply pw_below_drewN | apply below_drew1) | exact HB.out)) hb);have n1_:=Aside0.mk (hbox);have n2_:=Aside0.mk ((by rw [hg];exact (below_size (by repeat (first | (with_reducible first | exact HB.out | apply below_alloc | apply pw_below_drewN | apply below_drew1) | exact HB.out))) : w.heap.size ≤ gb216));have n3_:=Aside0.mk ((by rw [hg];exact (below_size (by repeat (first | (with_reducible first | exact HB.out | apply below_alloc | apply pw_below_drewN | apply below_drew1) | exact HB.out))) : w.heap.size ≤ gb216));clear HB;have HB:=n0_;have BK216:=n1_;have GW216:=n2_;have GE216:=n3_;clear n0_ n1_ n2_ n3_;clear hb hbox hg;have hcz4_0 : w3.cell? ⟨gb216,0,none⟩ = some (.string a0_0):=(blk_cell BK216.out 0).trans rfl;have hcz4_1 : w3.cell? ⟨gb216,1,none⟩ = some (.int .i64 a0_1):=(blk_cell BK216.out 1).trans rfl;have hcz4_2 : w3.cell? ⟨gb216,2,none⟩ = some (.int .i64 a0_2):=(blk_cell BK216.out 2).trans rfl;have hcz4_3 : w3.cell? ⟨gb216,3,none⟩ = some (.int .u64 a0_3):=(blk_cell BK216.out 3).trans rfl;have hcz4_4 : w3.cell? ⟨gb216,4,none⟩ = some (.bool a0_4):=(blk_cell BK216.out 4).trans rfl;have hfz4_0:=blk_frozen BK216.out 0;have hfz4_1:=blk_frozen BK216.out 1;have hfz4_2:=blk_frozen BK216.out 2;have hfz4_3:=blk_frozen BK216.out 3;have hfz4_4:=blk_frozen BK216.out 4))
 (try simp only [Act.put,List.setIfInBounds_toArray,List.set_cons_zero,List.set_cons_succ])
 go_cut [3] (fun v3 wc => ∃ (kq : Nat) (x3_1 : Int),v3 = .int .u64 x3_1 ∧ Aside0 (thwartref05_one.j0 kq x3_1 a0_0 a0_1 a0_2 a0_3 a0_4 = some r) ∧ Aside0 (kq ≤ k) ∧ Aside0 (wc.heap[gb216]? = some (.cells #[.string a0_0,.int .i64 a0_1,.int .i64 a0_2,.int .u64 a0_3,.bool a0_4] 49 (0,0))) ∧ Aside0 (Below w.heap.size w wc))
 case first =>
  have H:=HC2.out
  clear HC2
  by_cases c5 : a0_4 = true
  ·subst c5
   have H1 : (thwartref05_one.j0 k (IntKind.u64.wrap ((IntKind.u64.wrap (2 * (IntKind.u64.wrap (a0_2)))) + 1)) a0_0 a0_1 a0_2 a0_3 true) = some r:=by rw [if_pos rfl] at H;exact H
   clear H
   have H:=H1
   clear H1
   have H' := Aside0.mk H
   clear H
   go_wp2
   go_meet
   case rel => exact ⟨_,(IntKind.u64.wrap ((IntKind.u64.wrap (2 * (IntKind.u64.wrap (a0_2)))) + 1)),(by first | rfl | (simp;done) | (simp [*];done)),H',⟨by first | omega | exact Nat.le_refl _⟩,⟨by (with_reducible repeat (first | refine blk_drewN ?_ _ | refine blk_drew ?_ | refine blk_alloc ?_ _));exact BK216.out⟩,⟨by repeat (first | (with_reducible first | exact HB.out | apply below_alloc | apply pw_below_drewN | apply below_drew1 | refine below_set ?_ GE216.out) | exact HB.out)⟩⟩
  ·replace c5:=Bool.eq_false_iff.mpr c5
   subst c5
   have H1 : (thwartref05_one.j0 k (IntKind.u64.wrap (2 * (IntKind.u64.wrap (a0_2)))) a0_0 a0_1 a0_2 a0_3 false) = some r:=by rw [if_neg (show ¬ (false = true) by decide)] at H;exact H
   clear H
   have H:=H1
   clear H1
   have H' := Aside0.mk H
   clear H
   go_wp2
   go_meet
   case rel => exact ⟨_,(IntKind.u64.wrap (2 * (IntKind.u64.wrap (a0_2)))),(by first | rfl | (simp;done) | (simp [*];done)),H',⟨by first | omega | exact Nat.le_refl _⟩,⟨by (with_reducible repeat (first | refine blk_drewN ?_ _ | refine blk_drew ?_ | refine blk_alloc ?_ _));exact BK216.out⟩,⟨by repeat (first | (with_reducible first | exact HB.out | apply below_alloc | apply pw_below_drewN | apply below_drew1 | refine below_set ?_ GE216.out) | exact HB.out)⟩⟩
 case rest =>
  clear HC2
  try clear c2
  try clear p2
  try clear c5
  try clear hcz4_0
  try clear hcz4_1
  try clear hcz4_2
  try clear hcz4_3
  try clear hcz4_4
  try clear hfz4_0
  try clear hfz4_1
  try clear hfz4_2
  try clear hfz4_3
  try clear hfz4_4
  obtain ⟨kq,x3_1,rfl,HA,HJ1,BK216,HB⟩:=hcut
  cases kq with
  | zero => exact absurd HA.out (by simp [thwartref05_one.j0])
  | succ kj1 =>
   have H:=HA.out
   clear HA
   simp only [thwartref05_one.j0] at H
   replace H:=Option.bind_eq_some_iff.mp H
   obtain ⟨t217,A60,H⟩:=H
   replace H : ((thwartref01_Put.f kj1 (IntKind.u64.wrap (a0_1))).bind fun t218 => (if t217.size + t218.size ≤ 9223372036854775807 then ((thwartref01_Put.f kj1 x3_1).bind fun t219 => (if t217.size + t218.size + t219.size ≤ 9223372036854775807 then ((thwartref01_Put.f kj1 a0_3).bind fun t220 => (if t217.size + t218.size + t219.size + t220.size ≤ 9223372036854775807 then (some (((t217 ++ t218) ++ t219) ++ t220)) else (none))) else (none))) else (none))) = some r:=H
   have A6:=Aside0.mk A60
   clear A60
   replace H:=Option.bind_eq_some_iff.mp H
   obtain ⟨t218,A70,H⟩:=H
   replace H : (if t217.size + t218.size ≤ 9223372036854775807 then ((thwartref01_Put.f kj1 x3_1).bind fun t219 => (if t217.size + t218.size + t219.size ≤ 9223372036854775807 then ((thwartref01_Put.f kj1 a0_3).bind fun t220 => (if t217.size + t218.size + t219.size + t220.size ≤ 9223372036854775807 then (some (((t217 ++ t218) ++ t219) ++ t220)) else (none))) else (none))) else (none)) = some r:=H
   have A7:=Aside0.mk A70
   clear A70
   by_cases c8 : t217.size + t218.size ≤ 9223372036854775807
   ·rw [if_pos c8] at H
    have c8b0:=eq_true c8
    have c8b1 : decide (t217.size + t218.size ≤ 9223372036854775807) = true:=decide_eq_true c8
    try have c8b2 : (9223372036854775807 < t217.size + t218.size) = False:=eq_false (Nat.not_lt.2 c8)
    replace H:=Option.bind_eq_some_iff.mp H
    obtain ⟨t219,A90,H⟩:=H
    replace H : (if t217.size + t218.size + t219.size ≤ 9223372036854775807 then ((thwartref01_Put.f kj1 a0_3).bind fun t220 => (if t217.size + t218.size + t219.size + t220.size ≤ 9223372036854775807 then (some (((t217 ++ t218) ++ t219) ++ t220)) else (none))) else (none)) = some r:=H
    have A9:=Aside0.mk A90
    clear A90
    by_cases c10 : t217.size + t218.size + t219.size ≤ 9223372036854775807
    ·rw [if_pos c10] at H
     have c10b0:=eq_true c10
     have c10b1 : decide (t217.size + t218.size + t219.size ≤ 9223372036854775807) = true:=decide_eq_true c10
     try have c10b2 : (9223372036854775807 < t217.size + t218.size + t219.size) = False:=eq_false (Nat.not_lt.2 c10)
     replace H:=Option.bind_eq_some_iff.mp H
     obtain ⟨t220,A110,H⟩:=H
     replace H : (if t217.size + t218.size + t219.size + t220.size ≤ 9223372036854775807 then (some (((t217 ++ t218) ++ t219) ++ t220)) else (none)) = some r:=H
     have A11:=Aside0.mk A110
     clear A110
     by_cases c12 : t217.size + t218.size + t219.size + t220.size ≤ 9223372036854775807
     ·rw [if_pos c12] at H
      have c12b0:=eq_true c12
      have c12b1 : decide (t217.size + t218.size + t219.size + t220.size ≤ 9223372036854775807) = true:=decide_eq_true c12
      try have c12b2 : (9223372036854775807 < t217.size + t218.size + t219.size + t220.size) = False:=eq_false (Nat.not_lt.2 c12)
      obtain rfl:=Option.some.inj H
      try go_wp2
      have n0_:=Aside0.mk (blk_drew BK216.out)
      have n1_:=Aside0.mk (below_drew1 HB.out)
      clear BK216
      clear HB
      have BK216:=n0_
      have HB:=n1_
      clear n0_ n1_
      refine start_ (n:=16) (S:=fun w' => w'.cell? ⟨gb216,0,none⟩ = some (.string a0_0) ∧ w'.cell? ⟨gb216,1,none⟩ = some (.int .i64 a0_1) ∧ w'.cell? ⟨gb216,2,none⟩ = some (.int .i64 a0_2) ∧ w'.cell? ⟨gb216,3,none⟩ = some (.int .u64 a0_3) ∧ w'.cell? ⟨gb216,4,none⟩ = some (.bool a0_4)) (ds:=[]) #[false,false,false,false,false,false,false,false,false,false,false,false,false,false,false,false] (by kernel_rfl) rfl rfl ⟨(blk_cell BK216.out 0).trans rfl,(blk_cell BK216.out 1).trans rfl,(blk_cell BK216.out 2).trans rfl,(blk_cell BK216.out 3).trans rfl,(blk_cell BK216.out 4).trans rfl⟩ (fun hHeld => ?_);refine with_tabW thwartref05_one.tab4 thwartref05_one.bits4 (fun HT_ HW_ => ?_)
      generalize wc.drew = w13 at BK216 HB hHeld ⊢
      refine pure_ (i:=0) (N:=some 12) (v := ?_) (a' := ?_) #[true,false,false,false,false,false,false,false,false,false,false,false,false,false,false,false] rfl rfl (any_of HT_.out (by kernel_rfl)) (fun _ _ _ h => h) (Or.inl ⟨by rfl,?_⟩) ?_ ?_
      rotate_left
      ·intro w'
       go_simp
       with_reducible rfl
      rotate_left
      ·simp only [Act.put,List.setIfInBounds_toArray,List.set_cons_zero,List.set_cons_succ,i64_w,i32_w]
       rfl
      refine pure_ (i:=3) (N:=some 15) (v := ?_) (a' := ?_) #[true,false,false,true,false,false,false,false,false,false,false,false,false,false,false,false] rfl rfl (any_of HT_.out (by kernel_rfl)) (fun _ _ _ h => h) (Or.inl ⟨by rfl,?_⟩) ?_ ?_
      rotate_left
      ·intro w'
       go_simp
       with_reducible rfl
      rotate_left
      ·simp only [Act.put,List.setIfInBounds_toArray,List.set_cons_zero,List.set_cons_succ,i64_w,i32_w]
       rfl
      refine pure_ (i:=8) (N:=some 20) (v := ?_) (a' := ?_) #[true,false,false,true,false,false,false,false,true,false,false,false,false,false,false,false] rfl rfl (any_of HT_.out (by kernel_rfl)) (fun _ _ _ h => h) (Or.inl ⟨by rfl,?_⟩) ?_ ?_
      rotate_left
      ·intro w'
       go_simp
       with_reducible rfl
      rotate_left
      ·simp only [Act.put,List.setIfInBounds_toArray,List.set_cons_zero,List.set_cons_succ,i64_w,i32_w]
       rfl
      refine pure_ (i:=11) (N:=some 23) (v := ?_) (a' := ?_) #[true,false,false,true,false,false,false,false,true,false,false,true,false,false,false,false] rfl rfl (any_of HT_.out (by kernel_rfl)) (fun _ _ _ h => h) (Or.inl ⟨by rfl,?_⟩) ?_ ?_
      rotate_left
      ·intro w'
       go_simp
       with_reducible rfl
      rotate_left
      ·simp only [Act.put,List.setIfInBounds_toArray,List.set_cons_zero,List.set_cons_succ,i64_w,i32_w]
       rfl
      refine take_ (i:=1) (N:=some 13) (v := ?_) (a' := ?_) #[true,true,false,true,false,false,false,false,true,false,false,true,false,false,false,false] rfl rfl (take_ofW HT_.out HW_.out (by kernel_rfl)) (fun _ _ _ h => h) (Or.inl ⟨by rfl,?_⟩) hHeld ?_ ?_
      rotate_left
      ·rintro w' ⟨s0,s1,s2,s3,s4⟩
       go_simp
       with_reducible rfl
      rotate_left
      ·simp only [Act.put,List.setIfInBounds_toArray,List.set_cons_zero,List.set_cons_succ,i64_w,i32_w]
       rfl
      refine take_ (i:=4) (N:=some 16) (v := ?_) (a' := ?_) #[true,true,false,true,true,false,false,false,true,false,false,true,false,false,false,false] rfl rfl (take_ofW HT_.out HW_.out (by kernel_rfl)) (fun _ _ _ h => h) (Or.inl ⟨by rfl,?_⟩) hHeld ?_ ?_
      rotate_left
      ·rintro w' ⟨s0,s1,s2,s3,s4⟩
       go_simp
       with_reducible rfl
      rotate_left
      ·simp only [Act.put,List.setIfInBounds_toArray,List.set_cons_zero,List.set_cons_succ,i64_w,i32_w]
       rfl
      refine pure_ (i:=5) (N:=some 17) (v := ?_) (a' := ?_) #[true,true,false,true,true,true,false,false,true,false,false,true,false,false,false,false] rfl rfl (any_of HT_.out (by kernel_rfl)) (fun _ _ _ h => h) (Or.inl ⟨by rfl,?_⟩) ?_ ?_
      rotate_left
      ·intro w'
       go_simp
       with_reducible rfl
      rotate_left
      ·simp only [Act.put,List.setIfInBounds_toArray,List.set_cons_zero,List.set_cons_succ,i64_w,i32_w]
       rfl
      refine take_ (i:=12) (N:=some 24) (v := ?_) (a' := ?_) #[true,true,false,true,true,true,false,false,true,false,false,true,true,false,false,false] rfl rfl (take_ofW HT_.out HW_.out (by kernel_rfl)) (fun _ _ _ h => h) (Or.inl ⟨by rfl,?_⟩) hHeld ?_ ?_
      rotate_left
      ·rintro w' ⟨s0,s1,s2,s3,s4⟩
       go_simp
       with_reducible rfl
      rotate_left
      ·simp only [Act.put,List.setIfInBounds_toArray,List.set_cons_zero,List.set_cons_succ,i64_w,i32_w]
       rfl
      refine one_ (i:=2) (N:=some 14) #[true,true,true,true,true,true,false,false,true,false,false,true,true,false,false,false] rfl rfl (one_of HT_.out (by kernel_rfl)) (by decide) (fun K hK => ?_)
      refine goes_ Try.func51 (by kernel_rfl) rfl #[.string a0_0] (by rfl) rfl rfl (by (try simp only [List.map_toArray,List.map_cons,List.map_nil]);first | done | rfl | (simp only [List.length_drop,List.length_take];rfl)) ?_
      with_reducible refine (thwartref01_Text.calls kj1 a0_0 t217 _ A6.out).mono ?_
      rintro e w14 ⟨rfl,hb⟩
      refine ⟨_,rfl,?_⟩
      have n0_:=Aside0.mk (blk_below (g:=gb216) (o := .cells #[.string a0_0,.int .i64 a0_1,.int .i64 a0_2,.int .u64 a0_3,.bool a0_4] 49 (0,0)) (by (with_reducible repeat (first | refine blk_drewN ?_ _ | refine blk_drew ?_ | refine blk_alloc ?_ _));exact BK216.out) hb)
      have n1_:=Aside0.mk (below_step (by repeat (first | (with_reducible first | exact HB.out | apply below_alloc | apply pw_below_drewN | apply below_drew1 | refine below_set ?_ GE216.out) | exact HB.out)) hb)
      clear BK216
      clear HB
      have BK216:=n0_
      have HB:=n1_
      clear n0_ n1_
      (try clear hb)
      (try clear hb2)
      (try clear hk)
      (try clear hi)
      refine hK.out _ _ ⟨(blk_cell BK216.out 0).trans rfl,(blk_cell BK216.out 1).trans rfl,(blk_cell BK216.out 2).trans rfl,(blk_cell BK216.out 3).trans rfl,(blk_cell BK216.out 4).trans rfl⟩ (fun hHeld => ?_)
      clear hK K
      refine norm_ (a' := ?_) ?_ ?_
      rotate_left
      ·show Act.put _ (some 14) _ = _
       simp only [Act.put,List.setIfInBounds_toArray,List.set_cons_zero,List.set_cons_succ,i64_w,i32_w]
       rfl
      refine one_ (i:=6) (N:=some 18) #[true,true,true,true,true,true,true,false,true,false,false,true,true,false,false,false] rfl rfl (one_of HT_.out (by kernel_rfl)) (by decide) (fun K hK => ?_)
      refine goes_ Try.func27 (by kernel_rfl) rfl #[.int .u64 (IntKind.u64.wrap (a0_1))] (by rfl) rfl rfl (by (try simp only [List.map_toArray,List.map_cons,List.map_nil]);first | done | rfl | (simp only [List.length_drop,List.length_take];rfl)) ?_
      with_reducible refine (thwartref01_Put.calls kj1 (IntKind.u64.wrap (a0_1)) t218 _ A7.out).mono ?_
      rintro e w15 ⟨rfl,hb⟩
      refine ⟨_,rfl,?_⟩
      have n0_:=Aside0.mk (blk_below (g:=gb216) (o := .cells #[.string a0_0,.int .i64 a0_1,.int .i64 a0_2,.int .u64 a0_3,.bool a0_4] 49 (0,0)) (by (with_reducible repeat (first | refine blk_drewN ?_ _ | refine blk_drew ?_ | refine blk_alloc ?_ _));exact BK216.out) hb)
      have n1_:=Aside0.mk (below_step (by repeat (first | (with_reducible first | exact HB.out | apply below_alloc | apply pw_below_drewN | apply below_drew1 | refine below_set ?_ GE216.out) | exact HB.out)) hb)
      clear BK216
      clear HB
      have BK216:=n0_
      have HB:=n1_
      clear n0_ n1_
      (try clear hb)
      (try clear hb2)
      (try clear hk)
      (try clear hi)
      refine hK.out _ _ ⟨(blk_cell BK216.out 0).trans rfl,(blk_cell BK216.out 1).trans rfl,(blk_cell BK216.out 2).trans rfl,(blk_cell BK216.out 3).trans rfl,(blk_cell BK216.out 4).trans rfl⟩ (fun hHeld => ?_)
      clear hK K
      refine norm_ (a' := ?_) ?_ ?_
      rotate_left
      ·show Act.put _ (some 18) _ = _
       simp only [Act.put,List.setIfInBounds_toArray,List.set_cons_zero,List.set_cons_succ,i64_w,i32_w]
       rfl
      refine pure_ (i:=7) (N:=some 19) (v := ?_) (a' := ?_) #[true,true,true,true,true,true,true,true,true,false,false,true,true,false,false,false] rfl rfl (any_of HT_.out (by kernel_rfl)) (fun _ _ _ h => h) (Or.inl ⟨by rfl,?_⟩) ?_ ?_
      rotate_left
      ·intro w'
       go_simp
       with_reducible rfl
      rotate_left
      ·simp only [Act.put,List.setIfInBounds_toArray,List.set_cons_zero,List.set_cons_succ,i64_w,i32_w]
       rfl
      refine one_ (i:=9) (N:=some 21) #[true,true,true,true,true,true,true,true,true,true,false,true,true,false,false,false] rfl rfl (one_of HT_.out (by kernel_rfl)) (by decide) (fun K hK => ?_)
      refine goes_ Try.func27 (by kernel_rfl) rfl #[.int .u64 x3_1] (by rfl) rfl rfl (by (try simp only [List.map_toArray,List.map_cons,List.map_nil]);first | done | rfl | (simp only [List.length_drop,List.length_take];rfl)) ?_
      with_reducible refine (thwartref01_Put.calls kj1 x3_1 t219 _ A9.out).mono ?_
      rintro e w16 ⟨rfl,hb⟩
      refine ⟨_,rfl,?_⟩
      have n0_:=Aside0.mk (blk_below (g:=gb216) (o := .cells #[.string a0_0,.int .i64 a0_1,.int .i64 a0_2,.int .u64 a0_3,.bool a0_4] 49 (0,0)) (by (with_reducible repeat (first | refine blk_drewN ?_ _ | refine blk_drew ?_ | refine blk_alloc ?_ _));exact BK216.out) hb)
      have n1_:=Aside0.mk (below_step (by repeat (first | (with_reducible first | exact HB.out | apply below_alloc | apply pw_below_drewN | apply below_drew1 | refine below_set ?_ GE216.out) | exact HB.out)) hb)
      clear BK216
      clear HB
      have BK216:=n0_
      have HB:=n1_
      clear n0_ n1_
      (try clear hb)
      (try clear hb2)
      (try clear hk)
      (try clear hi)
      refine hK.out _ _ ⟨(blk_cell BK216.out 0).trans rfl,(blk_cell BK216.out 1).trans rfl,(blk_cell BK216.out 2).trans rfl,(blk_cell BK216.out 3).trans rfl,(blk_cell BK216.out 4).trans rfl⟩ (fun hHeld => ?_)
      clear hK K
      refine norm_ (a' := ?_) ?_ ?_
      rotate_left
      ·show Act.put _ (some 21) _ = _
       simp only [Act.put,List.setIfInBounds_toArray,List.set_cons_zero,List.set_cons_succ,i64_w,i32_w]
       rfl
      refine pure_ (i:=10) (N:=some 22) (v := ?_) (a' := ?_) #[true,true,true,true,true,true,true,true,true,true,true,true,true,false,false,false] rfl rfl (any_of HT_.out (by kernel_rfl)) (fun _ _ _ h => h) (Or.inl ⟨by rfl,?_⟩) ?_ ?_
      rotate_left
      ·intro w'
       go_simp
       with_reducible rfl
      rotate_left
      ·simp only [Act.put,List.setIfInBounds_toArray,List.set_cons_zero,List.set_cons_succ,i64_w,i32_w]
       rfl
      refine one_ (i:=13) (N:=some 25) #[true,true,true,true,true,true,true,true,true,true,true,true,true,true,false,false] rfl rfl (one_of HT_.out (by kernel_rfl)) (by decide) (fun K hK => ?_)
      refine goes_ Try.func27 (by kernel_rfl) rfl #[.int .u64 a0_3] (by rfl) rfl rfl (by (try simp only [List.map_toArray,List.map_cons,List.map_nil]);first | done | rfl | (simp only [List.length_drop,List.length_take];rfl)) ?_
      with_reducible refine (thwartref01_Put.calls kj1 a0_3 t220 _ A11.out).mono ?_
      rintro e w17 ⟨rfl,hb⟩
      refine ⟨_,rfl,?_⟩
      have n0_:=Aside0.mk (blk_below (g:=gb216) (o := .cells #[.string a0_0,.int .i64 a0_1,.int .i64 a0_2,.int .u64 a0_3,.bool a0_4] 49 (0,0)) (by (with_reducible repeat (first | refine blk_drewN ?_ _ | refine blk_drew ?_ | refine blk_alloc ?_ _));exact BK216.out) hb)
      have n1_:=Aside0.mk (below_step (by repeat (first | (with_reducible first | exact HB.out | apply below_alloc | apply pw_below_drewN | apply below_drew1 | refine below_set ?_ GE216.out) | exact HB.out)) hb)
      clear BK216
      clear HB
      have BK216:=n0_
      have HB:=n1_
      clear n0_ n1_
      (try clear hb)
      (try clear hb2)
      (try clear hk)
      (try clear hi)
      refine hK.out _ _ ⟨(blk_cell BK216.out 0).trans rfl,(blk_cell BK216.out 1).trans rfl,(blk_cell BK216.out 2).trans rfl,(blk_cell BK216.out 3).trans rfl,(blk_cell BK216.out 4).trans rfl⟩ (fun hHeld => ?_)
      clear hK K
      refine norm_ (a' := ?_) ?_ ?_
      rotate_left
      ·show Act.put _ (some 25) _ = _
       simp only [Act.put,List.setIfInBounds_toArray,List.set_cons_zero,List.set_cons_succ,i64_w,i32_w]
       rfl
      refine pure_ (i:=14) (N:=some 26) (v := ?_) (a' := ?_) #[true,true,true,true,true,true,true,true,true,true,true,true,true,true,true,false] rfl rfl (any_of HT_.out (by kernel_rfl)) (fun _ _ _ h => h) (Or.inl ⟨by rfl,?_⟩) ?_ ?_
      rotate_left
      ·intro w'
       go_simp
       with_reducible rfl
      rotate_left
      ·simp only [Act.put,List.setIfInBounds_toArray,List.set_cons_zero,List.set_cons_succ,i64_w,i32_w]
       rfl
      refine pure_ (i:=15) (N:=some 2) (v := ?_) (a' := ?_) #[true,true,true,true,true,true,true,true,true,true,true,true,true,true,true,true] rfl rfl (any_of HT_.out (by kernel_rfl)) (fun _ _ _ h => h) (Or.inl ⟨by rfl,?_⟩) ?_ ?_
      rotate_left
      ·intro w'
       go_simp
       with_reducible rfl
      rotate_left
      ·simp only [Act.put,List.setIfInBounds_toArray,List.set_cons_zero,List.set_cons_succ,i64_w,i32_w]
       rfl
      refine done_ (done_of HT_.out (by kernel_rfl)) ?_
      try go_wp2
      go_ret
      exact ⟨by first | rfl | (simp [errW_none,errW_some] <;> rfl) | (simp [*,errW_none,errW_some] <;> rfl) | (simp [errW_none,errW_some];exact isEmpty_bne _),by repeat (first | (with_reducible first | exact HB.out | apply below_alloc | apply pw_below_drewN | apply below_drew1 | refine below_set ?_ GE216.out) | exact HB.out)⟩
     ·rw [if_neg c12] at H
      exact absurd H (by simp)
    ·rw [if_neg c10] at H
     exact absurd H (by simp)
   ·rw [if_neg c8] at H
    exact absurd H (by simp)

/-! ### thwartref02_step: function 61 -/
def thwartref02_step.f (a0 : Int) : Option (Int):=if (Int.tmod a0 2) = 1 then (some (Go.bits .xor .u32 ((Int.tdiv a0 2) % 4294967296) 2197175160)) else (some ((Int.tdiv a0 2) % 4294967296))
set_option maxHeartbeats 8000000 in
set_option maxRecDepth 100000 in
theorem thwartref02_step.calls (a0 : Int) (r : Int) (w : World) (h : thwartref02_step.f a0 = some r) :
  Calls Try.prog 61 #[.int .u32 a0] w fun e w' => e = .returned (.int .u32 r) ∧ Drawn0 w w' := by
 have H : (if (Int.tmod a0 2) = 1 then (some (Go.bits .xor .u32 ((Int.tdiv a0 2) % 4294967296) 2197175160)) else (some ((Int.tdiv a0 2) % 4294967296))) = some r:=h
 clear h
 by_cases c2 : (Int.tmod a0 2) = 1
 ·rw [if_pos c2] at H
  have c2b0 : ((Int.tmod a0 2) == 1) = true:=beq_iff_eq.mpr c2
  have c2b1 : ((Int.tmod a0 2) != 1) = false:=bne_eq_false_iff_eq.mpr c2
  clear c2
  obtain rfl:=Option.some.inj H
  go_enter Try.func61,Try.ntmps61
  go_wp2
  go_ret
  exact ⟨by first | rfl | (simp;done) | (simp [*];done),by repeat (first | exact Drawn0.refl _ | apply Drawn0.step)⟩
 ·rw [if_neg c2] at H
  have c2b0 : ((Int.tmod a0 2) == 1) = false:=beq_eq_false_iff_ne.mpr c2
  have c2b1 : ((Int.tmod a0 2) != 1) = true:=bne_iff_ne.mpr c2
  obtain rfl:=Option.some.inj H
  go_enter Try.func61,Try.ntmps61
  go_wp2
  go_ret
  exact ⟨by first | rfl | (simp;done) | (simp [*];done),by repeat (first | exact Drawn0.refl _ | apply Drawn0.step)⟩

end Go.Proofs.Ytdjkkceamldmjaa.Print
