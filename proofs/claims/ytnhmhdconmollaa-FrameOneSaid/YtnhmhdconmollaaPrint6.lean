/- Written by a program of mine (give.py, over the kit's print) out of the translation: contracts of the Go functions. Lean checks it. -/
import Derived.Test.YtnhmhdconmollaaPrint0
import Derived.Test.YtnhmhdconmollaaPrint5
namespace Go.Proofs.Ytnhmhdconmollaa.Print
open Go.RowKit Go.Proofs.YtnhmhdconmollaaW.PrintWords Go.Proofs.YtnhmhdconmollaaW.PrintLast Go.Proofs.YtnhmhdconmollaaW.PrintMore
attribute [local go_sem] max2_int min2_int max_two min_two max_three min_three max_four min_four   -- for this text's walks alone
set_option linter.unusedVariables false
set_option linter.unusedSimpArgs false

/-! ### thwartref01_Put: function 34 -/
def thwartref01_Put.f : Nat → Int → Option (ByteArray)
 | 0,_ => none
 | k + 1,a0 => if a0 < 128 then (some (strOfNums (([(a0) % 256] : List Int)))) else ((some (([(IntKind.u64.wrap (128 + (Int.tmod a0 128))) % 256] : List Int) : List Int)).bind fun y175 => ((thwartref01_Put.f k (IntKind.u64.wrap (Int.tdiv a0 128))).bind fun t178 => (if (strOfNums y175).size + t178.size ≤ 9223372036854775807 then (some ((strOfNums y175) ++ t178)) else (none))))
theorem thwartref01_Put.mono_l : ∀ k,(∀ y0,LeO (thwartref01_Put.f k y0) (thwartref01_Put.f (k + 1) y0))
 | 0 => fun _ r h => by simp [thwartref01_Put.f] at h
 | k + 1 => by
  have ih0:=thwartref01_Put.mono_l k
  ·intro y0
   unfold thwartref01_Put.f
   repeat' first
   | (with_reducible exact ih0 _)
   | (with_reducible exact LeO.refl _)
   | (with_reducible exact LeO.none _)
   | (with_reducible refine LeO.ite ?_ ?_)
   | (with_reducible refine LeO.bind ?_ (fun _ => ?_))
   | exact ih0 _
   | exact LeO.none _
   | refine LeO.ite ?_ ?_
   | refine LeO.bind ?_ (fun _ => ?_)
theorem thwartref01_Put.mono : ∀ a0 k,LeO (thwartref01_Put.f k a0) (thwartref01_Put.f (k + 1) a0):=by
 intro a0 k
 have ih0:=thwartref01_Put.mono_l k
 exact ih0 a0
def thwartref01_Put.T3 : Bool × List (List Nat × List Nat):=(true,[([],[]),([0],[0]),([1],[1]),([2],[2]),([3],[3]),([4],[4]),([],[]),([6],[6]),([7],[7]),([5,8],[5,8]),([9,8,0,1,2,3,4,5,6,7,8,9],[9])])
def thwartref01_Put.B3 : List Nat:=[0,1,3,7,15,31,0,64,192,511,1023]
theorem thwartref01_Put.tab3 : rtab .any (opsOf Try.f34 3) = thwartref01_Put.T3:=by kernel_rfl
theorem thwartref01_Put.bits3 : waitsOk thwartref01_Put.T3.2 thwartref01_Put.B3 = true:=by kernel_rfl
set_option maxHeartbeats 8000000 in
set_option maxRecDepth 100000 in
theorem thwartref01_Put.calls (k : Nat) : ∀ (a0 : Int) (r : ByteArray) (w : World) (h : thwartref01_Put.f k a0 = some r),
  Calls Try.prog 34 #[.int .u64 a0] w fun e w' => e = .returned (.string r) ∧ Below w.heap.size w w' := by
 induction k using Nat.strongRecOn with
 | _ k ih =>
 intro a0 r w h
 cases k with
 | zero => exact absurd h (by simp [thwartref01_Put.f])
 | succ k =>
 simp only [thwartref01_Put.f] at h
 have HB:=Aside0.mk (Below.refl w.heap.size w)
 have H : (if a0 < 128 then (some (strOfNums (([(a0) % 256] : List Int)))) else ((some (([(IntKind.u64.wrap (128 + (Int.tmod a0 128))) % 256] : List Int) : List Int)).bind fun y175 => ((thwartref01_Put.f k (IntKind.u64.wrap (Int.tdiv a0 128))).bind fun t178 => (if (strOfNums y175).size + t178.size ≤ 9223372036854775807 then (some ((strOfNums y175) ++ t178)) else (none))))) = some r:=h
 clear h
 by_cases c2 : a0 < 128
 ·rw [if_pos c2] at H
  have c2b0 : decide (a0 < 128) = true:=decide_eq_true c2
  clear c2
  obtain ⟨y172,hy172⟩ : ∃ y_ : List Int,y_ = (([(a0) % 256] : List Int)):=⟨_,rfl⟩
  replace H : (some (strOfNums y172)) = some r:=by first | (rw [hy172];with_reducible exact H) | (have H2_:=(Option.bind_some _ _).symm.trans H;rw [hy172];with_reducible exact H2_) | (have H2_:=(Option.bind_some _ _).symm.trans H;with_reducible exact H2_) | with_reducible exact H | (rw [hy172];exact H) | exact H
  have Ny172:=Aside0.mk hy172
  clear hy172
  obtain rfl:=Option.some.inj H
  go_enter Try.func34,Try.ntmps34
  go_wp2_with (first | ((with_reducible refine gate_dst (N:=7) rfl ?_);refine Kd.R_lit (Kd.int .u8) _ 5 ?hg (N:=7) ?hd (xs:=([(a0) % 256] : List Int)) (inner:=[.int .u8 ((a0) % 256)]) (ok:=fun _ => True) (okp:=fun _ => True) ?hr ?hp (fun _ hk => hk) trivial (Below.refl _ _) (Nat.le_refl _) (by simp) ?_;(case hd => rfl);(case hg => rfl);(case hr => first | (go_simp;done) | (go_simp;rfl));(case hp => exact (Reps.one (show Kd.M (Kd.int .u8) _ _ _ ((a0) % 256) [.int .u8 ((a0) % 256)] from rfl) (Reps.none _ _)));intro v173 w3 ho4 hb hg_ hnew_;clear hg_ hnew_;(first | rw [← Ny172.out] at ho4 | (simp only [Int.reduceToNat] at ho4;rw [← Ny172.out] at ho4));have n0_:=Aside0.mk (Kd.R_lower ho4 (below_size (by repeat (first | (with_reducible first | exact HB.out | apply below_alloc | apply pw_below_drewN | apply below_drew1) | exact HB.out))));have n1_:=Aside0.mk (below_step (by repeat (first | (with_reducible first | exact HB.out | apply below_alloc | apply pw_below_drewN | apply below_drew1) | exact HB.out)) hb);clear HB;have HO174:=n0_;have HB:=n1_;clear n0_ n1_;clear hb ho4;have hcv5:=own_string (P:=Try.prog) Try.underlying52 Try.underlying5 Try.underlying9 (Kd.own_of_R HO174.out)))
  go_ret
  exact ⟨by first | rfl | (simp [errW_none,errW_some] <;> rfl) | (simp [*,errW_none,errW_some] <;> rfl) | (simp [errW_none,errW_some];exact isEmpty_bne _),by repeat (first | (with_reducible first | exact HB.out | apply below_alloc | apply pw_below_drewN | apply below_drew1) | exact HB.out)⟩
 ·rw [if_neg c2] at H
  have c2b0 : decide (a0 < 128) = false:=decide_eq_false c2
  clear c2
  obtain ⟨y175,hy175⟩ : ∃ y_ : List Int,y_ = (([(IntKind.u64.wrap (128 + (Int.tmod a0 128))) % 256] : List Int)):=⟨_,rfl⟩
  replace H : ((thwartref01_Put.f k (IntKind.u64.wrap (Int.tdiv a0 128))).bind fun t178 => (if (strOfNums y175).size + t178.size ≤ 9223372036854775807 then (some ((strOfNums y175) ++ t178)) else (none))) = some r:=by first | (rw [hy175];with_reducible exact H) | (have H2_:=(Option.bind_some _ _).symm.trans H;rw [hy175];with_reducible exact H2_) | (have H2_:=(Option.bind_some _ _).symm.trans H;with_reducible exact H2_) | with_reducible exact H | (rw [hy175];exact H) | exact H
  have Ny175:=Aside0.mk hy175
  clear hy175
  replace H:=Option.bind_eq_some_iff.mp H
  obtain ⟨t178,A60,H⟩:=H
  replace H : (if (strOfNums y175).size + t178.size ≤ 9223372036854775807 then (some ((strOfNums y175) ++ t178)) else (none)) = some r:=H
  have A6:=Aside0.mk A60
  clear A60
  by_cases c7 : (strOfNums y175).size + t178.size ≤ 9223372036854775807
  ·rw [if_pos c7] at H
   have c7b0:=eq_true c7
   have c7b1 : decide ((strOfNums y175).size + t178.size ≤ 9223372036854775807) = true:=decide_eq_true c7
   try have c7b2 : (9223372036854775807 < (strOfNums y175).size + t178.size) = False:=eq_false (Nat.not_lt.2 c7)
   obtain rfl:=Option.some.inj H
   go_enter Try.func34,Try.ntmps34
   try go_wp2
   have n0_:=Aside0.mk (below_drew1 HB.out)
   clear HB
   have HB:=n0_
   clear n0_
   refine start_ (n:=11) (S:=fun w' => True) (ds:=[]) #[false,false,false,false,false,false,false,false,false,false,false] (by kernel_rfl) rfl rfl trivial (fun hHeld => ?_);refine with_tabW thwartref01_Put.tab3 thwartref01_Put.bits3 (fun HT_ HW_ => ?_)
   generalize w.drew = w8 at HB hHeld ⊢
   refine pure_ (i:=0) (N:=some 9) (v := ?_) (a' := ?_) #[true,false,false,false,false,false,false,false,false,false,false] rfl rfl (any_of HT_.out (by kernel_rfl)) (fun _ _ _ h => h) (Or.inl ⟨by rfl,?_⟩) ?_ ?_
   rotate_left
   ·intro w'
    go_simp
    with_reducible rfl
   rotate_left
   ·simp only [Act.put,List.setIfInBounds_toArray,List.set_cons_zero,List.set_cons_succ,i64_w,i32_w]
    rfl
   refine pure_ (i:=1) (N:=some 10) (v := ?_) (a' := ?_) #[true,true,false,false,false,false,false,false,false,false,false] rfl rfl (any_of HT_.out (by kernel_rfl)) (fun _ _ _ h => h) (Or.inl ⟨by rfl,?_⟩) ?_ ?_
   rotate_left
   ·intro w'
    go_simp
    with_reducible rfl
   rotate_left
   ·simp only [Act.put,List.setIfInBounds_toArray,List.set_cons_zero,List.set_cons_succ,i64_w,i32_w]
    rfl
   refine pure_ (i:=2) (N:=some 11) (v := ?_) (a' := ?_) #[true,true,true,false,false,false,false,false,false,false,false] rfl rfl (any_of HT_.out (by kernel_rfl)) (fun _ _ _ h => h) (Or.inl ⟨by rfl,?_⟩) ?_ ?_
   rotate_left
   ·intro w'
    go_simp
    with_reducible rfl
   rotate_left
   ·simp only [Act.put,List.setIfInBounds_toArray,List.set_cons_zero,List.set_cons_succ,i64_w,i32_w]
    rfl
   refine pure_ (i:=3) (N:=some 12) (v := ?_) (a' := ?_) #[true,true,true,true,false,false,false,false,false,false,false] rfl rfl (any_of HT_.out (by kernel_rfl)) (fun _ _ _ h => h) (Or.inl ⟨by rfl,?_⟩) ?_ ?_
   rotate_left
   ·intro w'
    go_simp
    with_reducible rfl
   rotate_left
   ·simp only [Act.put,List.setIfInBounds_toArray,List.set_cons_zero,List.set_cons_succ,i64_w,i32_w]
    rfl
   refine pure_ (i:=6) (N:=some 15) (v := ?_) (a' := ?_) #[true,true,true,true,false,false,true,false,false,false,false] rfl rfl (any_of HT_.out (by kernel_rfl)) (fun _ _ _ h => h) (Or.inl ⟨by rfl,?_⟩) ?_ ?_
   rotate_left
   ·intro w'
    go_simp
    with_reducible rfl
   rotate_left
   ·simp only [Act.put,List.setIfInBounds_toArray,List.set_cons_zero,List.set_cons_succ,i64_w,i32_w]
    rfl
   refine pure_ (i:=7) (N:=some 16) (v := ?_) (a' := ?_) #[true,true,true,true,false,false,true,true,false,false,false] rfl rfl (any_of HT_.out (by kernel_rfl)) (fun _ _ _ h => h) (Or.inl ⟨by rfl,?_⟩) ?_ ?_
   rotate_left
   ·intro w'
    go_simp
    with_reducible rfl
   rotate_left
   ·simp only [Act.put,List.setIfInBounds_toArray,List.set_cons_zero,List.set_cons_succ,i64_w,i32_w]
    rfl
   refine join_ (σ:=Value) 2 #[true,true,true,true,true,true,true,true,true,false,false] (fun s_ => [(13,s_),(14,.string (strOfNums y175)),(17,.string t178)]) (fun s_ w' => (Kd.R (Kd.int .u8) 5 w' w.heap.size (fun _ => True) s_ y175) ∧ (Below w.heap.size w w')) ?_ ?_
   rotate_left
   ·intro hCont
    refine two_ (i:=4) (j:=8) (Ni:=some 13) (Nj:=some 17) #[true,true,true,true,true,false,true,true,false,false,false] #[true,true,true,true,false,false,true,true,true,false,false] rfl rfl rfl rfl (two_of HT_.out (by kernel_rfl)) (by decide) (by decide) (fun K hK => ?_) (fun K hK => ?_)
    ·skip
     refine Kd.R_lit_step (Kd.int .u8) _ 5 ?hg (N:=13) ?hd (xs:=([(IntKind.u64.wrap (128 + (Int.tmod a0 128))) % 256] : List Int)) (inner:=[.int .u8 ((IntKind.u64.wrap (128 + (Int.tmod a0 128))) % 256)]) (ok:=fun _ => True) (okp:=fun _ => True) ?hr ?hp (fun _ hk => hk) trivial (Below.refl _ _) (Nat.le_refl _) (by simp) ?_;(case hd => rfl);(case hg => rfl);(case hr => first | (go_simp;done) | (go_simp;rfl));(case hp => exact (Reps.one (show Kd.M (Kd.int .u8) _ _ _ ((IntKind.u64.wrap (128 + (Int.tmod a0 128))) % 256) [.int .u8 ((IntKind.u64.wrap (128 + (Int.tmod a0 128))) % 256)] from rfl) (Reps.none _ _)))
     intro v176 w9 ho10 hb hg_ hnew_
     clear hg_ hnew_
     (first | rw [← Ny175.out] at ho10 | (simp only [Int.reduceToNat] at ho10;rw [← Ny175.out] at ho10))
     have n0_:=Aside0.mk (Kd.R_lower ho10 (below_size (by repeat (first | (with_reducible first | exact HB.out | apply below_alloc | apply pw_below_drewN | apply below_drew1) | exact HB.out))))
     have n1_:=Aside0.mk (below_step (by repeat (first | (with_reducible first | exact HB.out | apply below_alloc | apply pw_below_drewN | apply below_drew1) | exact HB.out)) hb)
     clear HB
     have HO177:=n0_
     have HB:=n1_
     clear n0_ n1_
     clear hb ho10
     refine hK.out _ _ trivial (fun hHeld => ?_)
     clear hK K
     refine norm_ (a' := ?_) ?_ ?_
     rotate_left
     ·show Act.put _ (some 13) _ = _
      simp only [Act.put,List.setIfInBounds_toArray,List.set_cons_zero,List.set_cons_succ,i64_w,i32_w]
      rfl
     refine two_ (i:=5) (j:=8) (Ni:=some 14) (Nj:=some 17) #[true,true,true,true,true,true,true,true,false,false,false] #[true,true,true,true,true,false,true,true,true,false,false] rfl rfl rfl rfl (two_of HT_.out (by kernel_rfl)) (by decide) (by decide) (fun K hK => ?_) (fun K hK => ?_)
     ·skip
      have hcv11:=own_string (P:=Try.prog) Try.underlying52 Try.underlying5 Try.underlying9 (Kd.own_of_R HO177.out)
      refine value_ (w1 := ?_) (v := ?_) (by rfl) rfl ?_ ?_
      rotate_left 2
      ·go_simp
       constructor
       ·rfl
       ·rfl
      clear hcv11
      refine hK.out _ _ trivial (fun hHeld => ?_)
      clear hK K
      refine norm_ (a' := ?_) ?_ ?_
      rotate_left
      ·show Act.put _ (some 14) _ = _
       simp only [Act.put,List.setIfInBounds_toArray,List.set_cons_zero,List.set_cons_succ,i64_w,i32_w]
       rfl
      refine one_ (i:=8) (N:=some 17) #[true,true,true,true,true,true,true,true,true,false,false] rfl rfl (one_of HT_.out (by kernel_rfl)) (by decide) (fun K hK => ?_)
      refine goes_ Try.func34 (by kernel_rfl) rfl #[.int .u64 (IntKind.u64.wrap (Int.tdiv a0 128))] (by rfl) rfl rfl (by (try simp only [List.map_toArray,List.map_cons,List.map_nil]);first | done | rfl | (simp only [List.length_drop,List.length_take];rfl)) ?_
      with_reducible refine (ih k (by omega) (IntKind.u64.wrap (Int.tdiv a0 128)) t178 _ A6.out).mono ?_
      rintro e w12 ⟨rfl,hb⟩
      refine ⟨_,rfl,?_⟩
      have n0_:=Aside0.mk (Kd.R_below (by (with_reducible repeat (first | apply Kd.R_alloc | apply Kd.R_drewN | apply Kd.R_drew));exact HO177.out) hb)
      have n1_:=Aside0.mk (below_step (by repeat (first | (with_reducible first | exact HB.out | apply below_alloc | apply pw_below_drewN | apply below_drew1) | exact HB.out)) hb)
      clear HO177
      clear HB
      have HO177:=n0_
      have HB:=n1_
      clear n0_ n1_
      (try clear hb)
      (try clear hb2)
      (try clear hk)
      (try clear hi)
      refine hK.out _ _ trivial (fun hHeld => ?_)
      clear hK K
      refine norm_ (a' := ?_) ?_ ?_
      rotate_left
      ·show Act.put _ (some 17) _ = _
       simp only [Act.put,List.setIfInBounds_toArray,List.set_cons_zero,List.set_cons_succ,i64_w,i32_w]
       rfl
      exact norm_ (by simp only [putAll,Act.put,List.setIfInBounds_toArray,List.set_cons_zero,List.set_cons_succ]) (hCont (v176) _ ⟨(by (with_reducible repeat (first | apply Kd.R_alloc | apply Kd.R_drewN | apply Kd.R_drew));exact HO177.out),(by repeat (first | (with_reducible first | exact HB.out | apply below_alloc | apply pw_below_drewN | apply below_drew1) | exact HB.out))⟩)
     ·skip
      refine goes_ Try.func34 (by kernel_rfl) rfl #[.int .u64 (IntKind.u64.wrap (Int.tdiv a0 128))] (by rfl) rfl rfl (by (try simp only [List.map_toArray,List.map_cons,List.map_nil]);first | done | rfl | (simp only [List.length_drop,List.length_take];rfl)) ?_
      with_reducible refine (ih k (by omega) (IntKind.u64.wrap (Int.tdiv a0 128)) t178 _ A6.out).mono ?_
      rintro e w11 ⟨rfl,hb⟩
      refine ⟨_,rfl,?_⟩
      have n0_:=Aside0.mk (Kd.R_below (by (with_reducible repeat (first | apply Kd.R_alloc | apply Kd.R_drewN | apply Kd.R_drew));exact HO177.out) hb)
      have n1_:=Aside0.mk (below_step (by repeat (first | (with_reducible first | exact HB.out | apply below_alloc | apply pw_below_drewN | apply below_drew1) | exact HB.out)) hb)
      clear HO177
      clear HB
      have HO177:=n0_
      have HB:=n1_
      clear n0_ n1_
      (try clear hb)
      (try clear hb2)
      (try clear hk)
      (try clear hi)
      refine hK.out _ _ trivial (fun hHeld => ?_)
      clear hK K
      refine norm_ (a' := ?_) ?_ ?_
      rotate_left
      ·show Act.put _ (some 17) _ = _
       simp only [Act.put,List.setIfInBounds_toArray,List.set_cons_zero,List.set_cons_succ,i64_w,i32_w]
       rfl
      refine one_ (i:=5) (N:=some 14) #[true,true,true,true,true,true,true,true,true,false,false] rfl rfl (one_of HT_.out (by kernel_rfl)) (by decide) (fun K hK => ?_)
      have hcv12:=own_string (P:=Try.prog) Try.underlying52 Try.underlying5 Try.underlying9 (Kd.own_of_R HO177.out)
      refine value_ (w1 := ?_) (v := ?_) (by rfl) rfl ?_ ?_
      rotate_left 2
      ·go_simp
       constructor
       ·rfl
       ·rfl
      clear hcv12
      refine hK.out _ _ trivial (fun hHeld => ?_)
      clear hK K
      refine norm_ (a' := ?_) ?_ ?_
      rotate_left
      ·show Act.put _ (some 14) _ = _
       simp only [Act.put,List.setIfInBounds_toArray,List.set_cons_zero,List.set_cons_succ,i64_w,i32_w]
       rfl
      exact norm_ (by simp only [putAll,Act.put,List.setIfInBounds_toArray,List.set_cons_zero,List.set_cons_succ]) (hCont (v176) _ ⟨(by (with_reducible repeat (first | apply Kd.R_alloc | apply Kd.R_drewN | apply Kd.R_drew));exact HO177.out),(by repeat (first | (with_reducible first | exact HB.out | apply below_alloc | apply pw_below_drewN | apply below_drew1) | exact HB.out))⟩)
    ·skip
     refine goes_ Try.func34 (by kernel_rfl) rfl #[.int .u64 (IntKind.u64.wrap (Int.tdiv a0 128))] (by rfl) rfl rfl (by (try simp only [List.map_toArray,List.map_cons,List.map_nil]);first | done | rfl | (simp only [List.length_drop,List.length_take];rfl)) ?_
     with_reducible refine (ih k (by omega) (IntKind.u64.wrap (Int.tdiv a0 128)) t178 _ A6.out).mono ?_
     rintro e w9 ⟨rfl,hb⟩
     refine ⟨_,rfl,?_⟩
     have n0_:=Aside0.mk (below_step (by repeat (first | (with_reducible first | exact HB.out | apply below_alloc | apply pw_below_drewN | apply below_drew1) | exact HB.out)) hb)
     clear HB
     have HB:=n0_
     clear n0_
     (try clear hb)
     (try clear hb2)
     (try clear hk)
     (try clear hi)
     refine hK.out _ _ trivial (fun hHeld => ?_)
     clear hK K
     refine norm_ (a' := ?_) ?_ ?_
     rotate_left
     ·show Act.put _ (some 17) _ = _
      simp only [Act.put,List.setIfInBounds_toArray,List.set_cons_zero,List.set_cons_succ,i64_w,i32_w]
      rfl
     refine one_ (i:=4) (N:=some 13) #[true,true,true,true,true,false,true,true,true,false,false] rfl rfl (one_of HT_.out (by kernel_rfl)) (by decide) (fun K hK => ?_)
     refine Kd.R_lit_step (Kd.int .u8) _ 5 ?hg (N:=13) ?hd (xs:=([(IntKind.u64.wrap (128 + (Int.tmod a0 128))) % 256] : List Int)) (inner:=[.int .u8 ((IntKind.u64.wrap (128 + (Int.tmod a0 128))) % 256)]) (ok:=fun _ => True) (okp:=fun _ => True) ?hr ?hp (fun _ hk => hk) trivial (Below.refl _ _) (Nat.le_refl _) (by simp) ?_;(case hd => rfl);(case hg => rfl);(case hr => first | (go_simp;done) | (go_simp;rfl));(case hp => exact (Reps.one (show Kd.M (Kd.int .u8) _ _ _ ((IntKind.u64.wrap (128 + (Int.tmod a0 128))) % 256) [.int .u8 ((IntKind.u64.wrap (128 + (Int.tmod a0 128))) % 256)] from rfl) (Reps.none _ _)))
     intro v176 w10 ho11 hb hg_ hnew_
     clear hg_ hnew_
     (first | rw [← Ny175.out] at ho11 | (simp only [Int.reduceToNat] at ho11;rw [← Ny175.out] at ho11))
     have n0_:=Aside0.mk (Kd.R_lower ho11 (below_size (by repeat (first | (with_reducible first | exact HB.out | apply below_alloc | apply pw_below_drewN | apply below_drew1) | exact HB.out))))
     have n1_:=Aside0.mk (below_step (by repeat (first | (with_reducible first | exact HB.out | apply below_alloc | apply pw_below_drewN | apply below_drew1) | exact HB.out)) hb)
     clear HB
     have HO177:=n0_
     have HB:=n1_
     clear n0_ n1_
     clear hb ho11
     refine hK.out _ _ trivial (fun hHeld => ?_)
     clear hK K
     refine norm_ (a' := ?_) ?_ ?_
     rotate_left
     ·show Act.put _ (some 13) _ = _
      simp only [Act.put,List.setIfInBounds_toArray,List.set_cons_zero,List.set_cons_succ,i64_w,i32_w]
      rfl
     refine one_ (i:=5) (N:=some 14) #[true,true,true,true,true,true,true,true,true,false,false] rfl rfl (one_of HT_.out (by kernel_rfl)) (by decide) (fun K hK => ?_)
     have hcv12:=own_string (P:=Try.prog) Try.underlying52 Try.underlying5 Try.underlying9 (Kd.own_of_R HO177.out)
     refine value_ (w1 := ?_) (v := ?_) (by rfl) rfl ?_ ?_
     rotate_left 2
     ·go_simp
      constructor
      ·rfl
      ·rfl
     clear hcv12
     refine hK.out _ _ trivial (fun hHeld => ?_)
     clear hK K
     refine norm_ (a' := ?_) ?_ ?_
     rotate_left
     ·show Act.put _ (some 14) _ = _
      simp only [Act.put,List.setIfInBounds_toArray,List.set_cons_zero,List.set_cons_succ,i64_w,i32_w]
      rfl
     exact norm_ (by simp only [putAll,Act.put,List.setIfInBounds_toArray,List.set_cons_zero,List.set_cons_succ]) (hCont (v176) _ ⟨(by (with_reducible repeat (first | apply Kd.R_alloc | apply Kd.R_drewN | apply Kd.R_drew));exact HO177.out),(by repeat (first | (with_reducible first | exact HB.out | apply below_alloc | apply pw_below_drewN | apply below_drew1) | exact HB.out))⟩)
   rintro v176 w13 ⟨h0_,h1_⟩
   have n0_ : Aside0 (Kd.R (Kd.int .u8) 5 w13 w.heap.size (fun _ => True) v176 y175):=⟨h0_⟩
   have n1_ : Aside0 (Below w.heap.size w w13):=⟨h1_⟩
   clear HB
   clear h0_ h1_
   have HO177:=n0_
   have HB:=n1_
   clear n0_ n1_
   have hHeld:=trivial
   refine norm_ (a' := ?_) ?_ ?_
   rotate_left
   ·simp only [putAll,Act.put,List.setIfInBounds_toArray,List.set_cons_zero,List.set_cons_succ]
    rfl
   refine pure_ (i:=9) (N:=some 18) (v := ?_) (a' := ?_) #[true,true,true,true,true,true,true,true,true,true,false] rfl rfl (any_of HT_.out (by kernel_rfl)) (fun _ _ _ h => h) (Or.inl ⟨by rfl,?_⟩) ?_ ?_
   rotate_left
   ·intro w'
    go_simp
    with_reducible rfl
   rotate_left
   ·simp only [Act.put,List.setIfInBounds_toArray,List.set_cons_zero,List.set_cons_succ,i64_w,i32_w]
    rfl
   refine pure_ (i:=10) (N:=some 2) (v := ?_) (a' := ?_) #[true,true,true,true,true,true,true,true,true,true,true] rfl rfl (any_of HT_.out (by kernel_rfl)) (fun _ _ _ h => h) (Or.inl ⟨by rfl,?_⟩) ?_ ?_
   rotate_left
   ·intro w'
    go_simp
    with_reducible rfl
   rotate_left
   ·simp only [Act.put,List.setIfInBounds_toArray,List.set_cons_zero,List.set_cons_succ,i64_w,i32_w]
    rfl
   refine done_ (done_of HT_.out (by kernel_rfl)) ?_
   try go_wp2
   go_ret
   exact ⟨by first | rfl | (simp [errW_none,errW_some] <;> rfl) | (simp [*,errW_none,errW_some] <;> rfl) | (simp [errW_none,errW_some];exact isEmpty_bne _),by repeat (first | (with_reducible first | exact HB.out | apply below_alloc | apply pw_below_drewN | apply below_drew1) | exact HB.out)⟩
  ·rw [if_neg c7] at H
   exact absurd H (by simp)

/-! ### thwartref01_Text: function 35 -/
def thwartref01_Text.f (k : Nat) (a0 : ByteArray) : Option ByteArray := if a0.size ≤ 4611686018427387904 then (thwartref01_Put.f k a0.size).bind fun t => (if t.size + a0.size ≤ 9223372036854775807 then some (t ++ a0) else none) else none
theorem thwartref01_Text.mono : ∀ a0 k, LeO (thwartref01_Text.f k a0) (thwartref01_Text.f (k + 1) a0) := by
  intro a0 k
  unfold thwartref01_Text.f
  refine LeO.ite (LeO.bind (thwartref01_Put.mono _ _) (fun _ => LeO.refl _)) (LeO.refl _)
set_option maxHeartbeats 400000 in
theorem thwartref01_Text.calls (k : Nat) (a0 : ByteArray) (r : ByteArray) (w : World) (h : thwartref01_Text.f k a0 = some r) :
    Calls Try.prog 35 #[.string a0] w fun e w' => e = .returned (.string r) ∧ Below w.heap.size w w' := by
  unfold thwartref01_Text.f at h
  by_cases hz : a0.size ≤ 4611686018427387904
  case neg => rw [if_neg hz] at h; exact absurd h (by simp)
  rw [if_pos hz] at h
  obtain ⟨t, h1, h2⟩ := Option.bind_eq_some_iff.mp h
  clear h
  by_cases hs : t.size + a0.size ≤ 9223372036854775807
  case neg => rw [if_neg hs] at h2; exact absurd h2 (by simp)
  rw [if_pos hs] at h2
  have HR := Aside0.mk (Option.some.inj h2)
  have H1 := Aside0.mk h1
  have HS := Aside0.mk hs
  clear h1 h2 hs
  go_enter Try.func35, Try.ntmps35
  go_wp2_with fail
  refine (thwartref01_Put.calls k (a0.size : Int) t _ H1.out).mono ?_
  rintro e w1 ⟨rfl, hb⟩
  have hd0 := eq_true HS.out
  have hd : decide (t.size + a0.size ≤ 9223372036854775807) = true := decide_eq_true HS.out
  have hd2 : (9223372036854775807 < t.size + a0.size) = False := eq_false (Nat.not_lt.2 HS.out)
  go_wp2
  go_ret
  exact ⟨by rw [HR.out]; rfl, hb⟩

/-! ### thwartref03_Bytes: function 12 -/
def thwartref03_Bytes.f (k : Nat) (a0_0 : Int) (a0_1 : ByteArray) (a0_2 : ByteArray) (a0_3 : Bool) : Option (ByteArray × Int):=(thwartref03_Right.f a0_0 a0_1 a0_2 a0_3).bind fun t180 => (if t180 = true then (if a0_3 = true then ((thwartref01_Put.f k (IntKind.u64.wrap ((IntKind.u64.wrap (2 * a0_0)) + 1))).bind fun t181 => ((thwartref01_Text.f k a0_1).bind fun t182 => (if t181.size + t182.size ≤ 9223372036854775807 then (some (t181 ++ t182,0)) else (none)))) else ((thwartref01_Put.f k (IntKind.u64.wrap (2 * a0_0))).bind fun t183 => ((thwartref01_Text.f k a0_1).bind fun t184 => (if t183.size + t184.size ≤ 9223372036854775807 then ((thwartref01_Text.f k a0_2).bind fun t185 => (if t183.size + t184.size + t185.size ≤ 9223372036854775807 then (some ((t183 ++ t184) ++ t185,0)) else (none))) else (none))))) else (some ((⟨#[]⟩ : ByteArray),1)))
theorem thwartref03_Bytes.mono : ∀ a0 a1 a2 a3 k,LeO (thwartref03_Bytes.f k a0 a1 a2 a3) (thwartref03_Bytes.f (k + 1) a0 a1 a2 a3):=by
 intro a0 a1 a2 a3 k
 unfold thwartref03_Bytes.f
 repeat' first
   | (with_reducible exact thwartref01_Put.mono _ _)
   | (with_reducible exact thwartref01_Text.mono _ _)
   | (with_reducible exact LeO.refl _)
   | (with_reducible exact LeO.none _)
   | (with_reducible refine LeO.ite ?_ ?_)
   | (with_reducible refine LeO.bind ?_ (fun _ => ?_))
   | exact thwartref01_Put.mono _ _
   | exact thwartref01_Text.mono _ _
   | exact LeO.none _
   | refine LeO.ite ?_ ?_
   | refine LeO.bind ?_ (fun _ => ?_)
def thwartref03_Bytes.T5 : Bool × List (List Nat × List Nat):=(true,[([],[]),([0],[0]),([1],[1]),([],[]),([3],[3]),([4,2],[4]),([2,5],[2,5]),([6,5,0,1,2,3,4,5,6],[6]),([7,0,1,2,3,4,5,6,7],[])])
def thwartref03_Bytes.B5 : List Nat:=[0,1,3,0,8,31,63,127,255]
theorem thwartref03_Bytes.tab5 : rtab .any (opsOf Try.f12 5) = thwartref03_Bytes.T5:=by kernel_rfl
theorem thwartref03_Bytes.bits5 : waitsOk thwartref03_Bytes.T5.2 thwartref03_Bytes.B5 = true:=by kernel_rfl
def thwartref03_Bytes.T6 : Bool × List (List Nat × List Nat):=(true,[([],[]),([0],[0]),([],[]),([2],[2]),([3,1],[3]),([1,4],[1,4]),([],[]),([6],[6]),([7,4],[7]),([5,8],[5,8]),([9,8,0,1,2,3,4,5,6,7,8,9],[9]),([10,0,1,2,3,4,5,6,7,8,9,10],[])])
def thwartref03_Bytes.B6 : List Nat:=[0,1,0,4,15,31,0,64,223,511,1023,2047]
theorem thwartref03_Bytes.tab6 : rtab .any (opsOf Try.f12 6) = thwartref03_Bytes.T6:=by kernel_rfl
theorem thwartref03_Bytes.bits6 : waitsOk thwartref03_Bytes.T6.2 thwartref03_Bytes.B6 = true:=by kernel_rfl
set_option maxHeartbeats 8000000 in
set_option maxRecDepth 100000 in
theorem thwartref03_Bytes.calls (k : Nat) (a0_0 : Int) (a0_1 : ByteArray) (a0_2 : ByteArray) (a0_3 : Bool) (r1 : ByteArray) (r2 : Int) (w : World) (h : thwartref03_Bytes.f k a0_0 a0_1 a0_2 a0_3 = some (r1,r2)) :
  Calls Try.prog 12 #[.agg #[.int .u64 a0_0,.string a0_1,.string a0_2,.bool a0_3]] w fun e w' => e = .returned (.tuple #[.string r1,.int .i64 r2]) ∧ Below w.heap.size w w' := by
 have hu24:=Try.underlying24
 have HB:=Aside0.mk (Below.refl w.heap.size w)
 have H : ((thwartref03_Right.f a0_0 a0_1 a0_2 a0_3).bind fun t180 => (if t180 = true then (if a0_3 = true then ((thwartref01_Put.f k (IntKind.u64.wrap ((IntKind.u64.wrap (2 * a0_0)) + 1))).bind fun t181 => ((thwartref01_Text.f k a0_1).bind fun t182 => (if t181.size + t182.size ≤ 9223372036854775807 then (some (t181 ++ t182,0)) else (none)))) else ((thwartref01_Put.f k (IntKind.u64.wrap (2 * a0_0))).bind fun t183 => ((thwartref01_Text.f k a0_1).bind fun t184 => (if t183.size + t184.size ≤ 9223372036854775807 then ((thwartref01_Text.f k a0_2).bind fun t185 => (if t183.size + t184.size + t185.size ≤ 9223372036854775807 then (some ((t183 ++ t184) ++ t185,0)) else (none))) else (none))))) else (some ((⟨#[]⟩ : ByteArray),1)))) = some (r1,r2):=h
 clear h
 replace H:=Option.bind_eq_some_iff.mp H
 obtain ⟨t180,A20,H⟩:=H
 replace H : (if t180 = true then (if a0_3 = true then ((thwartref01_Put.f k (IntKind.u64.wrap ((IntKind.u64.wrap (2 * a0_0)) + 1))).bind fun t181 => ((thwartref01_Text.f k a0_1).bind fun t182 => (if t181.size + t182.size ≤ 9223372036854775807 then (some (t181 ++ t182,0)) else (none)))) else ((thwartref01_Put.f k (IntKind.u64.wrap (2 * a0_0))).bind fun t183 => ((thwartref01_Text.f k a0_1).bind fun t184 => (if t183.size + t184.size ≤ 9223372036854775807 then ((thwartref01_Text.f k a0_2).bind fun t185 => (if t183.size + t184.size + t185.size ≤ 9223372036854775807 then (some ((t183 ++ t184) ++ t185,0)) else (none))) else (none))))) else (some ((⟨#[]⟩ : ByteArray),1))) = some (r1,r2):=H
 have A2:=Aside0.mk A20
 clear A20
 by_cases c3 : t180 = true
 ·subst c3
  have H1 : (if a0_3 = true then ((thwartref01_Put.f k (IntKind.u64.wrap ((IntKind.u64.wrap (2 * a0_0)) + 1))).bind fun t181 => ((thwartref01_Text.f k a0_1).bind fun t182 => (if t181.size + t182.size ≤ 9223372036854775807 then (some (t181 ++ t182,0)) else (none)))) else ((thwartref01_Put.f k (IntKind.u64.wrap (2 * a0_0))).bind fun t183 => ((thwartref01_Text.f k a0_1).bind fun t184 => (if t183.size + t184.size ≤ 9223372036854775807 then ((thwartref01_Text.f k a0_2).bind fun t185 => (if t183.size + t184.size + t185.size ≤ 9223372036854775807 then (some ((t183 ++ t184) ++ t185,0)) else (none))) else (none))))) = some (r1,r2):=by rw [if_pos rfl] at H;exact H
  clear H
  have H:=H1
  clear H1
  by_cases c4 : a0_3 = true
  ·subst c4
   have H1 : ((thwartref01_Put.f k (IntKind.u64.wrap ((IntKind.u64.wrap (2 * a0_0)) + 1))).bind fun t181 => ((thwartref01_Text.f k a0_1).bind fun t182 => (if t181.size + t182.size ≤ 9223372036854775807 then (some (t181 ++ t182,0)) else (none)))) = some (r1,r2):=by rw [if_pos rfl] at H;exact H
   clear H
   have H:=H1
   clear H1
   replace H:=Option.bind_eq_some_iff.mp H
   obtain ⟨t181,A50,H⟩:=H
   replace H : ((thwartref01_Text.f k a0_1).bind fun t182 => (if t181.size + t182.size ≤ 9223372036854775807 then (some (t181 ++ t182,0)) else (none))) = some (r1,r2):=H
   have A5:=Aside0.mk A50
   clear A50
   replace H:=Option.bind_eq_some_iff.mp H
   obtain ⟨t182,A60,H⟩:=H
   replace H : (if t181.size + t182.size ≤ 9223372036854775807 then (some (t181 ++ t182,0)) else (none)) = some (r1,r2):=H
   have A6:=Aside0.mk A60
   clear A60
   by_cases c7 : t181.size + t182.size ≤ 9223372036854775807
   ·rw [if_pos c7] at H
    have c7b0:=eq_true c7
    have c7b1 : decide (t181.size + t182.size ≤ 9223372036854775807) = true:=decide_eq_true c7
    try have c7b2 : (9223372036854775807 < t181.size + t182.size) = False:=eq_false (Nat.not_lt.2 c7)
    simp only [Option.some.injEq,Prod.mk.injEq] at H
    obtain ⟨rfl,rfl⟩:=H
    go_enter Try.func12,Try.ntmps12
    try go_wp2_with (first | ((with_reducible refine gate_dst (N:=1) rfl ?_);refine box_event ?hg (N:=1) ?hd (cs := #[.int .u64 a0_0,.string a0_1,.string a0_2,.bool true]) (t:=24) ?hr ?_;(case hd => rfl);(case hg => rfl);(case hr => first | (go_simp;done) | (go_simp;rfl));intro gb179 hg w8 hbox hb;have n0_:=Aside0.mk (below_step (by repeat (first | (with_reducible first | exact HB.out | apply below_alloc | apply pw_below_drewN | apply below_drew1) | exact HB.out)) hb);have n1_:=Aside0.mk (hbox);have n2_:=Aside0.mk ((by rw [hg];exact (below_size (by repeat (first | (with_reducible first | exact HB.out | apply below_alloc | apply pw_below_drewN | apply below_drew1) | exact HB.out))) : w.heap.size ≤ gb179));have n3_:=Aside0.mk ((by rw [hg];exact (below_size (by repeat (first | (with_reducible first | exact HB.out | apply below_alloc | apply pw_below_drewN | apply below_drew1) | exact HB.out))) : w.heap.size ≤ gb179));clear HB;have HB:=n0_;have BK179:=n1_;have GW179:=n2_;have GE179:=n3_;clear n0_ n1_ n2_ n3_;clear hb hbox hg;have hcz9_0 : w8.cell? ⟨gb179,0,none⟩ = some (.int .u64 a0_0):=(blk_cell BK179.out 0).trans rfl;have hcz9_1 : w8.cell? ⟨gb179,1,none⟩ = some (.string a0_1):=(blk_cell BK179.out 1).trans rfl;have hcz9_2 : w8.cell? ⟨gb179,2,none⟩ = some (.string a0_2):=(blk_cell BK179.out 2).trans rfl;have hcz9_3 : w8.cell? ⟨gb179,3,none⟩ = some (.bool true):=(blk_cell BK179.out 3).trans rfl;have hfz9_0:=blk_frozen BK179.out 0;have hfz9_1:=blk_frozen BK179.out 1;have hfz9_2:=blk_frozen BK179.out 2;have hfz9_3:=blk_frozen BK179.out 3) | ((with_reducible refine gate_callee (f:=16) rfl ?_);refine goesL_ (some 6) rfl rfl Try.func16 (by kernel_rfl) rfl #[.agg #[.int .u64 a0_0,.string a0_1,.string a0_2,.bool true]] rfl (by (try simp only [List.map_toArray,List.map_cons,List.map_nil]);first | done | rfl | (simp only [List.length_drop,List.length_take];rfl)) ?_;(with_reducible refine (thwartref03_Right.calls a0_0 a0_1 a0_2 true true _ A2.out).mono ?_);rintro e w10 ⟨rfl,hb⟩;refine ⟨_,rfl,?_⟩;have n0_:=Aside0.mk (blk_below (g:=gb179) (o := .cells #[.int .u64 a0_0,.string a0_1,.string a0_2,.bool true] 24 (0,0)) (by (with_reducible repeat (first | refine blk_drewN ?_ _ | refine blk_drew ?_ | refine blk_alloc ?_ _));exact BK179.out) hb);have n1_:=Aside0.mk (below_step (by repeat (first | (with_reducible first | exact HB.out | apply below_alloc | apply pw_below_drewN | apply below_drew1 | refine below_set ?_ GE179.out) | exact HB.out)) hb);clear BK179;clear HB;have BK179:=n0_;have HB:=n1_;clear n0_ n1_;(try clear hb);(try clear hb2);(try clear hk);(try clear hi);have hcz11_0 : w10.cell? ⟨gb179,0,none⟩ = some (.int .u64 a0_0):=(blk_cell BK179.out 0).trans rfl;have hcz11_1 : w10.cell? ⟨gb179,1,none⟩ = some (.string a0_1):=(blk_cell BK179.out 1).trans rfl;have hcz11_2 : w10.cell? ⟨gb179,2,none⟩ = some (.string a0_2):=(blk_cell BK179.out 2).trans rfl;have hcz11_3 : w10.cell? ⟨gb179,3,none⟩ = some (.bool true):=(blk_cell BK179.out 3).trans rfl;have hfz11_0:=blk_frozen BK179.out 0;have hfz11_1:=blk_frozen BK179.out 1;have hfz11_2:=blk_frozen BK179.out 2;have hfz11_3:=blk_frozen BK179.out 3))
    have n0_:=Aside0.mk (blk_drew BK179.out)
    have n1_:=Aside0.mk (below_drew1 HB.out)
    clear BK179
    clear HB
    have BK179:=n0_
    have HB:=n1_
    clear n0_ n1_
    refine start_ (n:=9) (S:=fun w' => w'.cell? ⟨gb179,0,none⟩ = some (.int .u64 a0_0) ∧ w'.cell? ⟨gb179,1,none⟩ = some (.string a0_1) ∧ w'.cell? ⟨gb179,2,none⟩ = some (.string a0_2) ∧ w'.cell? ⟨gb179,3,none⟩ = some (.bool true)) (ds:=[]) #[false,false,false,false,false,false,false,false,false] (by kernel_rfl) rfl rfl ⟨(blk_cell BK179.out 0).trans rfl,(blk_cell BK179.out 1).trans rfl,(blk_cell BK179.out 2).trans rfl,(blk_cell BK179.out 3).trans rfl⟩ (fun hHeld => ?_);refine with_tabW thwartref03_Bytes.tab5 thwartref03_Bytes.bits5 (fun HT_ HW_ => ?_)
    generalize w10.drew = w12 at BK179 HB hHeld ⊢
    refine pure_ (i:=0) (N:=some 13) (v := ?_) (a' := ?_) #[true,false,false,false,false,false,false,false,false] rfl rfl (any_of HT_.out (by kernel_rfl)) (fun _ _ _ h => h) (Or.inl ⟨by rfl,?_⟩) ?_ ?_
    rotate_left
    ·intro w'
     go_simp
     with_reducible rfl
    rotate_left
    ·simp only [Act.put,List.setIfInBounds_toArray,List.set_cons_zero,List.set_cons_succ,i64_w,i32_w]
     rfl
    refine pure_ (i:=1) (N:=some 14) (v := ?_) (a' := ?_) #[true,true,false,false,false,false,false,false,false] rfl rfl (any_of HT_.out (by kernel_rfl)) (fun _ _ _ h => h) (Or.inl ⟨by rfl,?_⟩) ?_ ?_
    rotate_left
    ·intro w'
     go_simp
     with_reducible rfl
    rotate_left
    ·simp only [Act.put,List.setIfInBounds_toArray,List.set_cons_zero,List.set_cons_succ,i64_w,i32_w]
     rfl
    refine pure_ (i:=3) (N:=some 16) (v := ?_) (a' := ?_) #[true,true,false,true,false,false,false,false,false] rfl rfl (any_of HT_.out (by kernel_rfl)) (fun _ _ _ h => h) (Or.inl ⟨by rfl,?_⟩) ?_ ?_
    rotate_left
    ·intro w'
     go_simp
     with_reducible rfl
    rotate_left
    ·simp only [Act.put,List.setIfInBounds_toArray,List.set_cons_zero,List.set_cons_succ,i64_w,i32_w]
     rfl
    refine take_ (i:=4) (N:=some 17) (v := ?_) (a' := ?_) #[true,true,false,true,true,false,false,false,false] rfl rfl (take_ofW HT_.out HW_.out (by kernel_rfl)) (fun _ _ _ h => h) (Or.inl ⟨by rfl,?_⟩) hHeld ?_ ?_
    rotate_left
    ·rintro w' ⟨s0,s1,s2,s3⟩
     go_simp
     with_reducible rfl
    rotate_left
    ·simp only [Act.put,List.setIfInBounds_toArray,List.set_cons_zero,List.set_cons_succ,i64_w,i32_w]
     rfl
    refine one_ (i:=2) (N:=some 15) #[true,true,true,true,true,false,false,false,false] rfl rfl (one_of HT_.out (by kernel_rfl)) (by decide) (fun K hK => ?_)
    refine goes_ Try.func34 (by kernel_rfl) rfl #[.int .u64 (IntKind.u64.wrap ((IntKind.u64.wrap (2 * a0_0)) + 1))] (by rfl) rfl rfl (by (try simp only [List.map_toArray,List.map_cons,List.map_nil]);first | done | rfl | (simp only [List.length_drop,List.length_take];rfl)) ?_
    with_reducible refine (thwartref01_Put.calls k (IntKind.u64.wrap ((IntKind.u64.wrap (2 * a0_0)) + 1)) t181 _ A5.out).mono ?_
    rintro e w13 ⟨rfl,hb⟩
    refine ⟨_,rfl,?_⟩
    have n0_:=Aside0.mk (blk_below (g:=gb179) (o := .cells #[.int .u64 a0_0,.string a0_1,.string a0_2,.bool true] 24 (0,0)) (by (with_reducible repeat (first | refine blk_drewN ?_ _ | refine blk_drew ?_ | refine blk_alloc ?_ _));exact BK179.out) hb)
    have n1_:=Aside0.mk (below_step (by repeat (first | (with_reducible first | exact HB.out | apply below_alloc | apply pw_below_drewN | apply below_drew1 | refine below_set ?_ GE179.out) | exact HB.out)) hb)
    clear BK179
    clear HB
    have BK179:=n0_
    have HB:=n1_
    clear n0_ n1_
    (try clear hb)
    (try clear hb2)
    (try clear hk)
    (try clear hi)
    refine hK.out _ _ ⟨(blk_cell BK179.out 0).trans rfl,(blk_cell BK179.out 1).trans rfl,(blk_cell BK179.out 2).trans rfl,(blk_cell BK179.out 3).trans rfl⟩ (fun hHeld => ?_)
    clear hK K
    refine norm_ (a' := ?_) ?_ ?_
    rotate_left
    ·show Act.put _ (some 15) _ = _
     simp only [Act.put,List.setIfInBounds_toArray,List.set_cons_zero,List.set_cons_succ,i64_w,i32_w]
     rfl
    refine one_ (i:=5) (N:=some 18) #[true,true,true,true,true,true,false,false,false] rfl rfl (one_of HT_.out (by kernel_rfl)) (by decide) (fun K hK => ?_)
    refine goes_ Try.func35 (by kernel_rfl) rfl #[.string a0_1] (by rfl) rfl rfl (by (try simp only [List.map_toArray,List.map_cons,List.map_nil]);first | done | rfl | (simp only [List.length_drop,List.length_take];rfl)) ?_
    with_reducible refine (thwartref01_Text.calls k a0_1 t182 _ A6.out).mono ?_
    rintro e w14 ⟨rfl,hb⟩
    refine ⟨_,rfl,?_⟩
    have n0_:=Aside0.mk (blk_below (g:=gb179) (o := .cells #[.int .u64 a0_0,.string a0_1,.string a0_2,.bool true] 24 (0,0)) (by (with_reducible repeat (first | refine blk_drewN ?_ _ | refine blk_drew ?_ | refine blk_alloc ?_ _));exact BK179.out) hb)
    have n1_:=Aside0.mk (below_step (by repeat (first | (with_reducible first | exact HB.out | apply below_alloc | apply pw_below_drewN | apply below_drew1 | refine below_set ?_ GE179.out) | exact HB.out)) hb)
    clear BK179
    clear HB
    have BK179:=n0_
    have HB:=n1_
    clear n0_ n1_
    (try clear hb)
    (try clear hb2)
    (try clear hk)
    (try clear hi)
    refine hK.out _ _ ⟨(blk_cell BK179.out 0).trans rfl,(blk_cell BK179.out 1).trans rfl,(blk_cell BK179.out 2).trans rfl,(blk_cell BK179.out 3).trans rfl⟩ (fun hHeld => ?_)
    clear hK K
    refine norm_ (a' := ?_) ?_ ?_
    rotate_left
    ·show Act.put _ (some 18) _ = _
     simp only [Act.put,List.setIfInBounds_toArray,List.set_cons_zero,List.set_cons_succ,i64_w,i32_w]
     rfl
    refine pure_ (i:=6) (N:=some 19) (v := ?_) (a' := ?_) #[true,true,true,true,true,true,true,false,false] rfl rfl (any_of HT_.out (by kernel_rfl)) (fun _ _ _ h => h) (Or.inl ⟨by rfl,?_⟩) ?_ ?_
    rotate_left
    ·intro w'
     go_simp
     with_reducible rfl
    rotate_left
    ·simp only [Act.put,List.setIfInBounds_toArray,List.set_cons_zero,List.set_cons_succ,i64_w,i32_w]
     rfl
    refine pure_ (i:=7) (N:=some 2) (v := ?_) (a' := ?_) #[true,true,true,true,true,true,true,true,false] rfl rfl (any_of HT_.out (by kernel_rfl)) (fun _ _ _ h => h) (Or.inl ⟨by rfl,?_⟩) ?_ ?_
    rotate_left
    ·intro w'
     go_simp
     with_reducible rfl
    rotate_left
    ·simp only [Act.put,List.setIfInBounds_toArray,List.set_cons_zero,List.set_cons_succ,i64_w,i32_w]
     rfl
    refine pure_ (i:=8) (N:=some 3) (v := ?_) (a' := ?_) #[true,true,true,true,true,true,true,true,true] rfl rfl (any_of HT_.out (by kernel_rfl)) (fun _ _ _ h => h) (Or.inl ⟨by rfl,?_⟩) ?_ ?_
    rotate_left
    ·intro w'
     go_simp
     with_reducible rfl
    rotate_left
    ·simp only [Act.put,List.setIfInBounds_toArray,List.set_cons_zero,List.set_cons_succ,i64_w,i32_w]
     rfl
    refine done_ (done_of HT_.out (by kernel_rfl)) ?_
    try go_wp2
    go_ret2
    exact ⟨by first | rfl | (simp [errW_none,errW_some] <;> rfl) | (simp [*,errW_none,errW_some] <;> rfl) | (simp [errW_none,errW_some];exact isEmpty_bne _),by repeat (first | (with_reducible first | exact HB.out | apply below_alloc | apply pw_below_drewN | apply below_drew1 | refine below_set ?_ GE179.out) | exact HB.out)⟩
   ·rw [if_neg c7] at H
    exact absurd H (by simp)
  ·replace c4:=Bool.eq_false_iff.mpr c4
   subst c4
   have H1 : ((thwartref01_Put.f k (IntKind.u64.wrap (2 * a0_0))).bind fun t183 => ((thwartref01_Text.f k a0_1).bind fun t184 => (if t183.size + t184.size ≤ 9223372036854775807 then ((thwartref01_Text.f k a0_2).bind fun t185 => (if t183.size + t184.size + t185.size ≤ 9223372036854775807 then (some ((t183 ++ t184) ++ t185,0)) else (none))) else (none)))) = some (r1,r2):=by rw [if_neg (show ¬ (false = true) by decide)] at H;exact H
   clear H
   have H:=H1
   clear H1
   replace H:=Option.bind_eq_some_iff.mp H
   obtain ⟨t183,A150,H⟩:=H
   replace H : ((thwartref01_Text.f k a0_1).bind fun t184 => (if t183.size + t184.size ≤ 9223372036854775807 then ((thwartref01_Text.f k a0_2).bind fun t185 => (if t183.size + t184.size + t185.size ≤ 9223372036854775807 then (some ((t183 ++ t184) ++ t185,0)) else (none))) else (none))) = some (r1,r2):=H
   have A15:=Aside0.mk A150
   clear A150
   replace H:=Option.bind_eq_some_iff.mp H
   obtain ⟨t184,A160,H⟩:=H
   replace H : (if t183.size + t184.size ≤ 9223372036854775807 then ((thwartref01_Text.f k a0_2).bind fun t185 => (if t183.size + t184.size + t185.size ≤ 9223372036854775807 then (some ((t183 ++ t184) ++ t185,0)) else (none))) else (none)) = some (r1,r2):=H
   have A16:=Aside0.mk A160
   clear A160
   by_cases c17 : t183.size + t184.size ≤ 9223372036854775807
   ·rw [if_pos c17] at H
    have c17b0:=eq_true c17
    have c17b1 : decide (t183.size + t184.size ≤ 9223372036854775807) = true:=decide_eq_true c17
    try have c17b2 : (9223372036854775807 < t183.size + t184.size) = False:=eq_false (Nat.not_lt.2 c17)
    replace H:=Option.bind_eq_some_iff.mp H
    obtain ⟨t185,A180,H⟩:=H
    replace H : (if t183.size + t184.size + t185.size ≤ 9223372036854775807 then (some ((t183 ++ t184) ++ t185,0)) else (none)) = some (r1,r2):=H
    have A18:=Aside0.mk A180
    clear A180
    by_cases c19 : t183.size + t184.size + t185.size ≤ 9223372036854775807
    ·rw [if_pos c19] at H
     have c19b0:=eq_true c19
     have c19b1 : decide (t183.size + t184.size + t185.size ≤ 9223372036854775807) = true:=decide_eq_true c19
     try have c19b2 : (9223372036854775807 < t183.size + t184.size + t185.size) = False:=eq_false (Nat.not_lt.2 c19)
     simp only [Option.some.injEq,Prod.mk.injEq] at H
     obtain ⟨rfl,rfl⟩:=H
     go_enter Try.func12,Try.ntmps12
     try go_wp2_with (first | ((with_reducible refine gate_dst (N:=1) rfl ?_);refine box_event ?hg (N:=1) ?hd (cs := #[.int .u64 a0_0,.string a0_1,.string a0_2,.bool false]) (t:=24) ?hr ?_;(case hd => rfl);(case hg => rfl);(case hr => first | (go_simp;done) | (go_simp;rfl));intro gb179 hg w20 hbox hb;have n0_:=Aside0.mk (below_step (by repeat (first | (with_reducible first | exact HB.out | apply below_alloc | apply pw_below_drewN | apply below_drew1) | exact HB.out)) hb);have n1_:=Aside0.mk (hbox);have n2_:=Aside0.mk ((by rw [hg];exact (below_size (by repeat (first | (with_reducible first | exact HB.out | apply below_alloc | apply pw_below_drewN | apply below_drew1) | exact HB.out))) : w.heap.size ≤ gb179));have n3_:=Aside0.mk ((by rw [hg];exact (below_size (by repeat (first | (with_reducible first | exact HB.out | apply below_alloc | apply pw_below_drewN | apply below_drew1) | exact HB.out))) : w.heap.size ≤ gb179));clear HB;have HB:=n0_;have BK179:=n1_;have GW179:=n2_;have GE179:=n3_;clear n0_ n1_ n2_ n3_;clear hb hbox hg;have hcz21_0 : w20.cell? ⟨gb179,0,none⟩ = some (.int .u64 a0_0):=(blk_cell BK179.out 0).trans rfl;have hcz21_1 : w20.cell? ⟨gb179,1,none⟩ = some (.string a0_1):=(blk_cell BK179.out 1).trans rfl;have hcz21_2 : w20.cell? ⟨gb179,2,none⟩ = some (.string a0_2):=(blk_cell BK179.out 2).trans rfl;have hcz21_3 : w20.cell? ⟨gb179,3,none⟩ = some (.bool false):=(blk_cell BK179.out 3).trans rfl;have hfz21_0:=blk_frozen BK179.out 0;have hfz21_1:=blk_frozen BK179.out 1;have hfz21_2:=blk_frozen BK179.out 2;have hfz21_3:=blk_frozen BK179.out 3) | ((with_reducible refine gate_callee (f:=16) rfl ?_);refine goesL_ (some 6) rfl rfl Try.func16 (by kernel_rfl) rfl #[.agg #[.int .u64 a0_0,.string a0_1,.string a0_2,.bool false]] rfl (by (try simp only [List.map_toArray,List.map_cons,List.map_nil]);first | done | rfl | (simp only [List.length_drop,List.length_take];rfl)) ?_;(with_reducible refine (thwartref03_Right.calls a0_0 a0_1 a0_2 false true _ A2.out).mono ?_);rintro e w22 ⟨rfl,hb⟩;refine ⟨_,rfl,?_⟩;have n0_:=Aside0.mk (blk_below (g:=gb179) (o := .cells #[.int .u64 a0_0,.string a0_1,.string a0_2,.bool false] 24 (0,0)) (by (with_reducible repeat (first | refine blk_drewN ?_ _ | refine blk_drew ?_ | refine blk_alloc ?_ _));exact BK179.out) hb);have n1_:=Aside0.mk (below_step (by repeat (first | (with_reducible first | exact HB.out | apply below_alloc | apply pw_below_drewN | apply below_drew1 | refine below_set ?_ GE179.out) | exact HB.out)) hb);clear BK179;clear HB;have BK179:=n0_;have HB:=n1_;clear n0_ n1_;(try clear hb);(try clear hb2);(try clear hk);(try clear hi);have hcz23_0 : w22.cell? ⟨gb179,0,none⟩ = some (.int .u64 a0_0):=(blk_cell BK179.out 0).trans rfl;have hcz23_1 : w22.cell? ⟨gb179,1,none⟩ = some (.string a0_1):=(blk_cell BK179.out 1).trans rfl;have hcz23_2 : w22.cell? ⟨gb179,2,none⟩ = some (.string a0_2):=(blk_cell BK179.out 2).trans rfl;have hcz23_3 : w22.cell? ⟨gb179,3,none⟩ = some (.bool false):=(blk_cell BK179.out 3).trans rfl;have hfz23_0:=blk_frozen BK179.out 0;have hfz23_1:=blk_frozen BK179.out 1;have hfz23_2:=blk_frozen BK179.out 2;have hfz23_3:=blk_frozen BK179.out 3))
     have n0_:=Aside0.mk (blk_drew BK179.out)
     have n1_:=Aside0.mk (below_drew1 HB.out)
     clear BK179
     clear HB
     have BK179:=n0_
     have HB:=n1_
     clear n0_ n1_
     refine start_ (n:=12) (S:=fun w' => w'.cell? ⟨gb179,0,none⟩ = some (.int .u64 a0_0) ∧ w'.cell? ⟨gb179,1,none⟩ = some (.string a0_1) ∧ w'.cell? ⟨gb179,2,none⟩ = some (.string a0_2) ∧ w'.cell? ⟨gb179,3,none⟩ = some (.bool false)) (ds:=[]) #[false,false,false,false,false,false,false,false,false,false,false,false] (by kernel_rfl) rfl rfl ⟨(blk_cell BK179.out 0).trans rfl,(blk_cell BK179.out 1).trans rfl,(blk_cell BK179.out 2).trans rfl,(blk_cell BK179.out 3).trans rfl⟩ (fun hHeld => ?_);refine with_tabW thwartref03_Bytes.tab6 thwartref03_Bytes.bits6 (fun HT_ HW_ => ?_)
     generalize w22.drew = w24 at BK179 HB hHeld ⊢
     refine pure_ (i:=0) (N:=some 20) (v := ?_) (a' := ?_) #[true,false,false,false,false,false,false,false,false,false,false,false] rfl rfl (any_of HT_.out (by kernel_rfl)) (fun _ _ _ h => h) (Or.inl ⟨by rfl,?_⟩) ?_ ?_
     rotate_left
     ·intro w'
      go_simp
      with_reducible rfl
     rotate_left
     ·simp only [Act.put,List.setIfInBounds_toArray,List.set_cons_zero,List.set_cons_succ,i64_w,i32_w]
      rfl
     refine pure_ (i:=2) (N:=some 22) (v := ?_) (a' := ?_) #[true,false,true,false,false,false,false,false,false,false,false,false] rfl rfl (any_of HT_.out (by kernel_rfl)) (fun _ _ _ h => h) (Or.inl ⟨by rfl,?_⟩) ?_ ?_
     rotate_left
     ·intro w'
      go_simp
      with_reducible rfl
     rotate_left
     ·simp only [Act.put,List.setIfInBounds_toArray,List.set_cons_zero,List.set_cons_succ,i64_w,i32_w]
      rfl
     refine pure_ (i:=6) (N:=some 26) (v := ?_) (a' := ?_) #[true,false,true,false,false,false,true,false,false,false,false,false] rfl rfl (any_of HT_.out (by kernel_rfl)) (fun _ _ _ h => h) (Or.inl ⟨by rfl,?_⟩) ?_ ?_
     rotate_left
     ·intro w'
      go_simp
      with_reducible rfl
     rotate_left
     ·simp only [Act.put,List.setIfInBounds_toArray,List.set_cons_zero,List.set_cons_succ,i64_w,i32_w]
      rfl
     refine take_ (i:=3) (N:=some 23) (v := ?_) (a' := ?_) #[true,false,true,true,false,false,true,false,false,false,false,false] rfl rfl (take_ofW HT_.out HW_.out (by kernel_rfl)) (fun _ _ _ h => h) (Or.inl ⟨by rfl,?_⟩) hHeld ?_ ?_
     rotate_left
     ·rintro w' ⟨s0,s1,s2,s3⟩
      go_simp
      with_reducible rfl
     rotate_left
     ·simp only [Act.put,List.setIfInBounds_toArray,List.set_cons_zero,List.set_cons_succ,i64_w,i32_w]
      rfl
     refine take_ (i:=7) (N:=some 27) (v := ?_) (a' := ?_) #[true,false,true,true,false,false,true,true,false,false,false,false] rfl rfl (take_ofW HT_.out HW_.out (by kernel_rfl)) (fun _ _ _ h => h) (Or.inl ⟨by rfl,?_⟩) hHeld ?_ ?_
     rotate_left
     ·rintro w' ⟨s0,s1,s2,s3⟩
      go_simp
      with_reducible rfl
     rotate_left
     ·simp only [Act.put,List.setIfInBounds_toArray,List.set_cons_zero,List.set_cons_succ,i64_w,i32_w]
      rfl
     refine one_ (i:=1) (N:=some 21) #[true,true,true,true,false,false,true,true,false,false,false,false] rfl rfl (one_of HT_.out (by kernel_rfl)) (by decide) (fun K hK => ?_)
     refine goes_ Try.func34 (by kernel_rfl) rfl #[.int .u64 (IntKind.u64.wrap (2 * a0_0))] (by rfl) rfl rfl (by (try simp only [List.map_toArray,List.map_cons,List.map_nil]);first | done | rfl | (simp only [List.length_drop,List.length_take];rfl)) ?_
     with_reducible refine (thwartref01_Put.calls k (IntKind.u64.wrap (2 * a0_0)) t183 _ A15.out).mono ?_
     rintro e w25 ⟨rfl,hb⟩
     refine ⟨_,rfl,?_⟩
     have n0_:=Aside0.mk (blk_below (g:=gb179) (o := .cells #[.int .u64 a0_0,.string a0_1,.string a0_2,.bool false] 24 (0,0)) (by (with_reducible repeat (first | refine blk_drewN ?_ _ | refine blk_drew ?_ | refine blk_alloc ?_ _));exact BK179.out) hb)
     have n1_:=Aside0.mk (below_step (by repeat (first | (with_reducible first | exact HB.out | apply below_alloc | apply pw_below_drewN | apply below_drew1 | refine below_set ?_ GE179.out) | exact HB.out)) hb)
     clear BK179
     clear HB
     have BK179:=n0_
     have HB:=n1_
     clear n0_ n1_
     (try clear hb)
     (try clear hb2)
     (try clear hk)
     (try clear hi)
     refine hK.out _ _ ⟨(blk_cell BK179.out 0).trans rfl,(blk_cell BK179.out 1).trans rfl,(blk_cell BK179.out 2).trans rfl,(blk_cell BK179.out 3).trans rfl⟩ (fun hHeld => ?_)
     clear hK K
     refine norm_ (a' := ?_) ?_ ?_
     rotate_left
     ·show Act.put _ (some 21) _ = _
      simp only [Act.put,List.setIfInBounds_toArray,List.set_cons_zero,List.set_cons_succ,i64_w,i32_w]
      rfl
     refine one_ (i:=4) (N:=some 24) #[true,true,true,true,true,false,true,true,false,false,false,false] rfl rfl (one_of HT_.out (by kernel_rfl)) (by decide) (fun K hK => ?_)
     refine goes_ Try.func35 (by kernel_rfl) rfl #[.string a0_1] (by rfl) rfl rfl (by (try simp only [List.map_toArray,List.map_cons,List.map_nil]);first | done | rfl | (simp only [List.length_drop,List.length_take];rfl)) ?_
     with_reducible refine (thwartref01_Text.calls k a0_1 t184 _ A16.out).mono ?_
     rintro e w26 ⟨rfl,hb⟩
     refine ⟨_,rfl,?_⟩
     have n0_:=Aside0.mk (blk_below (g:=gb179) (o := .cells #[.int .u64 a0_0,.string a0_1,.string a0_2,.bool false] 24 (0,0)) (by (with_reducible repeat (first | refine blk_drewN ?_ _ | refine blk_drew ?_ | refine blk_alloc ?_ _));exact BK179.out) hb)
     have n1_:=Aside0.mk (below_step (by repeat (first | (with_reducible first | exact HB.out | apply below_alloc | apply pw_below_drewN | apply below_drew1 | refine below_set ?_ GE179.out) | exact HB.out)) hb)
     clear BK179
     clear HB
     have BK179:=n0_
     have HB:=n1_
     clear n0_ n1_
     (try clear hb)
     (try clear hb2)
     (try clear hk)
     (try clear hi)
     refine hK.out _ _ ⟨(blk_cell BK179.out 0).trans rfl,(blk_cell BK179.out 1).trans rfl,(blk_cell BK179.out 2).trans rfl,(blk_cell BK179.out 3).trans rfl⟩ (fun hHeld => ?_)
     clear hK K
     refine norm_ (a' := ?_) ?_ ?_
     rotate_left
     ·show Act.put _ (some 24) _ = _
      simp only [Act.put,List.setIfInBounds_toArray,List.set_cons_zero,List.set_cons_succ,i64_w,i32_w]
      rfl
     refine pure_ (i:=5) (N:=some 25) (v := ?_) (a' := ?_) #[true,true,true,true,true,true,true,true,false,false,false,false] rfl rfl (any_of HT_.out (by kernel_rfl)) (fun _ _ _ h => h) (Or.inl ⟨by rfl,?_⟩) ?_ ?_
     rotate_left
     ·intro w'
      go_simp
      with_reducible rfl
     rotate_left
     ·simp only [Act.put,List.setIfInBounds_toArray,List.set_cons_zero,List.set_cons_succ,i64_w,i32_w]
      rfl
     refine one_ (i:=8) (N:=some 28) #[true,true,true,true,true,true,true,true,true,false,false,false] rfl rfl (one_of HT_.out (by kernel_rfl)) (by decide) (fun K hK => ?_)
     refine goes_ Try.func35 (by kernel_rfl) rfl #[.string a0_2] (by rfl) rfl rfl (by (try simp only [List.map_toArray,List.map_cons,List.map_nil]);first | done | rfl | (simp only [List.length_drop,List.length_take];rfl)) ?_
     with_reducible refine (thwartref01_Text.calls k a0_2 t185 _ A18.out).mono ?_
     rintro e w27 ⟨rfl,hb⟩
     refine ⟨_,rfl,?_⟩
     have n0_:=Aside0.mk (blk_below (g:=gb179) (o := .cells #[.int .u64 a0_0,.string a0_1,.string a0_2,.bool false] 24 (0,0)) (by (with_reducible repeat (first | refine blk_drewN ?_ _ | refine blk_drew ?_ | refine blk_alloc ?_ _));exact BK179.out) hb)
     have n1_:=Aside0.mk (below_step (by repeat (first | (with_reducible first | exact HB.out | apply below_alloc | apply pw_below_drewN | apply below_drew1 | refine below_set ?_ GE179.out) | exact HB.out)) hb)
     clear BK179
     clear HB
     have BK179:=n0_
     have HB:=n1_
     clear n0_ n1_
     (try clear hb)
     (try clear hb2)
     (try clear hk)
     (try clear hi)
     refine hK.out _ _ ⟨(blk_cell BK179.out 0).trans rfl,(blk_cell BK179.out 1).trans rfl,(blk_cell BK179.out 2).trans rfl,(blk_cell BK179.out 3).trans rfl⟩ (fun hHeld => ?_)
     clear hK K
     refine norm_ (a' := ?_) ?_ ?_
     rotate_left
     ·show Act.put _ (some 28) _ = _
      simp only [Act.put,List.setIfInBounds_toArray,List.set_cons_zero,List.set_cons_succ,i64_w,i32_w]
      rfl
     refine pure_ (i:=9) (N:=some 29) (v := ?_) (a' := ?_) #[true,true,true,true,true,true,true,true,true,true,false,false] rfl rfl (any_of HT_.out (by kernel_rfl)) (fun _ _ _ h => h) (Or.inl ⟨by rfl,?_⟩) ?_ ?_
     rotate_left
     ·intro w'
      go_simp
      with_reducible rfl
     rotate_left
     ·simp only [Act.put,List.setIfInBounds_toArray,List.set_cons_zero,List.set_cons_succ,i64_w,i32_w]
      rfl
     refine pure_ (i:=10) (N:=some 2) (v := ?_) (a' := ?_) #[true,true,true,true,true,true,true,true,true,true,true,false] rfl rfl (any_of HT_.out (by kernel_rfl)) (fun _ _ _ h => h) (Or.inl ⟨by rfl,?_⟩) ?_ ?_
     rotate_left
     ·intro w'
      go_simp
      with_reducible rfl
     rotate_left
     ·simp only [Act.put,List.setIfInBounds_toArray,List.set_cons_zero,List.set_cons_succ,i64_w,i32_w]
      rfl
     refine pure_ (i:=11) (N:=some 3) (v := ?_) (a' := ?_) #[true,true,true,true,true,true,true,true,true,true,true,true] rfl rfl (any_of HT_.out (by kernel_rfl)) (fun _ _ _ h => h) (Or.inl ⟨by rfl,?_⟩) ?_ ?_
     rotate_left
     ·intro w'
      go_simp
      with_reducible rfl
     rotate_left
     ·simp only [Act.put,List.setIfInBounds_toArray,List.set_cons_zero,List.set_cons_succ,i64_w,i32_w]
      rfl
     refine done_ (done_of HT_.out (by kernel_rfl)) ?_
     try go_wp2
     go_ret2
     exact ⟨by first | rfl | (simp [errW_none,errW_some] <;> rfl) | (simp [*,errW_none,errW_some] <;> rfl) | (simp [errW_none,errW_some];exact isEmpty_bne _),by repeat (first | (with_reducible first | exact HB.out | apply below_alloc | apply pw_below_drewN | apply below_drew1 | refine below_set ?_ GE179.out) | exact HB.out)⟩
    ·rw [if_neg c19] at H
     exact absurd H (by simp)
   ·rw [if_neg c17] at H
    exact absurd H (by simp)
 ·replace c3:=Bool.eq_false_iff.mpr c3
  subst c3
  have H1 : (some ((⟨#[]⟩ : ByteArray),1)) = some (r1,r2):=by rw [if_neg (show ¬ (false = true) by decide)] at H;exact H
  clear H
  have H:=H1
  clear H1
  simp only [Option.some.injEq,Prod.mk.injEq] at H
  obtain ⟨rfl,rfl⟩:=H
  go_enter Try.func12,Try.ntmps12
  go_wp2_with (first | ((with_reducible refine gate_dst (N:=1) rfl ?_);refine box_event ?hg (N:=1) ?hd (cs := #[.int .u64 a0_0,.string a0_1,.string a0_2,.bool a0_3]) (t:=24) ?hr ?_;(case hd => rfl);(case hg => rfl);(case hr => first | (go_simp;done) | (go_simp;rfl));intro gb179 hg w28 hbox hb;have n0_:=Aside0.mk (below_step (by repeat (first | (with_reducible first | exact HB.out | apply below_alloc | apply pw_below_drewN | apply below_drew1) | exact HB.out)) hb);have n1_:=Aside0.mk (hbox);have n2_:=Aside0.mk ((by rw [hg];exact (below_size (by repeat (first | (with_reducible first | exact HB.out | apply below_alloc | apply pw_below_drewN | apply below_drew1) | exact HB.out))) : w.heap.size ≤ gb179));have n3_:=Aside0.mk ((by rw [hg];exact (below_size (by repeat (first | (with_reducible first | exact HB.out | apply below_alloc | apply pw_below_drewN | apply below_drew1) | exact HB.out))) : w.heap.size ≤ gb179));clear HB;have HB:=n0_;have BK179:=n1_;have GW179:=n2_;have GE179:=n3_;clear n0_ n1_ n2_ n3_;clear hb hbox hg;have hcz29_0 : w28.cell? ⟨gb179,0,none⟩ = some (.int .u64 a0_0):=(blk_cell BK179.out 0).trans rfl;have hcz29_1 : w28.cell? ⟨gb179,1,none⟩ = some (.string a0_1):=(blk_cell BK179.out 1).trans rfl;have hcz29_2 : w28.cell? ⟨gb179,2,none⟩ = some (.string a0_2):=(blk_cell BK179.out 2).trans rfl;have hcz29_3 : w28.cell? ⟨gb179,3,none⟩ = some (.bool a0_3):=(blk_cell BK179.out 3).trans rfl;have hfz29_0:=blk_frozen BK179.out 0;have hfz29_1:=blk_frozen BK179.out 1;have hfz29_2:=blk_frozen BK179.out 2;have hfz29_3:=blk_frozen BK179.out 3) | ((with_reducible refine gate_callee (f:=16) rfl ?_);refine goesL_ (some 6) rfl rfl Try.func16 (by kernel_rfl) rfl #[.agg #[.int .u64 a0_0,.string a0_1,.string a0_2,.bool a0_3]] rfl (by (try simp only [List.map_toArray,List.map_cons,List.map_nil]);first | done | rfl | (simp only [List.length_drop,List.length_take];rfl)) ?_;(with_reducible refine (thwartref03_Right.calls a0_0 a0_1 a0_2 a0_3 false _ A2.out).mono ?_);rintro e w30 ⟨rfl,hb⟩;refine ⟨_,rfl,?_⟩;have n0_:=Aside0.mk (blk_below (g:=gb179) (o := .cells #[.int .u64 a0_0,.string a0_1,.string a0_2,.bool a0_3] 24 (0,0)) (by (with_reducible repeat (first | refine blk_drewN ?_ _ | refine blk_drew ?_ | refine blk_alloc ?_ _));exact BK179.out) hb);have n1_:=Aside0.mk (below_step (by repeat (first | (with_reducible first | exact HB.out | apply below_alloc | apply pw_below_drewN | apply below_drew1 | refine below_set ?_ GE179.out) | exact HB.out)) hb);clear BK179;clear HB;have BK179:=n0_;have HB:=n1_;clear n0_ n1_;(try clear hb);(try clear hb2);(try clear hk);(try clear hi)))
  go_ret2
  exact ⟨by first | rfl | (simp [errW_none,errW_some] <;> rfl) | (simp [*,errW_none,errW_some] <;> rfl) | (simp [errW_none,errW_some];exact isEmpty_bne _),by repeat (first | (with_reducible first | exact HB.out | apply below_alloc | apply pw_below_drewN | apply below_drew1 | refine below_set ?_ GE179.out) | exact HB.out)⟩

/-! ### thwartref03_All: function 19 -/
def thwartref03_All.l0 : Nat → List (S24) → ByteArray → Int → Option (ByteArray × Int)
 | 0,_,_,_ => none
 | k + 1,x0,x4,x5 => if x5 < (x0.length : Int) then (if 0 ≤ x5 then ((thwartref03_Bytes.f k ((rd_T24 x0 x5).f0) ((rd_T24 x0 x5).f1) ((rd_T24 x0 x5).f2) ((rd_T24 x0 x5).f3)).bind fun bt187 => (if bt187.2 = 0 then (if x4.size + bt187.1.size ≤ 9223372036854775807 then (thwartref03_All.l0 k x0 (x4 ++ bt187.1) (wrap64 (x5 + 1))) else (none)) else (some ((⟨#[]⟩ : ByteArray),bt187.2)))) else (none)) else (some (x4,0))
def thwartref03_All.f (k : Nat) (l0 : List (S24)) : Option (ByteArray × Int):=thwartref03_All.l0 k l0 (⟨#[]⟩ : ByteArray) 0
theorem thwartref03_All.mono_l : ∀ k,(∀ y0 y1 y2,LeO (thwartref03_All.l0 k y0 y1 y2) (thwartref03_All.l0 (k + 1) y0 y1 y2))
 | 0 => fun _ _ _ r h => by simp [thwartref03_All.l0] at h
 | k + 1 => by
  have ih0:=thwartref03_All.mono_l k
  ·intro y0 y1 y2
   unfold thwartref03_All.l0
   repeat' first
   | (with_reducible exact ih0 _ _ _)
   | (with_reducible exact thwartref03_Bytes.mono _ _ _ _ _)
   | (with_reducible exact LeO.refl _)
   | (with_reducible exact LeO.none _)
   | (with_reducible refine LeO.ite ?_ ?_)
   | (with_reducible refine LeO.bind ?_ (fun _ => ?_))
   | exact ih0 _ _ _
   | exact thwartref03_Bytes.mono _ _ _ _ _
   | exact LeO.none _
   | refine LeO.ite ?_ ?_
   | refine LeO.bind ?_ (fun _ => ?_)
theorem thwartref03_All.mono : ∀ a0 k,LeO (thwartref03_All.f k a0) (thwartref03_All.f (k + 1) a0):=by
 intro a0 k
 have ih0:=thwartref03_All.mono_l k
 unfold thwartref03_All.f
 repeat' first
   | (with_reducible exact ih0 _ _ _)
   | (with_reducible exact thwartref03_Bytes.mono _ _ _ _ _)
   | (with_reducible exact LeO.refl _)
   | (with_reducible exact LeO.none _)
   | (with_reducible refine LeO.ite ?_ ?_)
   | (with_reducible refine LeO.bind ?_ (fun _ => ?_))
   | exact ih0 _ _ _
   | exact thwartref03_Bytes.mono _ _ _ _ _
   | exact LeO.none _
   | refine LeO.ite ?_ ?_
   | refine LeO.bind ?_ (fun _ => ?_)
set_option maxHeartbeats 8000000 in
set_option maxRecDepth 100000 in
theorem thwartref03_All.calls (k : Nat) (A0 : Option Addr) (c0 : Nat) (l0 : List (S24)) (r1 : ByteArray) (r2 : Int) (w : World) (hr0 : Kd.C k24 w A0 l0.length l0) (hc0 : l0.length ≤ c0) (h : thwartref03_All.f k l0 = some (r1,r2)) :
  Calls Try.prog 19 #[.slice A0 l0.length c0] w fun e w' => e = .returned (.tuple #[.string r1,.int .i64 r2]) ∧ Below w.heap.size w w' := by
 have hu24:=Try.underlying24
 have HR0:=Aside0.mk hr0
 have HC0:=Aside0.mk hc0
 clear hr0 hc0
 have HB:=Aside0.mk (Below.refl w.heap.size w)
 have H : (thwartref03_All.l0 k l0 (⟨#[]⟩ : ByteArray) 0) = some (r1,r2):=h
 clear h
 have H' := Aside0.mk H
 clear H
 go_enter Try.func19,Try.ntmps19
 go_wp2
 go_loopg [4,5] k (fun kq v4 v5 w' => ∃ (x4_1 : ByteArray) (x5_1 : Int),v4 = .string x4_1 ∧ v5 = .int .i64 x5_1 ∧ Aside0 (thwartref03_All.l0 kq l0 x4_1 x5_1 = some (r1,r2)) ∧ Aside0 (kq ≤ k) ∧ Aside0 (Below w.heap.size w w'))
 case atStart => exact ⟨((⟨#[]⟩ : ByteArray)),(0),(by first | rfl | (simp;done) | (simp [*];done)),(by first | rfl | (simp;done) | (simp [*];done)),H',⟨Nat.le_refl _⟩,⟨by repeat (first | (with_reducible first | exact HB.out | apply below_alloc | apply pw_below_drewN | apply below_drew1) | exact HB.out)⟩⟩
 case round =>
  clear H'
  try clear c1
  obtain ⟨x4_1,x5_1,rfl,rfl,HA,HK1,HB⟩:=hrel
  cases gk with
  | zero => exact absurd HA.out (by simp [thwartref03_All.l0])
  | succ k1 =>
   have H:=HA.out
   clear HA
   simp only [thwartref03_All.l0] at H
   by_cases c2 : x5_1 < (l0.length : Int)
   ·rw [if_pos c2] at H
    have c2b0 : decide (x5_1 < (l0.length : Int)) = true:=decide_eq_true c2
    clear c2
    by_cases c3 : 0 ≤ x5_1
    ·rw [if_pos c3] at H
     have c3b0 : decide (0 ≤ x5_1) = true:=decide_eq_true c3
     clear c3
     replace H:=Option.bind_eq_some_iff.mp H
     obtain ⟨⟨t187,t188⟩,A40,H⟩:=H
     replace H : (if t188 = 0 then (if x4_1.size + t187.size ≤ 9223372036854775807 then (thwartref03_All.l0 k1 l0 (x4_1 ++ t187) (wrap64 (x5_1 + 1))) else (none)) else (some ((⟨#[]⟩ : ByteArray),t188))) = some (r1,r2):=H
     have A4:=Aside0.mk A40
     clear A40
     by_cases c5 : t188 = 0
     ·rw [if_pos c5] at H
      have c5b0 : (t188 == 0) = true:=beq_iff_eq.mpr c5
      have c5b1 : (t188 != 0) = false:=bne_eq_false_iff_eq.mpr c5
      clear c5
      by_cases c6 : x4_1.size + t187.size ≤ 9223372036854775807
      ·rw [if_pos c6] at H
       have c6b0:=eq_true c6
       have c6b1 : decide (x4_1.size + t187.size ≤ 9223372036854775807) = true:=decide_eq_true c6
       try have c6b2 : (9223372036854775807 < x4_1.size + t187.size) = False:=eq_false (Nat.not_lt.2 c6)
       have H' := Aside0.mk H
       clear H
       have p186 : 0 ≤ (x5_1 : Int):=of_decide_eq_true (by first | (with_reducible assumption) | assumption)
       have q186 : x5_1 < (l0.length : Int):=of_decide_eq_true (by first | (with_reducible assumption) | assumption)
       obtain ⟨ad186,e186,hx186_0,hx186_1,hx186_2,hx186_3⟩:=at_T24 HR0.out x5_1 p186 q186
       cases e186
       replace hx186_0:=(HB.out.cell (World.block_lt_of_cell? w _ hx186_0)).trans hx186_0
       replace hx186_1:=(HB.out.cell (World.block_lt_of_cell? w _ hx186_1)).trans hx186_1
       replace hx186_2:=(HB.out.cell (World.block_lt_of_cell? w _ hx186_2)).trans hx186_2
       replace hx186_3:=(HB.out.cell (World.block_lt_of_cell? w _ hx186_3)).trans hx186_3
       replace p186:=eq_true p186
       replace q186:=eq_true q186
       go_wp2_with (first | ((with_reducible refine gate_callee (f:=12) rfl ?_);refine goesL_ (some 19) rfl rfl Try.func12 (by kernel_rfl) rfl #[.agg #[.int .u64 ((rd_T24 l0 x5_1).f0),.string ((rd_T24 l0 x5_1).f1),.string ((rd_T24 l0 x5_1).f2),.bool ((rd_T24 l0 x5_1).f3)]] rfl (by (try simp only [List.map_toArray,List.map_cons,List.map_nil]);first | done | rfl | (simp only [List.length_drop,List.length_take];rfl)) ?_;(with_reducible refine (thwartref03_Bytes.calls k1 ((rd_T24 l0 x5_1).f0) ((rd_T24 l0 x5_1).f1) ((rd_T24 l0 x5_1).f2) ((rd_T24 l0 x5_1).f3) t187 t188 _ A4.out).mono ?_);rintro e w7 ⟨rfl,hb⟩;refine ⟨_,rfl,?_⟩;have n0_:=Aside0.mk (below_step (by repeat (first | (with_reducible first | exact HB.out | apply below_alloc | apply pw_below_drewN | apply below_drew1) | exact HB.out)) hb);clear HB;have HB:=n0_;clear n0_;(try clear hb);(try clear hb2);(try clear hk);(try clear hi)))
       go_roundg k1
       case measure => have:=HK1.out;omega
       case rel => exact ⟨(x4_1 ++ t187),(wrap64 (x5_1 + 1)),(by first | rfl | (simp;done) | (simp [*];done)),(by first | rfl | (simp;done) | (simp [*];done)),H',⟨by have:=HK1.out;omega⟩,⟨by repeat (first | (with_reducible first | exact HB.out | apply below_alloc | apply pw_below_drewN | apply below_drew1) | exact HB.out)⟩⟩
      ·rw [if_neg c6] at H
       exact absurd H (by simp)
     ·rw [if_neg c5] at H
      have c5b0 : (t188 == 0) = false:=beq_eq_false_iff_ne.mpr c5
      have c5b1 : (t188 != 0) = true:=bne_iff_ne.mpr c5
      simp only [Option.some.injEq,Prod.mk.injEq] at H
      obtain ⟨rfl,rfl⟩:=H
      have p186 : 0 ≤ (x5_1 : Int):=of_decide_eq_true (by first | (with_reducible assumption) | assumption)
      have q186 : x5_1 < (l0.length : Int):=of_decide_eq_true (by first | (with_reducible assumption) | assumption)
      obtain ⟨ad186,e186,hx186_0,hx186_1,hx186_2,hx186_3⟩:=at_T24 HR0.out x5_1 p186 q186
      cases e186
      replace hx186_0:=(HB.out.cell (World.block_lt_of_cell? w _ hx186_0)).trans hx186_0
      replace hx186_1:=(HB.out.cell (World.block_lt_of_cell? w _ hx186_1)).trans hx186_1
      replace hx186_2:=(HB.out.cell (World.block_lt_of_cell? w _ hx186_2)).trans hx186_2
      replace hx186_3:=(HB.out.cell (World.block_lt_of_cell? w _ hx186_3)).trans hx186_3
      replace p186:=eq_true p186
      replace q186:=eq_true q186
      go_wp2_with (first | ((with_reducible refine gate_callee (f:=12) rfl ?_);refine goesL_ (some 19) rfl rfl Try.func12 (by kernel_rfl) rfl #[.agg #[.int .u64 ((rd_T24 l0 x5_1).f0),.string ((rd_T24 l0 x5_1).f1),.string ((rd_T24 l0 x5_1).f2),.bool ((rd_T24 l0 x5_1).f3)]] rfl (by (try simp only [List.map_toArray,List.map_cons,List.map_nil]);first | done | rfl | (simp only [List.length_drop,List.length_take];rfl)) ?_;(with_reducible refine (thwartref03_Bytes.calls k1 ((rd_T24 l0 x5_1).f0) ((rd_T24 l0 x5_1).f1) ((rd_T24 l0 x5_1).f2) ((rd_T24 l0 x5_1).f3) t187 t188 _ A4.out).mono ?_);rintro e w8 ⟨rfl,hb⟩;refine ⟨_,rfl,?_⟩;have n0_:=Aside0.mk (below_step (by repeat (first | (with_reducible first | exact HB.out | apply below_alloc | apply pw_below_drewN | apply below_drew1) | exact HB.out)) hb);clear HB;have HB:=n0_;clear n0_;(try clear hb);(try clear hb2);(try clear hk);(try clear hi)))
      go_ret2
      exact ⟨by first | rfl | (simp [errW_none,errW_some] <;> rfl) | (simp [*,errW_none,errW_some] <;> rfl) | (simp [errW_none,errW_some];exact isEmpty_bne _),by repeat (first | (with_reducible first | exact HB.out | apply below_alloc | apply pw_below_drewN | apply below_drew1) | exact HB.out)⟩
    ·rw [if_neg c3] at H
     exact absurd H (by simp)
   ·rw [if_neg c2] at H
    have c2b0 : decide (x5_1 < (l0.length : Int)) = false:=decide_eq_false c2
    clear c2
    simp only [Option.some.injEq,Prod.mk.injEq] at H
    obtain ⟨rfl,rfl⟩:=H
    go_wp2
    go_ret2
    exact ⟨by first | rfl | (simp [errW_none,errW_some] <;> rfl) | (simp [*,errW_none,errW_some] <;> rfl) | (simp [errW_none,errW_some];exact isEmpty_bne _),by repeat (first | (with_reducible first | exact HB.out | apply below_alloc | apply pw_below_drewN | apply below_drew1) | exact HB.out)⟩

end Go.Proofs.Ytnhmhdconmollaa.Print
