/- Written by a program of mine (give.py, over the kit's print) out of the translation: contracts of the Go functions. Lean checks it. -/
import Derived.Test.YtdjkkceamldmjaaPrint0
import Derived.Test.YtdjkkceamldmjaaPrint4
namespace Go.Proofs.Ytdjkkceamldmjaa.Print
open Go.RowKit Go.Proofs.YtdjkkceamldmjaaW.PrintWords Go.Proofs.YtdjkkceamldmjaaW.PrintLast Go.Proofs.YtdjkkceamldmjaaW.PrintMore
attribute [local go_sem] max2_int min2_int max_two min_two max_three min_three max_four min_four   -- for this text's walks alone
set_option linter.unusedVariables false
set_option linter.unusedSimpArgs false

/-! ### hint_Bytes: function 9 -/
def hint_Bytes.l0 : Nat → ByteArray → List (S39) → Int → Int → Option (ByteArray × Int)
 | 0,_,_,_,_ => none
 | k + 1,x4,x14,x15,x16 => if x16 < x15 then (if 0 ≤ x16 then (if x16 < (x14.length : Int) then ((hint_right.f ((rd_T39 x14 x16).f0) ((rd_T39 x14 x16).f1) ((rd_T39 x14 x16).f2) ((rd_T39 x14 x16).f3) ((rd_T39 x14 x16).f4)).bind fun t106 => (if t106 = true then ((varint_Text.f ((rd_T39 x14 x16).f0)).bind fun t107 => ((varint_Put.f (IntKind.u64.wrap ((rd_T39 x14 x16).f1))).bind fun t108 => (if t107.size + t108.size ≤ 9223372036854775807 then ((hint_flag.f ((rd_T39 x14 x16).f4)).bind fun t109 => ((varint_Put.f (Go.bits .or .u64 (IntKind.u64.wrap ((IntKind.u64.wrap ((rd_T39 x14 x16).f2)) * 2)) t109)).bind fun t110 => (if t107.size + t108.size + t110.size ≤ 9223372036854775807 then ((varint_Put.f ((rd_T39 x14 x16).f3)).bind fun t111 => (if t107.size + t108.size + t110.size + t111.size ≤ 9223372036854775807 then (if x4.size + (t107.size + t108.size + t110.size + t111.size) ≤ 9223372036854775807 then (hint_Bytes.l0 k (x4 ++ (((t107 ++ t108) ++ t110) ++ t111)) x14 x15 (wrap64 (x16 + 1))) else (none)) else (none))) else (none)))) else (none)))) else (some ((⟨#[]⟩ : ByteArray),1)))) else (none)) else (none)) else ((crc_Seal.f x4).bind fun t103 => (some (t103,0)))
def hint_Bytes.f (k : Nat) (l0 : List (S39)) : Option (ByteArray × Int):=if (l0.length : Int) > 2000 then (some ((⟨#[]⟩ : ByteArray),1)) else ((varint_Put.f (IntKind.u64.wrap ((l0.length : Int)))).bind fun t102 => (hint_Bytes.l0 k t102 l0 (l0.length : Int) 0))
theorem hint_Bytes.mono_l : ∀ k,(∀ y0 y1 y2 y3,LeO (hint_Bytes.l0 k y0 y1 y2 y3) (hint_Bytes.l0 (k + 1) y0 y1 y2 y3))
 | 0 => fun _ _ _ _ r h => by simp [hint_Bytes.l0] at h
 | k + 1 => by
  have ih0:=hint_Bytes.mono_l k
  ·intro y0 y1 y2 y3
   unfold hint_Bytes.l0
   repeat' first
   | (with_reducible exact ih0 _ _ _ _)
   | (with_reducible exact LeO.refl _)
   | (with_reducible exact LeO.none _)
   | (with_reducible refine LeO.ite ?_ ?_)
   | (with_reducible refine LeO.bind ?_ (fun _ => ?_))
   | exact ih0 _ _ _ _
   | exact LeO.none _
   | refine LeO.ite ?_ ?_
   | refine LeO.bind ?_ (fun _ => ?_)
theorem hint_Bytes.mono : ∀ a0 k,LeO (hint_Bytes.f k a0) (hint_Bytes.f (k + 1) a0):=by
 intro a0 k
 have ih0:=hint_Bytes.mono_l k
 unfold hint_Bytes.f
 repeat' first
   | (with_reducible exact ih0 _ _ _ _)
   | (with_reducible exact LeO.refl _)
   | (with_reducible exact LeO.none _)
   | (with_reducible refine LeO.ite ?_ ?_)
   | (with_reducible refine LeO.bind ?_ (fun _ => ?_))
   | exact ih0 _ _ _ _
   | exact LeO.none _
   | refine LeO.ite ?_ ?_
   | refine LeO.bind ?_ (fun _ => ?_)
def hint_Bytes.T9 : Bool × List (List Nat × List Nat):=(true,[([],[]),([],[]),([1],[1]),([2],[2]),([],[]),([4],[4]),([5],[5]),([6,3],[6]),([3,7],[3,7]),([],[]),([9],[9]),([10],[10]),([11],[11]),([],[]),([13],[13]),([14,7],[14]),([12,15],[12,15]),([16,15],[16]),([8,17],[8,17]),([],[]),([19],[19]),([20,17],[20]),([18,21],[18,21]),([0,22],[0,22]),([23,21,0,1,2,3,4,5,6,7,8,9,10,11,12,13,14,15,16,17,18,19,20,21,22,23],[0,23])])
def hint_Bytes.B9 : List Nat:=[0,0,2,6,0,16,48,126,254,0,512,1536,3584,0,8192,24830,65278,130814,262142,0,524288,1834750,4194302,8388607,16777215]
theorem hint_Bytes.tab9 : rtab .any (opsOf Try.f9 9) = hint_Bytes.T9:=by kernel_rfl
theorem hint_Bytes.bits9 : waitsOk hint_Bytes.T9.2 hint_Bytes.B9 = true:=by kernel_rfl
set_option maxHeartbeats 8000000 in
set_option maxRecDepth 100000 in
theorem hint_Bytes.calls (k : Nat) (A0 : Option Addr) (c0 : Nat) (l0 : List (S39)) (r1 : ByteArray) (r2 : Int) (w : World) (hr0 : Kd.C k39 w A0 l0.length l0) (hc0 : l0.length ≤ c0) (h : hint_Bytes.f k l0 = some (r1,r2)) :
  Calls Try.prog 9 #[.slice A0 l0.length c0] w fun e w' => e = .returned (.tuple #[.string r1,.int .i64 r2]) ∧ Below w.heap.size w w' := by
 have hu39:=Try.underlying39
 have HR0:=Aside0.mk hr0
 have HC0:=Aside0.mk hc0
 clear hr0 hc0
 have HB:=Aside0.mk (Below.refl w.heap.size w)
 have H : (if (l0.length : Int) > 2000 then (some ((⟨#[]⟩ : ByteArray),1)) else ((varint_Put.f (IntKind.u64.wrap ((l0.length : Int)))).bind fun t102 => (hint_Bytes.l0 k t102 l0 (l0.length : Int) 0))) = some (r1,r2):=h
 clear h
 by_cases c2 : (l0.length : Int) > 2000
 ·rw [if_pos c2] at H
  have c2b0 : decide (2000 < (l0.length : Int)) = true:=decide_eq_true c2
  have c2b1 : decide (2000 < l0.length) = true:=decide_eq_true (by omega)
  clear c2
  simp only [Option.some.injEq,Prod.mk.injEq] at H
  obtain ⟨rfl,rfl⟩:=H
  go_enter Try.func9,Try.ntmps9
  go_wp2
  go_ret2
  exact ⟨by first | rfl | (simp [errW_none,errW_some] <;> rfl) | (simp [*,errW_none,errW_some] <;> rfl) | (simp [errW_none,errW_some];exact isEmpty_bne _),by repeat (first | (with_reducible first | exact HB.out | apply below_alloc | apply pw_below_drewN | apply below_drew1) | exact HB.out)⟩
 ·rw [if_neg c2] at H
  have c2b0 : decide (2000 < (l0.length : Int)) = false:=decide_eq_false c2
  have c2b1 : decide (2000 < l0.length) = false:=decide_eq_false (by omega)
  clear c2
  replace H:=Option.bind_eq_some_iff.mp H
  obtain ⟨t102,A30,H⟩:=H
  replace H : (hint_Bytes.l0 k t102 l0 (l0.length : Int) 0) = some (r1,r2):=H
  have A3:=Aside0.mk A30
  clear A30
  have H' := Aside0.mk H
  clear H
  go_enter Try.func9,Try.ntmps9
  go_wp2_with (first | ((with_reducible refine gate_callee (f:=22) rfl ?_);refine goesL_ (some 13) rfl rfl Try.func22 (by kernel_rfl) rfl #[.int .u64 (IntKind.u64.wrap ((l0.length : Int)))] rfl (by (try simp only [List.map_toArray,List.map_cons,List.map_nil]);first | done | rfl | (simp only [List.length_drop,List.length_take];rfl)) ?_;(with_reducible refine (varint_Put.calls (IntKind.u64.wrap ((l0.length : Int))) t102 _ A3.out).mono ?_);rintro e w4 ⟨rfl,hb⟩;refine ⟨_,rfl,?_⟩;have n0_:=Aside0.mk (below_step (by repeat (first | (with_reducible first | exact HB.out | apply below_alloc | apply pw_below_drewN | apply below_drew1) | exact HB.out)) hb);clear HB;have HB:=n0_;clear n0_;(try clear hb);(try clear hb2);(try clear hk);(try clear hi)))
  go_loopg [4,16] k (fun kq v4 v16 w' => ∃ (x4_1 : ByteArray) (x16_1 : Int),v4 = .string x4_1 ∧ v16 = .int .i64 x16_1 ∧ Aside0 (hint_Bytes.l0 kq x4_1 l0 (l0.length : Int) x16_1 = some (r1,r2)) ∧ Aside0 (kq ≤ k) ∧ Aside0 (Below w.heap.size w w'))
  case atStart => exact ⟨(t102),(0),(by first | rfl | (simp;done) | (simp [*];done)),(by first | rfl | (simp;done) | (simp [*];done)),H',⟨Nat.le_refl _⟩,⟨by repeat (first | (with_reducible first | exact HB.out | apply below_alloc | apply pw_below_drewN | apply below_drew1) | exact HB.out)⟩⟩
  case round =>
   clear H'
   try clear c2
   try clear c2b0
   try clear c2b1
   try clear p2
   obtain ⟨x4_1,x16_1,rfl,rfl,HA,HK1,HB⟩:=hrel
   cases gk with
   | zero => exact absurd HA.out (by simp [hint_Bytes.l0])
   | succ k1 =>
    have H:=HA.out
    clear HA
    simp only [hint_Bytes.l0] at H
    by_cases c5 : x16_1 < (l0.length : Int)
    ·rw [if_pos c5] at H
     have c5b0 : decide (x16_1 < (l0.length : Int)) = true:=decide_eq_true c5
     clear c5
     by_cases c6 : 0 ≤ x16_1
     ·rw [if_pos c6] at H
      have c6b0 : decide (0 ≤ x16_1) = true:=decide_eq_true c6
      clear c6
      by_cases c7 : x16_1 < (l0.length : Int)
      ·rw [if_pos c7] at H
       have c7b0 : decide (x16_1 < (l0.length : Int)) = true:=decide_eq_true c7
       clear c7
       replace H:=Option.bind_eq_some_iff.mp H
       obtain ⟨t106,A80,H⟩:=H
       replace H : (if t106 = true then ((varint_Text.f ((rd_T39 l0 x16_1).f0)).bind fun t107 => ((varint_Put.f (IntKind.u64.wrap ((rd_T39 l0 x16_1).f1))).bind fun t108 => (if t107.size + t108.size ≤ 9223372036854775807 then ((hint_flag.f ((rd_T39 l0 x16_1).f4)).bind fun t109 => ((varint_Put.f (Go.bits .or .u64 (IntKind.u64.wrap ((IntKind.u64.wrap ((rd_T39 l0 x16_1).f2)) * 2)) t109)).bind fun t110 => (if t107.size + t108.size + t110.size ≤ 9223372036854775807 then ((varint_Put.f ((rd_T39 l0 x16_1).f3)).bind fun t111 => (if t107.size + t108.size + t110.size + t111.size ≤ 9223372036854775807 then (if x4_1.size + (t107.size + t108.size + t110.size + t111.size) ≤ 9223372036854775807 then (hint_Bytes.l0 k1 (x4_1 ++ (((t107 ++ t108) ++ t110) ++ t111)) l0 (l0.length : Int) (wrap64 (x16_1 + 1))) else (none)) else (none))) else (none)))) else (none)))) else (some ((⟨#[]⟩ : ByteArray),1))) = some (r1,r2):=H
       have A8:=Aside0.mk A80
       clear A80
       by_cases c9 : t106 = true
       ·subst c9
        have H1 : ((varint_Text.f ((rd_T39 l0 x16_1).f0)).bind fun t107 => ((varint_Put.f (IntKind.u64.wrap ((rd_T39 l0 x16_1).f1))).bind fun t108 => (if t107.size + t108.size ≤ 9223372036854775807 then ((hint_flag.f ((rd_T39 l0 x16_1).f4)).bind fun t109 => ((varint_Put.f (Go.bits .or .u64 (IntKind.u64.wrap ((IntKind.u64.wrap ((rd_T39 l0 x16_1).f2)) * 2)) t109)).bind fun t110 => (if t107.size + t108.size + t110.size ≤ 9223372036854775807 then ((varint_Put.f ((rd_T39 l0 x16_1).f3)).bind fun t111 => (if t107.size + t108.size + t110.size + t111.size ≤ 9223372036854775807 then (if x4_1.size + (t107.size + t108.size + t110.size + t111.size) ≤ 9223372036854775807 then (hint_Bytes.l0 k1 (x4_1 ++ (((t107 ++ t108) ++ t110) ++ t111)) l0 (l0.length : Int) (wrap64 (x16_1 + 1))) else (none)) else (none))) else (none)))) else (none)))) = some (r1,r2):=by rw [if_pos rfl] at H;exact H
        clear H
        have H:=H1
        clear H1
        replace H:=Option.bind_eq_some_iff.mp H
        obtain ⟨t107,A100,H⟩:=H
        replace H : ((varint_Put.f (IntKind.u64.wrap ((rd_T39 l0 x16_1).f1))).bind fun t108 => (if t107.size + t108.size ≤ 9223372036854775807 then ((hint_flag.f ((rd_T39 l0 x16_1).f4)).bind fun t109 => ((varint_Put.f (Go.bits .or .u64 (IntKind.u64.wrap ((IntKind.u64.wrap ((rd_T39 l0 x16_1).f2)) * 2)) t109)).bind fun t110 => (if t107.size + t108.size + t110.size ≤ 9223372036854775807 then ((varint_Put.f ((rd_T39 l0 x16_1).f3)).bind fun t111 => (if t107.size + t108.size + t110.size + t111.size ≤ 9223372036854775807 then (if x4_1.size + (t107.size + t108.size + t110.size + t111.size) ≤ 9223372036854775807 then (hint_Bytes.l0 k1 (x4_1 ++ (((t107 ++ t108) ++ t110) ++ t111)) l0 (l0.length : Int) (wrap64 (x16_1 + 1))) else (none)) else (none))) else (none)))) else (none))) = some (r1,r2):=H
        have A10:=Aside0.mk A100
        clear A100
        replace H:=Option.bind_eq_some_iff.mp H
        obtain ⟨t108,A110,H⟩:=H
        replace H : (if t107.size + t108.size ≤ 9223372036854775807 then ((hint_flag.f ((rd_T39 l0 x16_1).f4)).bind fun t109 => ((varint_Put.f (Go.bits .or .u64 (IntKind.u64.wrap ((IntKind.u64.wrap ((rd_T39 l0 x16_1).f2)) * 2)) t109)).bind fun t110 => (if t107.size + t108.size + t110.size ≤ 9223372036854775807 then ((varint_Put.f ((rd_T39 l0 x16_1).f3)).bind fun t111 => (if t107.size + t108.size + t110.size + t111.size ≤ 9223372036854775807 then (if x4_1.size + (t107.size + t108.size + t110.size + t111.size) ≤ 9223372036854775807 then (hint_Bytes.l0 k1 (x4_1 ++ (((t107 ++ t108) ++ t110) ++ t111)) l0 (l0.length : Int) (wrap64 (x16_1 + 1))) else (none)) else (none))) else (none)))) else (none)) = some (r1,r2):=H
        have A11:=Aside0.mk A110
        clear A110
        by_cases c12 : t107.size + t108.size ≤ 9223372036854775807
        ·rw [if_pos c12] at H
         have c12b0:=eq_true c12
         have c12b1 : decide (t107.size + t108.size ≤ 9223372036854775807) = true:=decide_eq_true c12
         try have c12b2 : (9223372036854775807 < t107.size + t108.size) = False:=eq_false (Nat.not_lt.2 c12)
         replace H:=Option.bind_eq_some_iff.mp H
         obtain ⟨t109,A130,H⟩:=H
         replace H : ((varint_Put.f (Go.bits .or .u64 (IntKind.u64.wrap ((IntKind.u64.wrap ((rd_T39 l0 x16_1).f2)) * 2)) t109)).bind fun t110 => (if t107.size + t108.size + t110.size ≤ 9223372036854775807 then ((varint_Put.f ((rd_T39 l0 x16_1).f3)).bind fun t111 => (if t107.size + t108.size + t110.size + t111.size ≤ 9223372036854775807 then (if x4_1.size + (t107.size + t108.size + t110.size + t111.size) ≤ 9223372036854775807 then (hint_Bytes.l0 k1 (x4_1 ++ (((t107 ++ t108) ++ t110) ++ t111)) l0 (l0.length : Int) (wrap64 (x16_1 + 1))) else (none)) else (none))) else (none))) = some (r1,r2):=H
         have A13:=Aside0.mk A130
         clear A130
         replace H:=Option.bind_eq_some_iff.mp H
         obtain ⟨t110,A140,H⟩:=H
         replace H : (if t107.size + t108.size + t110.size ≤ 9223372036854775807 then ((varint_Put.f ((rd_T39 l0 x16_1).f3)).bind fun t111 => (if t107.size + t108.size + t110.size + t111.size ≤ 9223372036854775807 then (if x4_1.size + (t107.size + t108.size + t110.size + t111.size) ≤ 9223372036854775807 then (hint_Bytes.l0 k1 (x4_1 ++ (((t107 ++ t108) ++ t110) ++ t111)) l0 (l0.length : Int) (wrap64 (x16_1 + 1))) else (none)) else (none))) else (none)) = some (r1,r2):=H
         have A14:=Aside0.mk A140
         clear A140
         by_cases c15 : t107.size + t108.size + t110.size ≤ 9223372036854775807
         ·rw [if_pos c15] at H
          have c15b0:=eq_true c15
          have c15b1 : decide (t107.size + t108.size + t110.size ≤ 9223372036854775807) = true:=decide_eq_true c15
          try have c15b2 : (9223372036854775807 < t107.size + t108.size + t110.size) = False:=eq_false (Nat.not_lt.2 c15)
          replace H:=Option.bind_eq_some_iff.mp H
          obtain ⟨t111,A160,H⟩:=H
          replace H : (if t107.size + t108.size + t110.size + t111.size ≤ 9223372036854775807 then (if x4_1.size + (t107.size + t108.size + t110.size + t111.size) ≤ 9223372036854775807 then (hint_Bytes.l0 k1 (x4_1 ++ (((t107 ++ t108) ++ t110) ++ t111)) l0 (l0.length : Int) (wrap64 (x16_1 + 1))) else (none)) else (none)) = some (r1,r2):=H
          have A16:=Aside0.mk A160
          clear A160
          by_cases c17 : t107.size + t108.size + t110.size + t111.size ≤ 9223372036854775807
          ·rw [if_pos c17] at H
           have c17b0:=eq_true c17
           have c17b1 : decide (t107.size + t108.size + t110.size + t111.size ≤ 9223372036854775807) = true:=decide_eq_true c17
           try have c17b2 : (9223372036854775807 < t107.size + t108.size + t110.size + t111.size) = False:=eq_false (Nat.not_lt.2 c17)
           by_cases c18 : x4_1.size + (t107.size + t108.size + t110.size + t111.size) ≤ 9223372036854775807
           ·rw [if_pos c18] at H
            have c18b0:=eq_true c18
            have c18b1 : decide (x4_1.size + (t107.size + t108.size + t110.size + t111.size) ≤ 9223372036854775807) = true:=decide_eq_true c18
            try have c18b2 : (9223372036854775807 < x4_1.size + (t107.size + t108.size + t110.size + t111.size)) = False:=eq_false (Nat.not_lt.2 c18)
            have H' := Aside0.mk H
            clear H
            have p104 : 0 ≤ (x16_1 : Int):=of_decide_eq_true (by first | (with_reducible assumption) | assumption)
            have q104 : x16_1 < (l0.length : Int):=of_decide_eq_true (by first | (with_reducible assumption) | assumption)
            obtain ⟨ad104,e104,hx104_0,hx104_1,hx104_2,hx104_3,hx104_4⟩:=at_T39 HR0.out x16_1 p104 q104
            cases e104
            replace hx104_0:=(HB.out.cell (World.block_lt_of_cell? w _ hx104_0)).trans hx104_0
            replace hx104_1:=(HB.out.cell (World.block_lt_of_cell? w _ hx104_1)).trans hx104_1
            replace hx104_2:=(HB.out.cell (World.block_lt_of_cell? w _ hx104_2)).trans hx104_2
            replace hx104_3:=(HB.out.cell (World.block_lt_of_cell? w _ hx104_3)).trans hx104_3
            replace hx104_4:=(HB.out.cell (World.block_lt_of_cell? w _ hx104_4)).trans hx104_4
            replace p104:=eq_true p104
            replace q104:=eq_true q104
            try go_wp2_with (first | ((with_reducible refine gate_dst (N:=6) rfl ?_);refine box_event ?hg (N:=6) ?hd (cs := #[.string (⟨#[]⟩ : ByteArray),.int .i64 0,.int .i64 0,.int .u64 0,.bool false]) (t:=39) ?hr ?_;(case hd => rfl);(case hg => rfl);(case hr => first | (go_simp;done) | (go_simp;rfl));intro gb105 hg w19 hbox hb;have n0_:=Aside0.mk (below_step (by repeat (first | (with_reducible first | exact HB.out | apply below_alloc | apply pw_below_drewN | apply below_drew1) | exact HB.out)) hb);have n1_:=Aside0.mk (hbox);have n2_:=Aside0.mk ((by rw [hg];exact (below_size (by repeat (first | (with_reducible first | exact HB.out | apply below_alloc | apply pw_below_drewN | apply below_drew1) | exact HB.out))) : w.heap.size ≤ gb105));have n3_:=Aside0.mk ((by rw [hg];exact (below_size (by repeat (first | (with_reducible first | exact HB.out | apply below_alloc | apply pw_below_drewN | apply below_drew1) | exact HB.out))) : w.heap.size ≤ gb105));clear HB;have HB:=n0_;have BK105:=n1_;have GW105:=n2_;have GE105:=n3_;clear n0_ n1_ n2_ n3_;clear hb hbox hg;have hcz20_0 : w19.cell? ⟨gb105,0,none⟩ = some (.string (⟨#[]⟩ : ByteArray)):=(blk_cell BK105.out 0).trans rfl;have hcz20_1 : w19.cell? ⟨gb105,1,none⟩ = some (.int .i64 0):=(blk_cell BK105.out 1).trans rfl;have hcz20_2 : w19.cell? ⟨gb105,2,none⟩ = some (.int .i64 0):=(blk_cell BK105.out 2).trans rfl;have hcz20_3 : w19.cell? ⟨gb105,3,none⟩ = some (.int .u64 0):=(blk_cell BK105.out 3).trans rfl;have hcz20_4 : w19.cell? ⟨gb105,4,none⟩ = some (.bool false):=(blk_cell BK105.out 4).trans rfl;have hfz20_0:=blk_frozen BK105.out 0;have hfz20_1:=blk_frozen BK105.out 1;have hfz20_2:=blk_frozen BK105.out 2;have hfz20_3:=blk_frozen BK105.out 3;have hfz20_4:=blk_frozen BK105.out 4) | ((with_reducible refine gate_callee (f:=23) rfl ?_);refine goesL_ (some 21) rfl rfl Try.func23 (by kernel_rfl) rfl #[.agg #[.string ((rd_T39 l0 x16_1).f0),.int .i64 ((rd_T39 l0 x16_1).f1),.int .i64 ((rd_T39 l0 x16_1).f2),.int .u64 ((rd_T39 l0 x16_1).f3),.bool ((rd_T39 l0 x16_1).f4)]] rfl (by (try simp only [List.map_toArray,List.map_cons,List.map_nil]);first | done | rfl | (simp only [List.length_drop,List.length_take];rfl)) ?_;(with_reducible refine (hint_right.calls ((rd_T39 l0 x16_1).f0) ((rd_T39 l0 x16_1).f1) ((rd_T39 l0 x16_1).f2) ((rd_T39 l0 x16_1).f3) ((rd_T39 l0 x16_1).f4) true _ A8.out).mono ?_);rintro e w21 ⟨rfl,hb⟩;refine ⟨_,rfl,?_⟩;have n0_:=Aside0.mk (blk_below (g:=gb105) (o := .cells #[.string ((rd_T39 l0 x16_1).f0),.int .i64 ((rd_T39 l0 x16_1).f1),.int .i64 ((rd_T39 l0 x16_1).f2),.int .u64 ((rd_T39 l0 x16_1).f3),.bool ((rd_T39 l0 x16_1).f4)] 39 (0,0)) (by (with_reducible repeat (first | refine blk_drewN ?_ _ | refine blk_drew ?_ | refine blk_alloc ?_ _));refine blk_put (cs := #[.string ((rd_T39 l0 x16_1).f0),.int .i64 ((rd_T39 l0 x16_1).f1),.int .i64 ((rd_T39 l0 x16_1).f2),.int .u64 ((rd_T39 l0 x16_1).f3),.bool false]) ?_ 4 _ rfl;(with_reducible repeat (first | refine blk_drewN ?_ _ | refine blk_drew ?_ | refine blk_alloc ?_ _));refine blk_put (cs := #[.string ((rd_T39 l0 x16_1).f0),.int .i64 ((rd_T39 l0 x16_1).f1),.int .i64 ((rd_T39 l0 x16_1).f2),.int .u64 0,.bool false]) ?_ 3 _ rfl;(with_reducible repeat (first | refine blk_drewN ?_ _ | refine blk_drew ?_ | refine blk_alloc ?_ _));refine blk_put (cs := #[.string ((rd_T39 l0 x16_1).f0),.int .i64 ((rd_T39 l0 x16_1).f1),.int .i64 0,.int .u64 0,.bool false]) ?_ 2 _ rfl;(with_reducible repeat (first | refine blk_drewN ?_ _ | refine blk_drew ?_ | refine blk_alloc ?_ _));refine blk_put (cs := #[.string ((rd_T39 l0 x16_1).f0),.int .i64 0,.int .i64 0,.int .u64 0,.bool false]) ?_ 1 _ rfl;(with_reducible repeat (first | refine blk_drewN ?_ _ | refine blk_drew ?_ | refine blk_alloc ?_ _));refine blk_put (cs := #[.string (⟨#[]⟩ : ByteArray),.int .i64 0,.int .i64 0,.int .u64 0,.bool false]) ?_ 0 _ rfl;(with_reducible repeat (first | refine blk_drewN ?_ _ | refine blk_drew ?_ | refine blk_alloc ?_ _));exact BK105.out) hb);have n1_:=Aside0.mk (below_step (by repeat (first | (with_reducible first | exact HB.out | apply below_alloc | apply pw_below_drewN | apply below_drew1 | refine below_set ?_ GE105.out) | exact HB.out)) hb);clear BK105;clear HB;have BK105:=n0_;have HB:=n1_;clear n0_ n1_;(try clear hb);(try clear hb2);(try clear hk);(try clear hi)))
            have n0_:=Aside0.mk (blk_drew BK105.out)
            have n1_:=Aside0.mk (below_drew1 HB.out)
            clear BK105
            clear HB
            have BK105:=n0_
            have HB:=n1_
            clear n0_ n1_
            refine start_ (n:=25) (S:=fun w' => w'.cell? ⟨gb105,0,none⟩ = some (.string ((rd_T39 l0 x16_1).f0)) ∧ w'.cell? ⟨gb105,1,none⟩ = some (.int .i64 ((rd_T39 l0 x16_1).f1)) ∧ w'.cell? ⟨gb105,2,none⟩ = some (.int .i64 ((rd_T39 l0 x16_1).f2)) ∧ w'.cell? ⟨gb105,3,none⟩ = some (.int .u64 ((rd_T39 l0 x16_1).f3)) ∧ w'.cell? ⟨gb105,4,none⟩ = some (.bool ((rd_T39 l0 x16_1).f4))) (ds:=[]) #[false,false,false,false,false,false,false,false,false,false,false,false,false,false,false,false,false,false,false,false,false,false,false,false,false] (by kernel_rfl) rfl rfl ⟨(blk_cell BK105.out 0).trans rfl,(blk_cell BK105.out 1).trans rfl,(blk_cell BK105.out 2).trans rfl,(blk_cell BK105.out 3).trans rfl,(blk_cell BK105.out 4).trans rfl⟩ (fun hHeld => ?_);refine with_tabW hint_Bytes.tab9 hint_Bytes.bits9 (fun HT_ HW_ => ?_)
            generalize w21.drew = w22 at BK105 HB hHeld ⊢
            refine pure_ (i:=0) (N:=some 23) (v := ?_) (a' := ?_) #[true,false,false,false,false,false,false,false,false,false,false,false,false,false,false,false,false,false,false,false,false,false,false,false,false] rfl rfl (any_of HT_.out (by kernel_rfl)) (fun _ _ _ h => h) (Or.inl ⟨by rfl,?_⟩) ?_ ?_
            rotate_left
            ·intro w'
             go_simp
             with_reducible rfl
            rotate_left
            ·simp only [Act.put,List.setIfInBounds_toArray,List.set_cons_zero,List.set_cons_succ,i64_w,i32_w]
             rfl
            refine pure_ (i:=1) (N:=some 24) (v := ?_) (a' := ?_) #[true,true,false,false,false,false,false,false,false,false,false,false,false,false,false,false,false,false,false,false,false,false,false,false,false] rfl rfl (any_of HT_.out (by kernel_rfl)) (fun _ _ _ h => h) (Or.inl ⟨by rfl,?_⟩) ?_ ?_
            rotate_left
            ·intro w'
             go_simp
             with_reducible rfl
            rotate_left
            ·simp only [Act.put,List.setIfInBounds_toArray,List.set_cons_zero,List.set_cons_succ,i64_w,i32_w]
             rfl
            refine pure_ (i:=4) (N:=some 27) (v := ?_) (a' := ?_) #[true,true,false,false,true,false,false,false,false,false,false,false,false,false,false,false,false,false,false,false,false,false,false,false,false] rfl rfl (any_of HT_.out (by kernel_rfl)) (fun _ _ _ h => h) (Or.inl ⟨by rfl,?_⟩) ?_ ?_
            rotate_left
            ·intro w'
             go_simp
             with_reducible rfl
            rotate_left
            ·simp only [Act.put,List.setIfInBounds_toArray,List.set_cons_zero,List.set_cons_succ,i64_w,i32_w]
             rfl
            refine pure_ (i:=9) (N:=some 32) (v := ?_) (a' := ?_) #[true,true,false,false,true,false,false,false,false,true,false,false,false,false,false,false,false,false,false,false,false,false,false,false,false] rfl rfl (any_of HT_.out (by kernel_rfl)) (fun _ _ _ h => h) (Or.inl ⟨by rfl,?_⟩) ?_ ?_
            rotate_left
            ·intro w'
             go_simp
             with_reducible rfl
            rotate_left
            ·simp only [Act.put,List.setIfInBounds_toArray,List.set_cons_zero,List.set_cons_succ,i64_w,i32_w]
             rfl
            refine pure_ (i:=13) (N:=some 36) (v := ?_) (a' := ?_) #[true,true,false,false,true,false,false,false,false,true,false,false,false,true,false,false,false,false,false,false,false,false,false,false,false] rfl rfl (any_of HT_.out (by kernel_rfl)) (fun _ _ _ h => h) (Or.inl ⟨by rfl,?_⟩) ?_ ?_
            rotate_left
            ·intro w'
             go_simp
             with_reducible rfl
            rotate_left
            ·simp only [Act.put,List.setIfInBounds_toArray,List.set_cons_zero,List.set_cons_succ,i64_w,i32_w]
             rfl
            refine pure_ (i:=19) (N:=some 42) (v := ?_) (a' := ?_) #[true,true,false,false,true,false,false,false,false,true,false,false,false,true,false,false,false,false,false,true,false,false,false,false,false] rfl rfl (any_of HT_.out (by kernel_rfl)) (fun _ _ _ h => h) (Or.inl ⟨by rfl,?_⟩) ?_ ?_
            rotate_left
            ·intro w'
             go_simp
             with_reducible rfl
            rotate_left
            ·simp only [Act.put,List.setIfInBounds_toArray,List.set_cons_zero,List.set_cons_succ,i64_w,i32_w]
             rfl
            refine take_ (i:=2) (N:=some 25) (v := ?_) (a' := ?_) #[true,true,true,false,true,false,false,false,false,true,false,false,false,true,false,false,false,false,false,true,false,false,false,false,false] rfl rfl (take_ofW HT_.out HW_.out (by kernel_rfl)) (fun _ _ _ h => h) (Or.inl ⟨by rfl,?_⟩) hHeld ?_ ?_
            rotate_left
            ·rintro w' ⟨s0,s1,s2,s3,s4⟩
             go_simp
             with_reducible rfl
            rotate_left
            ·simp only [Act.put,List.setIfInBounds_toArray,List.set_cons_zero,List.set_cons_succ,i64_w,i32_w]
             rfl
            refine take_ (i:=5) (N:=some 28) (v := ?_) (a' := ?_) #[true,true,true,false,true,true,false,false,false,true,false,false,false,true,false,false,false,false,false,true,false,false,false,false,false] rfl rfl (take_ofW HT_.out HW_.out (by kernel_rfl)) (fun _ _ _ h => h) (Or.inl ⟨by rfl,?_⟩) hHeld ?_ ?_
            rotate_left
            ·rintro w' ⟨s0,s1,s2,s3,s4⟩
             go_simp
             with_reducible rfl
            rotate_left
            ·simp only [Act.put,List.setIfInBounds_toArray,List.set_cons_zero,List.set_cons_succ,i64_w,i32_w]
             rfl
            refine pure_ (i:=6) (N:=some 29) (v := ?_) (a' := ?_) #[true,true,true,false,true,true,true,false,false,true,false,false,false,true,false,false,false,false,false,true,false,false,false,false,false] rfl rfl (any_of HT_.out (by kernel_rfl)) (fun _ _ _ h => h) (Or.inl ⟨by rfl,?_⟩) ?_ ?_
            rotate_left
            ·intro w'
             go_simp
             with_reducible rfl
            rotate_left
            ·simp only [Act.put,List.setIfInBounds_toArray,List.set_cons_zero,List.set_cons_succ,i64_w,i32_w]
             rfl
            refine take_ (i:=10) (N:=some 33) (v := ?_) (a' := ?_) #[true,true,true,false,true,true,true,false,false,true,true,false,false,true,false,false,false,false,false,true,false,false,false,false,false] rfl rfl (take_ofW HT_.out HW_.out (by kernel_rfl)) (fun _ _ _ h => h) (Or.inl ⟨by rfl,?_⟩) hHeld ?_ ?_
            rotate_left
            ·rintro w' ⟨s0,s1,s2,s3,s4⟩
             go_simp
             with_reducible rfl
            rotate_left
            ·simp only [Act.put,List.setIfInBounds_toArray,List.set_cons_zero,List.set_cons_succ,i64_w,i32_w]
             rfl
            refine pure_ (i:=11) (N:=some 34) (v := ?_) (a' := ?_) #[true,true,true,false,true,true,true,false,false,true,true,true,false,true,false,false,false,false,false,true,false,false,false,false,false] rfl rfl (any_of HT_.out (by kernel_rfl)) (fun _ _ _ h => h) (Or.inl ⟨by rfl,?_⟩) ?_ ?_
            rotate_left
            ·intro w'
             go_simp
             with_reducible rfl
            rotate_left
            ·simp only [Act.put,List.setIfInBounds_toArray,List.set_cons_zero,List.set_cons_succ,i64_w,i32_w]
             rfl
            refine pure_ (i:=12) (N:=some 35) (v := ?_) (a' := ?_) #[true,true,true,false,true,true,true,false,false,true,true,true,true,true,false,false,false,false,false,true,false,false,false,false,false] rfl rfl (any_of HT_.out (by kernel_rfl)) (fun _ _ _ h => h) (Or.inl ⟨by rfl,?_⟩) ?_ ?_
            rotate_left
            ·intro w'
             go_simp
             with_reducible rfl
            rotate_left
            ·simp only [Act.put,List.setIfInBounds_toArray,List.set_cons_zero,List.set_cons_succ,i64_w,i32_w]
             rfl
            refine take_ (i:=14) (N:=some 37) (v := ?_) (a' := ?_) #[true,true,true,false,true,true,true,false,false,true,true,true,true,true,true,false,false,false,false,true,false,false,false,false,false] rfl rfl (take_ofW HT_.out HW_.out (by kernel_rfl)) (fun _ _ _ h => h) (Or.inl ⟨by rfl,?_⟩) hHeld ?_ ?_
            rotate_left
            ·rintro w' ⟨s0,s1,s2,s3,s4⟩
             go_simp
             with_reducible rfl
            rotate_left
            ·simp only [Act.put,List.setIfInBounds_toArray,List.set_cons_zero,List.set_cons_succ,i64_w,i32_w]
             rfl
            refine take_ (i:=20) (N:=some 43) (v := ?_) (a' := ?_) #[true,true,true,false,true,true,true,false,false,true,true,true,true,true,true,false,false,false,false,true,true,false,false,false,false] rfl rfl (take_ofW HT_.out HW_.out (by kernel_rfl)) (fun _ _ _ h => h) (Or.inl ⟨by rfl,?_⟩) hHeld ?_ ?_
            rotate_left
            ·rintro w' ⟨s0,s1,s2,s3,s4⟩
             go_simp
             with_reducible rfl
            rotate_left
            ·simp only [Act.put,List.setIfInBounds_toArray,List.set_cons_zero,List.set_cons_succ,i64_w,i32_w]
             rfl
            refine one_ (i:=3) (N:=some 26) #[true,true,true,true,true,true,true,false,false,true,true,true,true,true,true,false,false,false,false,true,true,false,false,false,false] rfl rfl (one_of HT_.out (by kernel_rfl)) (by decide) (fun K hK => ?_)
            refine goes_ Try.func24 (by kernel_rfl) rfl #[.string ((rd_T39 l0 x16_1).f0)] (by rfl) rfl rfl (by (try simp only [List.map_toArray,List.map_cons,List.map_nil]);first | done | rfl | (simp only [List.length_drop,List.length_take];rfl)) ?_
            with_reducible refine (varint_Text.calls ((rd_T39 l0 x16_1).f0) t107 _ A10.out).mono ?_
            rintro e w23 ⟨rfl,hb⟩
            refine ⟨_,rfl,?_⟩
            have n0_:=Aside0.mk (blk_below (g:=gb105) (o := .cells #[.string ((rd_T39 l0 x16_1).f0),.int .i64 ((rd_T39 l0 x16_1).f1),.int .i64 ((rd_T39 l0 x16_1).f2),.int .u64 ((rd_T39 l0 x16_1).f3),.bool ((rd_T39 l0 x16_1).f4)] 39 (0,0)) (by (with_reducible repeat (first | refine blk_drewN ?_ _ | refine blk_drew ?_ | refine blk_alloc ?_ _));exact BK105.out) hb)
            have n1_:=Aside0.mk (below_step (by repeat (first | (with_reducible first | exact HB.out | apply below_alloc | apply pw_below_drewN | apply below_drew1 | refine below_set ?_ GE105.out) | exact HB.out)) hb)
            clear BK105
            clear HB
            have BK105:=n0_
            have HB:=n1_
            clear n0_ n1_
            (try clear hb)
            (try clear hb2)
            (try clear hk)
            (try clear hi)
            refine hK.out _ _ ⟨(blk_cell BK105.out 0).trans rfl,(blk_cell BK105.out 1).trans rfl,(blk_cell BK105.out 2).trans rfl,(blk_cell BK105.out 3).trans rfl,(blk_cell BK105.out 4).trans rfl⟩ (fun hHeld => ?_)
            clear hK K
            refine norm_ (a' := ?_) ?_ ?_
            rotate_left
            ·show Act.put _ (some 26) _ = _
             simp only [Act.put,List.setIfInBounds_toArray,List.set_cons_zero,List.set_cons_succ,i64_w,i32_w]
             rfl
            refine one_ (i:=7) (N:=some 30) #[true,true,true,true,true,true,true,true,false,true,true,true,true,true,true,false,false,false,false,true,true,false,false,false,false] rfl rfl (one_of HT_.out (by kernel_rfl)) (by decide) (fun K hK => ?_)
            refine goes_ Try.func22 (by kernel_rfl) rfl #[.int .u64 (IntKind.u64.wrap ((rd_T39 l0 x16_1).f1))] (by rfl) rfl rfl (by (try simp only [List.map_toArray,List.map_cons,List.map_nil]);first | done | rfl | (simp only [List.length_drop,List.length_take];rfl)) ?_
            with_reducible refine (varint_Put.calls (IntKind.u64.wrap ((rd_T39 l0 x16_1).f1)) t108 _ A11.out).mono ?_
            rintro e w24 ⟨rfl,hb⟩
            refine ⟨_,rfl,?_⟩
            have n0_:=Aside0.mk (blk_below (g:=gb105) (o := .cells #[.string ((rd_T39 l0 x16_1).f0),.int .i64 ((rd_T39 l0 x16_1).f1),.int .i64 ((rd_T39 l0 x16_1).f2),.int .u64 ((rd_T39 l0 x16_1).f3),.bool ((rd_T39 l0 x16_1).f4)] 39 (0,0)) (by (with_reducible repeat (first | refine blk_drewN ?_ _ | refine blk_drew ?_ | refine blk_alloc ?_ _));exact BK105.out) hb)
            have n1_:=Aside0.mk (below_step (by repeat (first | (with_reducible first | exact HB.out | apply below_alloc | apply pw_below_drewN | apply below_drew1 | refine below_set ?_ GE105.out) | exact HB.out)) hb)
            clear BK105
            clear HB
            have BK105:=n0_
            have HB:=n1_
            clear n0_ n1_
            (try clear hb)
            (try clear hb2)
            (try clear hk)
            (try clear hi)
            refine hK.out _ _ ⟨(blk_cell BK105.out 0).trans rfl,(blk_cell BK105.out 1).trans rfl,(blk_cell BK105.out 2).trans rfl,(blk_cell BK105.out 3).trans rfl,(blk_cell BK105.out 4).trans rfl⟩ (fun hHeld => ?_)
            clear hK K
            refine norm_ (a' := ?_) ?_ ?_
            rotate_left
            ·show Act.put _ (some 30) _ = _
             simp only [Act.put,List.setIfInBounds_toArray,List.set_cons_zero,List.set_cons_succ,i64_w,i32_w]
             rfl
            refine pure_ (i:=8) (N:=some 31) (v := ?_) (a' := ?_) #[true,true,true,true,true,true,true,true,true,true,true,true,true,true,true,false,false,false,false,true,true,false,false,false,false] rfl rfl (any_of HT_.out (by kernel_rfl)) (fun _ _ _ h => h) (Or.inl ⟨by rfl,?_⟩) ?_ ?_
            rotate_left
            ·intro w'
             go_simp
             with_reducible rfl
            rotate_left
            ·simp only [Act.put,List.setIfInBounds_toArray,List.set_cons_zero,List.set_cons_succ,i64_w,i32_w]
             rfl
            refine one_ (i:=15) (N:=some 38) #[true,true,true,true,true,true,true,true,true,true,true,true,true,true,true,true,false,false,false,true,true,false,false,false,false] rfl rfl (one_of HT_.out (by kernel_rfl)) (by decide) (fun K hK => ?_)
            refine goes_ Try.func25 (by kernel_rfl) rfl #[.bool ((rd_T39 l0 x16_1).f4)] (by rfl) rfl rfl (by (try simp only [List.map_toArray,List.map_cons,List.map_nil]);first | done | rfl | (simp only [List.length_drop,List.length_take];rfl)) ?_
            with_reducible refine (hint_flag.calls ((rd_T39 l0 x16_1).f4) t109 _ A13.out).mono ?_
            rintro e w' ⟨rfl,⟨nd,rfl⟩⟩
            refine ⟨_,rfl,?_⟩
            refine hK.out _ _ ⟨(blk_cell BK105.out 0).trans rfl,(blk_cell BK105.out 1).trans rfl,(blk_cell BK105.out 2).trans rfl,(blk_cell BK105.out 3).trans rfl,(blk_cell BK105.out 4).trans rfl⟩ (fun hHeld => ?_)
            clear hK K
            refine norm_ (a' := ?_) ?_ ?_
            rotate_left
            ·show Act.put _ (some 38) _ = _
             simp only [Act.put,List.setIfInBounds_toArray,List.set_cons_zero,List.set_cons_succ,i64_w,i32_w]
             rfl
            refine pure_ (i:=16) (N:=some 39) (v := ?_) (a' := ?_) #[true,true,true,true,true,true,true,true,true,true,true,true,true,true,true,true,true,false,false,true,true,false,false,false,false] rfl rfl (any_of HT_.out (by kernel_rfl)) (fun _ _ _ h => h) (Or.inl ⟨by rfl,?_⟩) ?_ ?_
            rotate_left
            ·intro w'
             go_simp
             with_reducible rfl
            rotate_left
            ·simp only [Act.put,List.setIfInBounds_toArray,List.set_cons_zero,List.set_cons_succ,i64_w,i32_w]
             rfl
            refine one_ (i:=17) (N:=some 40) #[true,true,true,true,true,true,true,true,true,true,true,true,true,true,true,true,true,true,false,true,true,false,false,false,false] rfl rfl (one_of HT_.out (by kernel_rfl)) (by decide) (fun K hK => ?_)
            refine goes_ Try.func22 (by kernel_rfl) rfl #[.int .u64 (Go.bits .or .u64 (IntKind.u64.wrap ((IntKind.u64.wrap ((rd_T39 l0 x16_1).f2)) * 2)) t109)] (by rfl) rfl rfl (by (try simp only [List.map_toArray,List.map_cons,List.map_nil]);first | done | rfl | (simp only [List.length_drop,List.length_take];rfl)) ?_
            with_reducible refine (varint_Put.calls (Go.bits .or .u64 (IntKind.u64.wrap ((IntKind.u64.wrap ((rd_T39 l0 x16_1).f2)) * 2)) t109) t110 _ A14.out).mono ?_
            rintro e w25 ⟨rfl,hb⟩
            refine ⟨_,rfl,?_⟩
            have n0_:=Aside0.mk (blk_below (g:=gb105) (o := .cells #[.string ((rd_T39 l0 x16_1).f0),.int .i64 ((rd_T39 l0 x16_1).f1),.int .i64 ((rd_T39 l0 x16_1).f2),.int .u64 ((rd_T39 l0 x16_1).f3),.bool ((rd_T39 l0 x16_1).f4)] 39 (0,0)) (by (with_reducible repeat (first | refine blk_drewN ?_ _ | refine blk_drew ?_ | refine blk_alloc ?_ _));exact BK105.out) hb)
            have n1_:=Aside0.mk (below_step (by repeat (first | (with_reducible first | exact HB.out | apply below_alloc | apply pw_below_drewN | apply below_drew1 | refine below_set ?_ GE105.out) | exact HB.out)) hb)
            clear BK105
            clear HB
            have BK105:=n0_
            have HB:=n1_
            clear n0_ n1_
            (try clear hb)
            (try clear hb2)
            (try clear hk)
            (try clear hi)
            refine hK.out _ _ ⟨(blk_cell BK105.out 0).trans rfl,(blk_cell BK105.out 1).trans rfl,(blk_cell BK105.out 2).trans rfl,(blk_cell BK105.out 3).trans rfl,(blk_cell BK105.out 4).trans rfl⟩ (fun hHeld => ?_)
            clear hK K
            refine norm_ (a' := ?_) ?_ ?_
            rotate_left
            ·show Act.put _ (some 40) _ = _
             simp only [Act.put,List.setIfInBounds_toArray,List.set_cons_zero,List.set_cons_succ,i64_w,i32_w]
             rfl
            refine pure_ (i:=18) (N:=some 41) (v := ?_) (a' := ?_) #[true,true,true,true,true,true,true,true,true,true,true,true,true,true,true,true,true,true,true,true,true,false,false,false,false] rfl rfl (any_of HT_.out (by kernel_rfl)) (fun _ _ _ h => h) (Or.inl ⟨by rfl,?_⟩) ?_ ?_
            rotate_left
            ·intro w'
             go_simp
             with_reducible rfl
            rotate_left
            ·simp only [Act.put,List.setIfInBounds_toArray,List.set_cons_zero,List.set_cons_succ,i64_w,i32_w]
             rfl
            refine one_ (i:=21) (N:=some 44) #[true,true,true,true,true,true,true,true,true,true,true,true,true,true,true,true,true,true,true,true,true,true,false,false,false] rfl rfl (one_of HT_.out (by kernel_rfl)) (by decide) (fun K hK => ?_)
            refine goes_ Try.func22 (by kernel_rfl) rfl #[.int .u64 ((rd_T39 l0 x16_1).f3)] (by rfl) rfl rfl (by (try simp only [List.map_toArray,List.map_cons,List.map_nil]);first | done | rfl | (simp only [List.length_drop,List.length_take];rfl)) ?_
            with_reducible refine (varint_Put.calls ((rd_T39 l0 x16_1).f3) t111 _ A16.out).mono ?_
            rintro e w26 ⟨rfl,hb⟩
            refine ⟨_,rfl,?_⟩
            have n0_:=Aside0.mk (blk_below (g:=gb105) (o := .cells #[.string ((rd_T39 l0 x16_1).f0),.int .i64 ((rd_T39 l0 x16_1).f1),.int .i64 ((rd_T39 l0 x16_1).f2),.int .u64 ((rd_T39 l0 x16_1).f3),.bool ((rd_T39 l0 x16_1).f4)] 39 (0,0)) (by (with_reducible repeat (first | refine blk_drewN ?_ _ | refine blk_drew ?_ | refine blk_alloc ?_ _));exact BK105.out) hb)
            have n1_:=Aside0.mk (below_step (by repeat (first | (with_reducible first | exact HB.out | apply below_alloc | apply pw_below_drewN | apply below_drew1 | refine below_set ?_ GE105.out) | exact HB.out)) hb)
            clear BK105
            clear HB
            have BK105:=n0_
            have HB:=n1_
            clear n0_ n1_
            (try clear hb)
            (try clear hb2)
            (try clear hk)
            (try clear hi)
            refine hK.out _ _ ⟨(blk_cell BK105.out 0).trans rfl,(blk_cell BK105.out 1).trans rfl,(blk_cell BK105.out 2).trans rfl,(blk_cell BK105.out 3).trans rfl,(blk_cell BK105.out 4).trans rfl⟩ (fun hHeld => ?_)
            clear hK K
            refine norm_ (a' := ?_) ?_ ?_
            rotate_left
            ·show Act.put _ (some 44) _ = _
             simp only [Act.put,List.setIfInBounds_toArray,List.set_cons_zero,List.set_cons_succ,i64_w,i32_w]
             rfl
            refine pure_ (i:=22) (N:=some 45) (v := ?_) (a' := ?_) #[true,true,true,true,true,true,true,true,true,true,true,true,true,true,true,true,true,true,true,true,true,true,true,false,false] rfl rfl (any_of HT_.out (by kernel_rfl)) (fun _ _ _ h => h) (Or.inl ⟨by rfl,?_⟩) ?_ ?_
            rotate_left
            ·intro w'
             go_simp
             with_reducible rfl
            rotate_left
            ·simp only [Act.put,List.setIfInBounds_toArray,List.set_cons_zero,List.set_cons_succ,i64_w,i32_w]
             rfl
            refine pure_ (i:=23) (N:=some 46) (v := ?_) (a' := ?_) #[true,true,true,true,true,true,true,true,true,true,true,true,true,true,true,true,true,true,true,true,true,true,true,true,false] rfl rfl (any_of HT_.out (by kernel_rfl)) (fun _ _ _ h => h) (Or.inl ⟨by rfl,?_⟩) ?_ ?_
            rotate_left
            ·intro w'
             go_simp
             with_reducible rfl
            rotate_left
            ·simp only [Act.put,List.setIfInBounds_toArray,List.set_cons_zero,List.set_cons_succ,i64_w,i32_w]
             rfl
            refine pure_ (i:=24) (N:=some 4) (v := ?_) (a' := ?_) #[true,true,true,true,true,true,true,true,true,true,true,true,true,true,true,true,true,true,true,true,true,true,true,true,true] rfl rfl (any_of HT_.out (by kernel_rfl)) (fun _ _ _ h => h) (Or.inl ⟨by rfl,?_⟩) ?_ ?_
            rotate_left
            ·intro w'
             go_simp
             with_reducible rfl
            rotate_left
            ·simp only [Act.put,List.setIfInBounds_toArray,List.set_cons_zero,List.set_cons_succ,i64_w,i32_w]
             rfl
            refine done_ (done_of HT_.out (by kernel_rfl)) ?_
            try go_wp2
            go_roundg k1
            case measure => have:=HK1.out;omega
            case rel => exact ⟨(x4_1 ++ (((t107 ++ t108) ++ t110) ++ t111)),(wrap64 (x16_1 + 1)),(by first | rfl | (simp;done) | (simp [*];done)),(by first | rfl | (simp;done) | (simp [*];done)),H',⟨by have:=HK1.out;omega⟩,⟨by repeat (first | (with_reducible first | exact HB.out | apply below_alloc | apply pw_below_drewN | apply below_drew1 | refine below_set ?_ GE105.out) | exact HB.out)⟩⟩
           ·rw [if_neg c18] at H
            exact absurd H (by simp)
          ·rw [if_neg c17] at H
           exact absurd H (by simp)
         ·rw [if_neg c15] at H
          exact absurd H (by simp)
        ·rw [if_neg c12] at H
         exact absurd H (by simp)
       ·replace c9:=Bool.eq_false_iff.mpr c9
        subst c9
        have H1 : (some ((⟨#[]⟩ : ByteArray),1)) = some (r1,r2):=by rw [if_neg (show ¬ (false = true) by decide)] at H;exact H
        clear H
        have H:=H1
        clear H1
        simp only [Option.some.injEq,Prod.mk.injEq] at H
        obtain ⟨rfl,rfl⟩:=H
        have p104 : 0 ≤ (x16_1 : Int):=of_decide_eq_true (by first | (with_reducible assumption) | assumption)
        have q104 : x16_1 < (l0.length : Int):=of_decide_eq_true (by first | (with_reducible assumption) | assumption)
        obtain ⟨ad104,e104,hx104_0,hx104_1,hx104_2,hx104_3,hx104_4⟩:=at_T39 HR0.out x16_1 p104 q104
        cases e104
        replace hx104_0:=(HB.out.cell (World.block_lt_of_cell? w _ hx104_0)).trans hx104_0
        replace hx104_1:=(HB.out.cell (World.block_lt_of_cell? w _ hx104_1)).trans hx104_1
        replace hx104_2:=(HB.out.cell (World.block_lt_of_cell? w _ hx104_2)).trans hx104_2
        replace hx104_3:=(HB.out.cell (World.block_lt_of_cell? w _ hx104_3)).trans hx104_3
        replace hx104_4:=(HB.out.cell (World.block_lt_of_cell? w _ hx104_4)).trans hx104_4
        replace p104:=eq_true p104
        replace q104:=eq_true q104
        go_wp2_with (first | ((with_reducible refine gate_dst (N:=6) rfl ?_);refine box_event ?hg (N:=6) ?hd (cs := #[.string (⟨#[]⟩ : ByteArray),.int .i64 0,.int .i64 0,.int .u64 0,.bool false]) (t:=39) ?hr ?_;(case hd => rfl);(case hg => rfl);(case hr => first | (go_simp;done) | (go_simp;rfl));intro gb105 hg w27 hbox hb;have n0_:=Aside0.mk (below_step (by repeat (first | (with_reducible first | exact HB.out | apply below_alloc | apply pw_below_drewN | apply below_drew1) | exact HB.out)) hb);have n1_:=Aside0.mk (hbox);have n2_:=Aside0.mk ((by rw [hg];exact (below_size (by repeat (first | (with_reducible first | exact HB.out | apply below_alloc | apply pw_below_drewN | apply below_drew1) | exact HB.out))) : w.heap.size ≤ gb105));have n3_:=Aside0.mk ((by rw [hg];exact (below_size (by repeat (first | (with_reducible first | exact HB.out | apply below_alloc | apply pw_below_drewN | apply below_drew1) | exact HB.out))) : w.heap.size ≤ gb105));clear HB;have HB:=n0_;have BK105:=n1_;have GW105:=n2_;have GE105:=n3_;clear n0_ n1_ n2_ n3_;clear hb hbox hg;have hcz28_0 : w27.cell? ⟨gb105,0,none⟩ = some (.string (⟨#[]⟩ : ByteArray)):=(blk_cell BK105.out 0).trans rfl;have hcz28_1 : w27.cell? ⟨gb105,1,none⟩ = some (.int .i64 0):=(blk_cell BK105.out 1).trans rfl;have hcz28_2 : w27.cell? ⟨gb105,2,none⟩ = some (.int .i64 0):=(blk_cell BK105.out 2).trans rfl;have hcz28_3 : w27.cell? ⟨gb105,3,none⟩ = some (.int .u64 0):=(blk_cell BK105.out 3).trans rfl;have hcz28_4 : w27.cell? ⟨gb105,4,none⟩ = some (.bool false):=(blk_cell BK105.out 4).trans rfl;have hfz28_0:=blk_frozen BK105.out 0;have hfz28_1:=blk_frozen BK105.out 1;have hfz28_2:=blk_frozen BK105.out 2;have hfz28_3:=blk_frozen BK105.out 3;have hfz28_4:=blk_frozen BK105.out 4) | ((with_reducible refine gate_callee (f:=23) rfl ?_);refine goesL_ (some 21) rfl rfl Try.func23 (by kernel_rfl) rfl #[.agg #[.string ((rd_T39 l0 x16_1).f0),.int .i64 ((rd_T39 l0 x16_1).f1),.int .i64 ((rd_T39 l0 x16_1).f2),.int .u64 ((rd_T39 l0 x16_1).f3),.bool ((rd_T39 l0 x16_1).f4)]] rfl (by (try simp only [List.map_toArray,List.map_cons,List.map_nil]);first | done | rfl | (simp only [List.length_drop,List.length_take];rfl)) ?_;(with_reducible refine (hint_right.calls ((rd_T39 l0 x16_1).f0) ((rd_T39 l0 x16_1).f1) ((rd_T39 l0 x16_1).f2) ((rd_T39 l0 x16_1).f3) ((rd_T39 l0 x16_1).f4) false _ A8.out).mono ?_);rintro e w29 ⟨rfl,hb⟩;refine ⟨_,rfl,?_⟩;have n0_:=Aside0.mk (blk_below (g:=gb105) (o := .cells #[.string ((rd_T39 l0 x16_1).f0),.int .i64 ((rd_T39 l0 x16_1).f1),.int .i64 ((rd_T39 l0 x16_1).f2),.int .u64 ((rd_T39 l0 x16_1).f3),.bool ((rd_T39 l0 x16_1).f4)] 39 (0,0)) (by (with_reducible repeat (first | refine blk_drewN ?_ _ | refine blk_drew ?_ | refine blk_alloc ?_ _));refine blk_put (cs := #[.string ((rd_T39 l0 x16_1).f0),.int .i64 ((rd_T39 l0 x16_1).f1),.int .i64 ((rd_T39 l0 x16_1).f2),.int .u64 ((rd_T39 l0 x16_1).f3),.bool false]) ?_ 4 _ rfl;(with_reducible repeat (first | refine blk_drewN ?_ _ | refine blk_drew ?_ | refine blk_alloc ?_ _));refine blk_put (cs := #[.string ((rd_T39 l0 x16_1).f0),.int .i64 ((rd_T39 l0 x16_1).f1),.int .i64 ((rd_T39 l0 x16_1).f2),.int .u64 0,.bool false]) ?_ 3 _ rfl;(with_reducible repeat (first | refine blk_drewN ?_ _ | refine blk_drew ?_ | refine blk_alloc ?_ _));refine blk_put (cs := #[.string ((rd_T39 l0 x16_1).f0),.int .i64 ((rd_T39 l0 x16_1).f1),.int .i64 0,.int .u64 0,.bool false]) ?_ 2 _ rfl;(with_reducible repeat (first | refine blk_drewN ?_ _ | refine blk_drew ?_ | refine blk_alloc ?_ _));refine blk_put (cs := #[.string ((rd_T39 l0 x16_1).f0),.int .i64 0,.int .i64 0,.int .u64 0,.bool false]) ?_ 1 _ rfl;(with_reducible repeat (first | refine blk_drewN ?_ _ | refine blk_drew ?_ | refine blk_alloc ?_ _));refine blk_put (cs := #[.string (⟨#[]⟩ : ByteArray),.int .i64 0,.int .i64 0,.int .u64 0,.bool false]) ?_ 0 _ rfl;(with_reducible repeat (first | refine blk_drewN ?_ _ | refine blk_drew ?_ | refine blk_alloc ?_ _));exact BK105.out) hb);have n1_:=Aside0.mk (below_step (by repeat (first | (with_reducible first | exact HB.out | apply below_alloc | apply pw_below_drewN | apply below_drew1 | refine below_set ?_ GE105.out) | exact HB.out)) hb);clear BK105;clear HB;have BK105:=n0_;have HB:=n1_;clear n0_ n1_;(try clear hb);(try clear hb2);(try clear hk);(try clear hi)))
        go_ret2
        exact ⟨by first | rfl | (simp [errW_none,errW_some] <;> rfl) | (simp [*,errW_none,errW_some] <;> rfl) | (simp [errW_none,errW_some];exact isEmpty_bne _),by repeat (first | (with_reducible first | exact HB.out | apply below_alloc | apply pw_below_drewN | apply below_drew1 | refine below_set ?_ GE105.out) | exact HB.out)⟩
      ·rw [if_neg c7] at H
       exact absurd H (by simp)
     ·rw [if_neg c6] at H
      exact absurd H (by simp)
    ·rw [if_neg c5] at H
     have c5b0 : decide (x16_1 < (l0.length : Int)) = false:=decide_eq_false c5
     clear c5
     replace H:=Option.bind_eq_some_iff.mp H
     obtain ⟨t103,A300,H⟩:=H
     replace H : (some (t103,0)) = some (r1,r2):=H
     have A30:=Aside0.mk A300
     clear A300
     simp only [Option.some.injEq,Prod.mk.injEq] at H
     obtain ⟨rfl,rfl⟩:=H
     go_wp2_with (first | ((with_reducible refine gate_callee (f:=26) rfl ?_);refine goesL_ (some 49) rfl rfl Try.func26 (by kernel_rfl) rfl #[.string x4_1] rfl (by (try simp only [List.map_toArray,List.map_cons,List.map_nil]);first | done | rfl | (simp only [List.length_drop,List.length_take];rfl)) ?_;(with_reducible refine (crc_Seal.calls x4_1 t103 _ A30.out).mono ?_);rintro e w31 ⟨rfl,hb⟩;refine ⟨_,rfl,?_⟩;have n0_:=Aside0.mk (below_step (by repeat (first | (with_reducible first | exact HB.out | apply below_alloc | apply pw_below_drewN | apply below_drew1) | exact HB.out)) hb);clear HB;have HB:=n0_;clear n0_;(try clear hb);(try clear hb2);(try clear hk);(try clear hi)))
     go_ret2
     exact ⟨by first | rfl | (simp [errW_none,errW_some] <;> rfl) | (simp [*,errW_none,errW_some] <;> rfl) | (simp [errW_none,errW_some];exact isEmpty_bne _),by repeat (first | (with_reducible first | exact HB.out | apply below_alloc | apply pw_below_drewN | apply below_drew1) | exact HB.out)⟩

/-! ### crc_Open: function 31 -/
def crc_Open.f (a0 : ByteArray) : Option (ByteArray × Bool):=if (a0.size : Int) < 4 then (some ((⟨#[]⟩ : ByteArray),false)) else (if 4 ≤ (a0.size : Int) then ((crc_Seal.f (a0.extract 4 a0.size)).bind fun t112 => (if 0 ≤ 4 then (if 4 ≤ (t112.size : Int) then (if (t112.extract 0 4).toList = (a0.extract 0 4).toList then (some (a0.extract 4 a0.size,true)) else (some ((⟨#[]⟩ : ByteArray),false))) else (none)) else (none))) else (none))
set_option maxHeartbeats 8000000 in
set_option maxRecDepth 100000 in
theorem crc_Open.calls (a0 : ByteArray) (r1 : ByteArray) (r2 : Bool) (w : World) (h : crc_Open.f a0 = some (r1,r2)) :
  Calls Try.prog 31 #[.string a0] w fun e w' => e = .returned (.tuple #[.string r1,.bool r2]) ∧ Below w.heap.size w w' := by
 have HB:=Aside0.mk (Below.refl w.heap.size w)
 have H : (if (a0.size : Int) < 4 then (some ((⟨#[]⟩ : ByteArray),false)) else (if 4 ≤ (a0.size : Int) then ((crc_Seal.f (a0.extract 4 a0.size)).bind fun t112 => (if 0 ≤ 4 then (if 4 ≤ (t112.size : Int) then (if (t112.extract 0 4).toList = (a0.extract 0 4).toList then (some (a0.extract 4 a0.size,true)) else (some ((⟨#[]⟩ : ByteArray),false))) else (none)) else (none))) else (none))) = some (r1,r2):=h
 clear h
 by_cases c2 : (a0.size : Int) < 4
 ·rw [if_pos c2] at H
  have c2b0 : decide ((a0.size : Int) < 4) = true:=decide_eq_true c2
  have c2b1 : decide (a0.size < 4) = true:=decide_eq_true (by omega)
  clear c2
  simp only [Option.some.injEq,Prod.mk.injEq] at H
  obtain ⟨rfl,rfl⟩:=H
  go_enter Try.func31,Try.ntmps31
  go_wp2
  go_ret2
  exact ⟨by first | rfl | (simp [errW_none,errW_some] <;> rfl) | (simp [*,errW_none,errW_some] <;> rfl) | (simp [errW_none,errW_some];exact isEmpty_bne _),by repeat (first | (with_reducible first | exact HB.out | apply below_alloc | apply pw_below_drewN | apply below_drew1) | exact HB.out)⟩
 ·rw [if_neg c2] at H
  have c2b0 : decide ((a0.size : Int) < 4) = false:=decide_eq_false c2
  have c2b1 : decide (a0.size < 4) = false:=decide_eq_false (by omega)
  clear c2
  by_cases c3 : 4 ≤ (a0.size : Int)
  ·rw [if_pos c3] at H
   have c3b0:=eq_true c3
   have c3b1 : decide (4 ≤ (a0.size : Int)) = true:=decide_eq_true c3
   clear c3
   replace H:=Option.bind_eq_some_iff.mp H
   obtain ⟨t112,A40,H⟩:=H
   replace H : (if 0 ≤ 4 then (if 4 ≤ (t112.size : Int) then (if (t112.extract 0 4).toList = (a0.extract 0 4).toList then (some (a0.extract 4 a0.size,true)) else (some ((⟨#[]⟩ : ByteArray),false))) else (none)) else (none)) = some (r1,r2):=H
   have A4:=Aside0.mk A40
   clear A40
   by_cases c5 : 0 ≤ 4
   ·rw [if_pos c5] at H
    have c5b0:=eq_true c5
    have c5b1 : decide (0 ≤ 4) = true:=decide_eq_true c5
    clear c5
    by_cases c6 : 4 ≤ (t112.size : Int)
    ·rw [if_pos c6] at H
     have c6b0:=eq_true c6
     have c6b1 : decide (4 ≤ (t112.size : Int)) = true:=decide_eq_true c6
     clear c6
     have c7b0:=eq_true (of_decide_eq_true (by first | (with_reducible assumption) | assumption) : 0 ≤ 4)
     have c8b0:=eq_true (of_decide_eq_true (by first | (with_reducible assumption) | assumption) : 4 ≤ (a0.size : Int))
     by_cases c9 : (t112.extract 0 4).toList = (a0.extract 0 4).toList
     ·rw [if_pos c9] at H
      have c9b0 : ((t112.extract 0 4).toList == (a0.extract 0 4).toList) = true:=beq_iff_eq.mpr c9
      have c9b1 : ((t112.extract 0 4).toList != (a0.extract 0 4).toList) = false:=bne_eq_false_iff_eq.mpr c9
      clear c9
      have c10b0:=eq_true (of_decide_eq_true (by first | (with_reducible assumption) | assumption) : 4 ≤ (a0.size : Int))
      simp only [Option.some.injEq,Prod.mk.injEq] at H
      obtain ⟨rfl,rfl⟩:=H
      go_enter Try.func31,Try.ntmps31
      try go_wp2
      have n0_:=Aside0.mk (below_drew1 HB.out)
      clear HB
      have HB:=n0_
      clear n0_
      refine start_ (n:=7) (S:=fun w' => True) (ds:=[]) #[false,false,false,false,false,false,false] (by kernel_rfl) rfl rfl trivial (fun hHeld => ?_)
      generalize w.drew = w11 at HB hHeld ⊢
      refine pure_ (i:=0) (N:=some 7) (v := ?_) (a' := ?_) #[true,false,false,false,false,false,false] rfl rfl (by kernel_rfl) (fun _ _ _ h => h) (Or.inl ⟨by rfl,?_⟩) ?_ ?_
      rotate_left
      ·intro w'
       go_simp
       with_reducible rfl
      rotate_left
      ·simp only [Act.put,List.setIfInBounds_toArray,List.set_cons_zero,List.set_cons_succ,i64_w,i32_w]
       rfl
      refine pure_ (i:=1) (N:=some 8) (v := ?_) (a' := ?_) #[true,true,false,false,false,false,false] rfl rfl (by kernel_rfl) (fun _ _ _ h => h) (Or.inl ⟨by rfl,?_⟩) ?_ ?_
      rotate_left
      ·intro w'
       go_simp
       with_reducible rfl
      rotate_left
      ·simp only [Act.put,List.setIfInBounds_toArray,List.set_cons_zero,List.set_cons_succ,i64_w,i32_w]
       rfl
      refine pure_ (i:=4) (N:=some 11) (v := ?_) (a' := ?_) #[true,true,false,false,true,false,false] rfl rfl (by kernel_rfl) (fun _ _ _ h => h) (Or.inl ⟨by rfl,?_⟩) ?_ ?_
      rotate_left
      ·intro w'
       go_simp
       with_reducible rfl
      rotate_left
      ·simp only [Act.put,List.setIfInBounds_toArray,List.set_cons_zero,List.set_cons_succ,i64_w,i32_w]
       rfl
      refine pure_ (i:=5) (N:=some 12) (v := ?_) (a' := ?_) #[true,true,false,false,true,true,false] rfl rfl (by kernel_rfl) (fun _ _ _ h => h) (Or.inl ⟨by rfl,?_⟩) ?_ ?_
      rotate_left
      ·intro w'
       go_simp
       with_reducible rfl
      rotate_left
      ·simp only [Act.put,List.setIfInBounds_toArray,List.set_cons_zero,List.set_cons_succ,i64_w,i32_w]
       rfl
      refine one_ (i:=2) (N:=some 9) #[true,true,true,false,true,true,false] rfl rfl (by kernel_rfl) (by decide) (fun K hK => ?_)
      refine goes_ Try.func26 (by kernel_rfl) rfl #[.string (a0.extract 4 a0.size)] (by rfl) rfl rfl (by (try simp only [List.map_toArray,List.map_cons,List.map_nil]);first | done | rfl | (simp only [List.length_drop,List.length_take];rfl)) ?_
      with_reducible refine (crc_Seal.calls (a0.extract 4 a0.size) t112 _ A4.out).mono ?_
      rintro e w12 ⟨rfl,hb⟩
      refine ⟨_,rfl,?_⟩
      have n0_:=Aside0.mk (below_step (by repeat (first | (with_reducible first | exact HB.out | apply below_alloc | apply pw_below_drewN | apply below_drew1) | exact HB.out)) hb)
      clear HB
      have HB:=n0_
      clear n0_
      (try clear hb)
      (try clear hb2)
      (try clear hk)
      (try clear hi)
      refine hK.out _ _ trivial (fun hHeld => ?_)
      clear hK K
      refine norm_ (a' := ?_) ?_ ?_
      rotate_left
      ·show Act.put _ (some 9) _ = _
       simp only [Act.put,List.setIfInBounds_toArray,List.set_cons_zero,List.set_cons_succ,i64_w,i32_w]
       rfl
      refine pure_ (i:=3) (N:=some 10) (v := ?_) (a' := ?_) #[true,true,true,true,true,true,false] rfl rfl (by kernel_rfl) (fun _ _ _ h => h) (Or.inl ⟨by rfl,?_⟩) ?_ ?_
      rotate_left
      ·intro w'
       go_simp
       with_reducible rfl
      rotate_left
      ·simp only [Act.put,List.setIfInBounds_toArray,List.set_cons_zero,List.set_cons_succ,i64_w,i32_w]
       rfl
      refine pure_ (i:=6) (N:=some 13) (v := ?_) (a' := ?_) #[true,true,true,true,true,true,true] rfl rfl (by kernel_rfl) (fun _ _ _ h => h) (Or.inl ⟨by rfl,?_⟩) ?_ ?_
      rotate_left
      ·intro w'
       go_simp
       with_reducible rfl
      rotate_left
      ·simp only [Act.put,List.setIfInBounds_toArray,List.set_cons_zero,List.set_cons_succ,i64_w,i32_w]
       rfl
      refine done_ (by kernel_rfl) ?_
      try go_wp2
      go_ret2
      exact ⟨by first | rfl | (simp [errW_none,errW_some] <;> rfl) | (simp [*,errW_none,errW_some] <;> rfl) | (simp [errW_none,errW_some];exact isEmpty_bne _),by repeat (first | (with_reducible first | exact HB.out | apply below_alloc | apply pw_below_drewN | apply below_drew1) | exact HB.out)⟩
     ·rw [if_neg c9] at H
      have c9b0 : ((t112.extract 0 4).toList == (a0.extract 0 4).toList) = false:=beq_eq_false_iff_ne.mpr c9
      have c9b1 : ((t112.extract 0 4).toList != (a0.extract 0 4).toList) = true:=bne_iff_ne.mpr c9
      simp only [Option.some.injEq,Prod.mk.injEq] at H
      obtain ⟨rfl,rfl⟩:=H
      go_enter Try.func31,Try.ntmps31
      try go_wp2
      have n0_:=Aside0.mk (below_drew1 HB.out)
      clear HB
      have HB:=n0_
      clear n0_
      refine start_ (n:=7) (S:=fun w' => True) (ds:=[]) #[false,false,false,false,false,false,false] (by kernel_rfl) rfl rfl trivial (fun hHeld => ?_)
      generalize w.drew = w13 at HB hHeld ⊢
      refine pure_ (i:=0) (N:=some 7) (v := ?_) (a' := ?_) #[true,false,false,false,false,false,false] rfl rfl (by kernel_rfl) (fun _ _ _ h => h) (Or.inl ⟨by rfl,?_⟩) ?_ ?_
      rotate_left
      ·intro w'
       go_simp
       with_reducible rfl
      rotate_left
      ·simp only [Act.put,List.setIfInBounds_toArray,List.set_cons_zero,List.set_cons_succ,i64_w,i32_w]
       rfl
      refine pure_ (i:=1) (N:=some 8) (v := ?_) (a' := ?_) #[true,true,false,false,false,false,false] rfl rfl (by kernel_rfl) (fun _ _ _ h => h) (Or.inl ⟨by rfl,?_⟩) ?_ ?_
      rotate_left
      ·intro w'
       go_simp
       with_reducible rfl
      rotate_left
      ·simp only [Act.put,List.setIfInBounds_toArray,List.set_cons_zero,List.set_cons_succ,i64_w,i32_w]
       rfl
      refine pure_ (i:=4) (N:=some 11) (v := ?_) (a' := ?_) #[true,true,false,false,true,false,false] rfl rfl (by kernel_rfl) (fun _ _ _ h => h) (Or.inl ⟨by rfl,?_⟩) ?_ ?_
      rotate_left
      ·intro w'
       go_simp
       with_reducible rfl
      rotate_left
      ·simp only [Act.put,List.setIfInBounds_toArray,List.set_cons_zero,List.set_cons_succ,i64_w,i32_w]
       rfl
      refine pure_ (i:=5) (N:=some 12) (v := ?_) (a' := ?_) #[true,true,false,false,true,true,false] rfl rfl (by kernel_rfl) (fun _ _ _ h => h) (Or.inl ⟨by rfl,?_⟩) ?_ ?_
      rotate_left
      ·intro w'
       go_simp
       with_reducible rfl
      rotate_left
      ·simp only [Act.put,List.setIfInBounds_toArray,List.set_cons_zero,List.set_cons_succ,i64_w,i32_w]
       rfl
      refine one_ (i:=2) (N:=some 9) #[true,true,true,false,true,true,false] rfl rfl (by kernel_rfl) (by decide) (fun K hK => ?_)
      refine goes_ Try.func26 (by kernel_rfl) rfl #[.string (a0.extract 4 a0.size)] (by rfl) rfl rfl (by (try simp only [List.map_toArray,List.map_cons,List.map_nil]);first | done | rfl | (simp only [List.length_drop,List.length_take];rfl)) ?_
      with_reducible refine (crc_Seal.calls (a0.extract 4 a0.size) t112 _ A4.out).mono ?_
      rintro e w14 ⟨rfl,hb⟩
      refine ⟨_,rfl,?_⟩
      have n0_:=Aside0.mk (below_step (by repeat (first | (with_reducible first | exact HB.out | apply below_alloc | apply pw_below_drewN | apply below_drew1) | exact HB.out)) hb)
      clear HB
      have HB:=n0_
      clear n0_
      (try clear hb)
      (try clear hb2)
      (try clear hk)
      (try clear hi)
      refine hK.out _ _ trivial (fun hHeld => ?_)
      clear hK K
      refine norm_ (a' := ?_) ?_ ?_
      rotate_left
      ·show Act.put _ (some 9) _ = _
       simp only [Act.put,List.setIfInBounds_toArray,List.set_cons_zero,List.set_cons_succ,i64_w,i32_w]
       rfl
      refine pure_ (i:=3) (N:=some 10) (v := ?_) (a' := ?_) #[true,true,true,true,true,true,false] rfl rfl (by kernel_rfl) (fun _ _ _ h => h) (Or.inl ⟨by rfl,?_⟩) ?_ ?_
      rotate_left
      ·intro w'
       go_simp
       with_reducible rfl
      rotate_left
      ·simp only [Act.put,List.setIfInBounds_toArray,List.set_cons_zero,List.set_cons_succ,i64_w,i32_w]
       rfl
      refine pure_ (i:=6) (N:=some 13) (v := ?_) (a' := ?_) #[true,true,true,true,true,true,true] rfl rfl (by kernel_rfl) (fun _ _ _ h => h) (Or.inl ⟨by rfl,?_⟩) ?_ ?_
      rotate_left
      ·intro w'
       go_simp
       with_reducible rfl
      rotate_left
      ·simp only [Act.put,List.setIfInBounds_toArray,List.set_cons_zero,List.set_cons_succ,i64_w,i32_w]
       rfl
      refine done_ (by kernel_rfl) ?_
      try go_wp2
      go_ret2
      exact ⟨by first | rfl | (simp [errW_none,errW_some] <;> rfl) | (simp [*,errW_none,errW_some] <;> rfl) | (simp [errW_none,errW_some];exact isEmpty_bne _),by repeat (first | (with_reducible first | exact HB.out | apply below_alloc | apply pw_below_drewN | apply below_drew1) | exact HB.out)⟩
    ·rw [if_neg c6] at H
     exact absurd H (by simp)
   ·rw [if_neg c5] at H
    exact absurd H (by simp)
  ·rw [if_neg c3] at H
   exact absurd H (by simp)

end Go.Proofs.Ytdjkkceamldmjaa.Print
