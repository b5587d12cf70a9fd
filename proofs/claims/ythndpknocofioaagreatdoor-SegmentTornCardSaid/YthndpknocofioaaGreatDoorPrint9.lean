/- Written by a program of mine (give.py, over the kit's print) out of the translation: contracts of the Go functions. Lean checks it. -/
import Derived.Test.YthndpknocofioaaGreatDoorPrint0
import Derived.Test.YthndpknocofioaaGreatDoorPrint4
import Derived.Test.YthndpknocofioaaGreatDoorPrint5
import Derived.Test.YthndpknocofioaaGreatDoorPrint6
import Derived.Test.YthndpknocofioaaGreatDoorPrint8
namespace Go.Proofs.YthndpknocofioaaGreatDoor.Print
open Go.RowKit Go.Proofs.YthndpknocofioaaGreatDoorW.PrintWords Go.Proofs.YthndpknocofioaaGreatDoorW.PrintLast Go.Proofs.YthndpknocofioaaGreatDoorW.PrintMore
attribute [local go_sem] max2_int min2_int max_two min_two max_three min_three max_four min_four   -- for this text's walks alone
set_option linter.unusedVariables false
set_option linter.unusedSimpArgs false

/-! ### hint_Bytes: function 72 -/
def hint_Bytes.l0 : Nat → ByteArray → List (S52) → Int → Int → Option (ByteArray × Int)
 | 0,_,_,_,_ => none
 | k + 1,x4,x14,x15,x16 => if x16 < x15 then (if 0 ≤ x16 then (if x16 < (x14.length : Int) then ((hint_right.f ((rd_T52 x14 x16).f0) ((rd_T52 x14 x16).f1) ((rd_T52 x14 x16).f2) ((rd_T52 x14 x16).f3) ((rd_T52 x14 x16).f4)).bind fun t193 => (if t193 = true then ((varint_Text.f ((rd_T52 x14 x16).f0)).bind fun t194 => ((varint_Put.f (IntKind.u64.wrap ((rd_T52 x14 x16).f1))).bind fun t195 => (if t194.size + t195.size ≤ 9223372036854775807 then ((hint_flag.f ((rd_T52 x14 x16).f4)).bind fun t196 => ((varint_Put.f (Go.bits .or .u64 (IntKind.u64.wrap ((IntKind.u64.wrap ((rd_T52 x14 x16).f2)) * 2)) t196)).bind fun t197 => (if t194.size + t195.size + t197.size ≤ 9223372036854775807 then ((varint_Put.f ((rd_T52 x14 x16).f3)).bind fun t198 => (if t194.size + t195.size + t197.size + t198.size ≤ 9223372036854775807 then (if x4.size + (t194.size + t195.size + t197.size + t198.size) ≤ 9223372036854775807 then (hint_Bytes.l0 k (x4 ++ (((t194 ++ t195) ++ t197) ++ t198)) x14 x15 (wrap64 (x16 + 1))) else (none)) else (none))) else (none)))) else (none)))) else (some ((⟨#[]⟩ : ByteArray),1)))) else (none)) else (none)) else ((crc_Seal.f x4).bind fun t190 => (some (t190,0)))
def hint_Bytes.f (k : Nat) (l0 : List (S52)) : Option (ByteArray × Int):=if (l0.length : Int) > 2000 then (some ((⟨#[]⟩ : ByteArray),1)) else ((varint_Put.f (IntKind.u64.wrap ((l0.length : Int)))).bind fun t189 => (hint_Bytes.l0 k t189 l0 (l0.length : Int) 0))
theorem hint_Bytes.mono_l : ∀ k,(∀ y0 y1 y2 y3,LeO (hint_Bytes.l0 k y0 y1 y2 y3) (hint_Bytes.l0 (k + 1) y0 y1 y2 y3))
 | 0 => fun _ _ _ _ r h => by simp [hint_Bytes.l0] at h
 | k + 1 => by
  have ih0:=hint_Bytes.mono_l k
  ·intro y0 y1 y2 y3
   unfold hint_Bytes.l0
   repeat' first
   | (with_reducible exact ih0 _ _ _ _)
   | (with_reducible exact LeO.refl _)
   | (with_reducible exact LeO.none _)
   | (with_reducible refine LeO.ite ?_ ?_)
   | (with_reducible refine LeO.bind ?_ (fun _ => ?_))
   | exact ih0 _ _ _ _
   | exact LeO.none _
   | refine LeO.ite ?_ ?_
   | refine LeO.bind ?_ (fun _ => ?_)
theorem hint_Bytes.mono : ∀ a0 k,LeO (hint_Bytes.f k a0) (hint_Bytes.f (k + 1) a0):=by
 intro a0 k
 have ih0:=hint_Bytes.mono_l k
 unfold hint_Bytes.f
 repeat' first
   | (with_reducible exact ih0 _ _ _ _)
   | (with_reducible exact LeO.refl _)
   | (with_reducible exact LeO.none _)
   | (with_reducible refine LeO.ite ?_ ?_)
   | (with_reducible refine LeO.bind ?_ (fun _ => ?_))
   | exact ih0 _ _ _ _
   | exact LeO.none _
   | refine LeO.ite ?_ ?_
   | refine LeO.bind ?_ (fun _ => ?_)
def hint_Bytes.T9 : Bool × List (List Nat × List Nat):=(true,[([],[]),([],[]),([1],[1]),([2],[2]),([],[]),([4],[4]),([5],[5]),([6,3],[6]),([3,7],[3,7]),([],[]),([9],[9]),([10],[10]),([11],[11]),([],[]),([13],[13]),([14,7],[14]),([12,15],[12,15]),([16,15],[16]),([8,17],[8,17]),([],[]),([19],[19]),([20,17],[20]),([18,21],[18,21]),([0,22],[0,22]),([23,21,0,1,2,3,4,5,6,7,8,9,10,11,12,13,14,15,16,17,18,19,20,21,22,23],[0,23])])
def hint_Bytes.B9 : List Nat:=[0,0,2,6,0,16,48,126,254,0,512,1536,3584,0,8192,24830,65278,130814,262142,0,524288,1834750,4194302,8388607,16777215]
theorem hint_Bytes.tab9 : rtab .any (opsOf Tryz.f72 9) = hint_Bytes.T9:=by kernel_rfl
theorem hint_Bytes.bits9 : waitsOk hint_Bytes.T9.2 hint_Bytes.B9 = true:=by kernel_rfl
set_option maxHeartbeats 8000000 in
set_option maxRecDepth 100000 in
theorem hint_Bytes.calls (k : Nat) (A0 : Option Addr) (c0 : Nat) (l0 : List (S52)) (r1 : ByteArray) (r2 : Int) (w : World) (hr0 : Kd.C k52 w A0 l0.length l0) (hc0 : l0.length ≤ c0) (h : hint_Bytes.f k l0 = some (r1,r2)) :
  Calls Tryz.prog 72 #[.slice A0 l0.length c0] w fun e w' => e = .returned (.tuple #[.string r1,.int .i64 r2]) ∧ Below w.heap.size w w' := by
 have hu52:=Tryz.underlying52
 have HR0:=Aside0.mk hr0
 have HC0:=Aside0.mk hc0
 clear hr0 hc0
 have HB:=Aside0.mk (Below.refl w.heap.size w)
 have H : (if (l0.length : Int) > 2000 then (some ((⟨#[]⟩ : ByteArray),1)) else ((varint_Put.f (IntKind.u64.wrap ((l0.length : Int)))).bind fun t189 => (hint_Bytes.l0 k t189 l0 (l0.length : Int) 0))) = some (r1,r2):=h
 clear h
 by_cases c2 : (l0.length : Int) > 2000
 ·rw [if_pos c2] at H
  have c2b0 : decide (2000 < (l0.length : Int)) = true:=decide_eq_true c2
  have c2b1 : decide (2000 < l0.length) = true:=decide_eq_true (by omega)
  clear c2
  simp only [Option.some.injEq,Prod.mk.injEq] at H
  obtain ⟨rfl,rfl⟩:=H
  go_enter Tryz.func72,Tryz.ntmps72
  go_wp2
  go_ret2
  exact ⟨by first | rfl | (simp [errW_none,errW_some] <;> rfl) | (simp [*,errW_none,errW_some] <;> rfl) | (simp [errW_none,errW_some];exact isEmpty_bne _),by repeat (first | (with_reducible first | exact HB.out | apply below_alloc | apply pw_below_drewN | apply below_drew1) | exact HB.out)⟩
 ·rw [if_neg c2] at H
  have c2b0 : decide (2000 < (l0.length : Int)) = false:=decide_eq_false c2
  have c2b1 : decide (2000 < l0.length) = false:=decide_eq_false (by omega)
  clear c2
  replace H:=Option.bind_eq_some_iff.mp H
  obtain ⟨t189,A30,H⟩:=H
  replace H : (hint_Bytes.l0 k t189 l0 (l0.length : Int) 0) = some (r1,r2):=H
  have A3:=Aside0.mk A30
  clear A30
  have H' := Aside0.mk H
  clear H
  go_enter Tryz.func72,Tryz.ntmps72
  go_wp2_with (first | ((with_reducible refine gate_callee (f:=113) rfl ?_);refine goesL_ (some 13) rfl rfl Tryz.func113 (by kernel_rfl) rfl #[.int .u64 (IntKind.u64.wrap ((l0.length : Int)))] rfl (by (try simp only [List.map_toArray,List.map_cons,List.map_nil]);first | done | rfl | (simp only [List.length_drop,List.length_take];rfl)) ?_;(with_reducible refine (varint_Put.calls (IntKind.u64.wrap ((l0.length : Int))) t189 _ A3.out).mono ?_);rintro e w4 ⟨rfl,hb⟩;refine ⟨_,rfl,?_⟩;have n0_:=Aside0.mk (below_step (by repeat (first | (with_reducible first | exact HB.out | apply below_alloc | apply pw_below_drewN | apply below_drew1) | exact HB.out)) hb);clear HB;have HB:=n0_;clear n0_;(try clear hb);(try clear hb2);(try clear hk);(try clear hi)))
  go_loopg [4,16] k (fun kq v4 v16 w' => ∃ (x4_1 : ByteArray) (x16_1 : Int),v4 = .string x4_1 ∧ v16 = .int .i64 x16_1 ∧ Aside0 (hint_Bytes.l0 kq x4_1 l0 (l0.length : Int) x16_1 = some (r1,r2)) ∧ Aside0 (kq ≤ k) ∧ Aside0 (Below w.heap.size w w'))
  case atStart => exact ⟨(t189),(0),(by first | rfl | (simp;done) | (simp [*];done)),(by first | rfl | (simp;done) | (simp [*];done)),H',⟨Nat.le_refl _⟩,⟨by repeat (first | (with_reducible first | exact HB.out | apply below_alloc | apply pw_below_drewN | apply below_drew1) | exact HB.out)⟩⟩
  case round =>
   clear H'
   try clear c1
   try clear c2
   try clear c2b0
   try clear c2b1
   try clear p2
   obtain ⟨x4_1,x16_1,rfl,rfl,HA,HK1,HB⟩:=hrel
   cases gk with
   | zero => exact absurd HA.out (by simp [hint_Bytes.l0])
   | succ k1 =>
    have H:=HA.out
    clear HA
    simp only [hint_Bytes.l0] at H
    by_cases c5 : x16_1 < (l0.length : Int)
    ·rw [if_pos c5] at H
     have c5b0 : decide (x16_1 < (l0.length : Int)) = true:=decide_eq_true c5
     clear c5
     by_cases c6 : 0 ≤ x16_1
     ·rw [if_pos c6] at H
      have c6b0 : decide (0 ≤ x16_1) = true:=decide_eq_true c6
      clear c6
      by_cases c7 : x16_1 < (l0.length : Int)
      ·rw [if_pos c7] at H
       have c7b0 : decide (x16_1 < (l0.length : Int)) = true:=decide_eq_true c7
       clear c7
       replace H:=Option.bind_eq_some_iff.mp H
       obtain ⟨t193,A80,H⟩:=H
       replace H : (if t193 = true then ((varint_Text.f ((rd_T52 l0 x16_1).f0)).bind fun t194 => ((varint_Put.f (IntKind.u64.wrap ((rd_T52 l0 x16_1).f1))).bind fun t195 => (if t194.size + t195.size ≤ 9223372036854775807 then ((hint_flag.f ((rd_T52 l0 x16_1).f4)).bind fun t196 => ((varint_Put.f (Go.bits .or .u64 (IntKind.u64.wrap ((IntKind.u64.wrap ((rd_T52 l0 x16_1).f2)) * 2)) t196)).bind fun t197 => (if t194.size + t195.size + t197.size ≤ 9223372036854775807 then ((varint_Put.f ((rd_T52 l0 x16_1).f3)).bind fun t198 => (if t194.size + t195.size + t197.size + t198.size ≤ 9223372036854775807 then (if x4_1.size + (t194.size + t195.size + t197.size + t198.size) ≤ 9223372036854775807 then (hint_Bytes.l0 k1 (x4_1 ++ (((t194 ++ t195) ++ t197) ++ t198)) l0 (l0.length : Int) (wrap64 (x16_1 + 1))) else (none)) else (none))) else (none)))) else (none)))) else (some ((⟨#[]⟩ : ByteArray),1))) = some (r1,r2):=H
       have A8:=Aside0.mk A80
       clear A80
       by_cases c9 : t193 = true
       ·subst c9
        have H1 : ((varint_Text.f ((rd_T52 l0 x16_1).f0)).bind fun t194 => ((varint_Put.f (IntKind.u64.wrap ((rd_T52 l0 x16_1).f1))).bind fun t195 => (if t194.size + t195.size ≤ 9223372036854775807 then ((hint_flag.f ((rd_T52 l0 x16_1).f4)).bind fun t196 => ((varint_Put.f (Go.bits .or .u64 (IntKind.u64.wrap ((IntKind.u64.wrap ((rd_T52 l0 x16_1).f2)) * 2)) t196)).bind fun t197 => (if t194.size + t195.size + t197.size ≤ 9223372036854775807 then ((varint_Put.f ((rd_T52 l0 x16_1).f3)).bind fun t198 => (if t194.size + t195.size + t197.size + t198.size ≤ 9223372036854775807 then (if x4_1.size + (t194.size + t195.size + t197.size + t198.size) ≤ 9223372036854775807 then (hint_Bytes.l0 k1 (x4_1 ++ (((t194 ++ t195) ++ t197) ++ t198)) l0 (l0.length : Int) (wrap64 (x16_1 + 1))) else (none)) else (none))) else (none)))) else (none)))) = some (r1,r2):=by rw [if_pos rfl] at H;exact H
        clear H
        have H:=H1
        clear H1
        replace H:=Option.bind_eq_some_iff.mp H
        obtain ⟨t194,A100,H⟩:=H
        replace H : ((varint_Put.f (IntKind.u64.wrap ((rd_T52 l0 x16_1).f1))).bind fun t195 => (if t194.size + t195.size ≤ 9223372036854775807 then ((hint_flag.f ((rd_T52 l0 x16_1).f4)).bind fun t196 => ((varint_Put.f (Go.bits .or .u64 (IntKind.u64.wrap ((IntKind.u64.wrap ((rd_T52 l0 x16_1).f2)) * 2)) t196)).bind fun t197 => (if t194.size + t195.size + t197.size ≤ 9223372036854775807 then ((varint_Put.f ((rd_T52 l0 x16_1).f3)).bind fun t198 => (if t194.size + t195.size + t197.size + t198.size ≤ 9223372036854775807 then (if x4_1.size + (t194.size + t195.size + t197.size + t198.size) ≤ 9223372036854775807 then (hint_Bytes.l0 k1 (x4_1 ++ (((t194 ++ t195) ++ t197) ++ t198)) l0 (l0.length : Int) (wrap64 (x16_1 + 1))) else (none)) else (none))) else (none)))) else (none))) = some (r1,r2):=H
        have A10:=Aside0.mk A100
        clear A100
        replace H:=Option.bind_eq_some_iff.mp H
        obtain ⟨t195,A110,H⟩:=H
        replace H : (if t194.size + t195.size ≤ 9223372036854775807 then ((hint_flag.f ((rd_T52 l0 x16_1).f4)).bind fun t196 => ((varint_Put.f (Go.bits .or .u64 (IntKind.u64.wrap ((IntKind.u64.wrap ((rd_T52 l0 x16_1).f2)) * 2)) t196)).bind fun t197 => (if t194.size + t195.size + t197.size ≤ 9223372036854775807 then ((varint_Put.f ((rd_T52 l0 x16_1).f3)).bind fun t198 => (if t194.size + t195.size + t197.size + t198.size ≤ 9223372036854775807 then (if x4_1.size + (t194.size + t195.size + t197.size + t198.size) ≤ 9223372036854775807 then (hint_Bytes.l0 k1 (x4_1 ++ (((t194 ++ t195) ++ t197) ++ t198)) l0 (l0.length : Int) (wrap64 (x16_1 + 1))) else (none)) else (none))) else (none)))) else (none)) = some (r1,r2):=H
        have A11:=Aside0.mk A110
        clear A110
        by_cases c12 : t194.size + t195.size ≤ 9223372036854775807
        ·rw [if_pos c12] at H
         have c12b0:=eq_true c12
         have c12b1 : decide (t194.size + t195.size ≤ 9223372036854775807) = true:=decide_eq_true c12
         try have c12b2 : (9223372036854775807 < t194.size + t195.size) = False:=eq_false (Nat.not_lt.2 c12)
         replace H:=Option.bind_eq_some_iff.mp H
         obtain ⟨t196,A130,H⟩:=H
         replace H : ((varint_Put.f (Go.bits .or .u64 (IntKind.u64.wrap ((IntKind.u64.wrap ((rd_T52 l0 x16_1).f2)) * 2)) t196)).bind fun t197 => (if t194.size + t195.size + t197.size ≤ 9223372036854775807 then ((varint_Put.f ((rd_T52 l0 x16_1).f3)).bind fun t198 => (if t194.size + t195.size + t197.size + t198.size ≤ 9223372036854775807 then (if x4_1.size + (t194.size + t195.size + t197.size + t198.size) ≤ 9223372036854775807 then (hint_Bytes.l0 k1 (x4_1 ++ (((t194 ++ t195) ++ t197) ++ t198)) l0 (l0.length : Int) (wrap64 (x16_1 + 1))) else (none)) else (none))) else (none))) = some (r1,r2):=H
         have A13:=Aside0.mk A130
         clear A130
         replace H:=Option.bind_eq_some_iff.mp H
         obtain ⟨t197,A140,H⟩:=H
         replace H : (if t194.size + t195.size + t197.size ≤ 9223372036854775807 then ((varint_Put.f ((rd_T52 l0 x16_1).f3)).bind fun t198 => (if t194.size + t195.size + t197.size + t198.size ≤ 9223372036854775807 then (if x4_1.size + (t194.size + t195.size + t197.size + t198.size) ≤ 9223372036854775807 then (hint_Bytes.l0 k1 (x4_1 ++ (((t194 ++ t195) ++ t197) ++ t198)) l0 (l0.length : Int) (wrap64 (x16_1 + 1))) else (none)) else (none))) else (none)) = some (r1,r2):=H
         have A14:=Aside0.mk A140
         clear A140
         by_cases c15 : t194.size + t195.size + t197.size ≤ 9223372036854775807
         ·rw [if_pos c15] at H
          have c15b0:=eq_true c15
          have c15b1 : decide (t194.size + t195.size + t197.size ≤ 9223372036854775807) = true:=decide_eq_true c15
          try have c15b2 : (9223372036854775807 < t194.size + t195.size + t197.size) = False:=eq_false (Nat.not_lt.2 c15)
          replace H:=Option.bind_eq_some_iff.mp H
          obtain ⟨t198,A160,H⟩:=H
          replace H : (if t194.size + t195.size + t197.size + t198.size ≤ 9223372036854775807 then (if x4_1.size + (t194.size + t195.size + t197.size + t198.size) ≤ 9223372036854775807 then (hint_Bytes.l0 k1 (x4_1 ++ (((t194 ++ t195) ++ t197) ++ t198)) l0 (l0.length : Int) (wrap64 (x16_1 + 1))) else (none)) else (none)) = some (r1,r2):=H
          have A16:=Aside0.mk A160
          clear A160
          by_cases c17 : t194.size + t195.size + t197.size + t198.size ≤ 9223372036854775807
          ·rw [if_pos c17] at H
           have c17b0:=eq_true c17
           have c17b1 : decide (t194.size + t195.size + t197.size + t198.size ≤ 9223372036854775807) = true:=decide_eq_true c17
           try have c17b2 : (9223372036854775807 < t194.size + t195.size + t197.size + t198.size) = False:=eq_false (Nat.not_lt.2 c17)
           by_cases c18 : x4_1.size + (t194.size + t195.size + t197.size + t198.size) ≤ 9223372036854775807
           ·rw [if_pos c18] at H
            have c18b0:=eq_true c18
            have c18b1 : decide (x4_1.size + (t194.size + t195.size + t197.size + t198.size) ≤ 9223372036854775807) = true:=decide_eq_true c18
            try have c18b2 : (9223372036854775807 < x4_1.size + (t194.size + t195.size + t197.size + t198.size)) = False:=eq_false (Nat.not_lt.2 c18)
            have H' := Aside0.mk H
            clear H
            have p191 : 0 ≤ (x16_1 : Int):=of_decide_eq_true (by first | (with_reducible assumption) | assumption)
            have q191 : x16_1 < (l0.length : Int):=of_decide_eq_true (by first | (with_reducible assumption) | assumption)
            obtain ⟨ad191,e191,hx191_0,hx191_1,hx191_2,hx191_3,hx191_4⟩:=at_T52 HR0.out x16_1 p191 q191
            cases e191
            replace hx191_0:=(HB.out.cell (World.block_lt_of_cell? w _ hx191_0)).trans hx191_0
            replace hx191_1:=(HB.out.cell (World.block_lt_of_cell? w _ hx191_1)).trans hx191_1
            replace hx191_2:=(HB.out.cell (World.block_lt_of_cell? w _ hx191_2)).trans hx191_2
            replace hx191_3:=(HB.out.cell (World.block_lt_of_cell? w _ hx191_3)).trans hx191_3
            replace hx191_4:=(HB.out.cell (World.block_lt_of_cell? w _ hx191_4)).trans hx191_4
            replace p191:=eq_true p191
            replace q191:=eq_true q191
            try go_wp2_with (first | ((with_reducible refine gate_dst (N:=6) rfl ?_);refine box_event ?hg (N:=6) ?hd (cs := #[.string (⟨#[]⟩ : ByteArray),.int .i64 0,.int .i64 0,.int .u64 0,.bool false]) (t:=52) ?hr ?_;(case hd => rfl);(case hg => rfl);(case hr => first | (go_simp;done) | (go_simp;rfl));intro gb192 hg w19 hbox hb;have n0_:=Aside0.mk (below_step (by repeat (first | (with_reducible first | exact HB.out | apply below_alloc | apply pw_below_drewN | apply below_drew1) | exact HB.out)) hb);have n1_:=Aside0.mk (hbox);have n2_:=Aside0.mk ((by rw [hg];exact (below_size (by repeat (first | (with_reducible first | exact HB.out | apply below_alloc | apply pw_below_drewN | apply below_drew1) | exact HB.out))) : w.heap.size ≤ gb192));have n3_:=Aside0.mk ((by rw [hg];exact (below_size (by repeat (first | (with_reducible first | exact HB.out | apply below_alloc | apply pw_below_drewN | apply below_drew1) | exact HB.out))) : w.heap.size ≤ gb192));clear HB;have HB:=n0_;have BK192:=n1_;have GW192:=n2_;have GE192:=n3_;clear n0_ n1_ n2_ n3_;clear hb hbox hg;have hcz20_0 : w19.cell? ⟨gb192,0,none⟩ = some (.string (⟨#[]⟩ : ByteArray)):=(blk_cell BK192.out 0).trans rfl;have hcz20_1 : w19.cell? ⟨gb192,1,none⟩ = some (.int .i64 0):=(blk_cell BK192.out 1).trans rfl;have hcz20_2 : w19.cell? ⟨gb192,2,none⟩ = some (.int .i64 0):=(blk_cell BK192.out 2).trans rfl;have hcz20_3 : w19.cell? ⟨gb192,3,none⟩ = some (.int .u64 0):=(blk_cell BK192.out 3).trans rfl;have hcz20_4 : w19.cell? ⟨gb192,4,none⟩ = some (.bool false):=(blk_cell BK192.out 4).trans rfl;have hfz20_0:=blk_frozen BK192.out 0;have hfz20_1:=blk_frozen BK192.out 1;have hfz20_2:=blk_frozen BK192.out 2;have hfz20_3:=blk_frozen BK192.out 3;have hfz20_4:=blk_frozen BK192.out 4) | ((with_reducible refine gate_callee (f:=100) rfl ?_);refine goesL_ (some 21) rfl rfl Tryz.func100 (by kernel_rfl) rfl #[.agg #[.string ((rd_T52 l0 x16_1).f0),.int .i64 ((rd_T52 l0 x16_1).f1),.int .i64 ((rd_T52 l0 x16_1).f2),.int .u64 ((rd_T52 l0 x16_1).f3),.bool ((rd_T52 l0 x16_1).f4)]] rfl (by (try simp only [List.map_toArray,List.map_cons,List.map_nil]);first | done | rfl | (simp only [List.length_drop,List.length_take];rfl)) ?_;(with_reducible refine (hint_right.calls ((rd_T52 l0 x16_1).f0) ((rd_T52 l0 x16_1).f1) ((rd_T52 l0 x16_1).f2) ((rd_T52 l0 x16_1).f3) ((rd_T52 l0 x16_1).f4) true _ A8.out).mono ?_);rintro e w21 ⟨rfl,hb⟩;refine ⟨_,rfl,?_⟩;have n0_:=Aside0.mk (blk_below (g:=gb192) (o := .cells #[.string ((rd_T52 l0 x16_1).f0),.int .i64 ((rd_T52 l0 x16_1).f1),.int .i64 ((rd_T52 l0 x16_1).f2),.int .u64 ((rd_T52 l0 x16_1).f3),.bool ((rd_T52 l0 x16_1).f4)] 52 (0,0)) (by (with_reducible repeat (first | refine blk_drewN ?_ _ | refine blk_drew ?_ | refine blk_alloc ?_ _));refine blk_put (cs := #[.string ((rd_T52 l0 x16_1).f0),.int .i64 ((rd_T52 l0 x16_1).f1),.int .i64 ((rd_T52 l0 x16_1).f2),.int .u64 ((rd_T52 l0 x16_1).f3),.bool false]) ?_ 4 _ rfl;(with_reducible repeat (first | refine blk_drewN ?_ _ | refine blk_drew ?_ | refine blk_alloc ?_ _));refine blk_put (cs := #[.string ((rd_T52 l0 x16_1).f0),.int .i64 ((rd_T52 l0 x16_1).f1),.int .i64 ((rd_T52 l0 x16_1).f2),.int .u64 0,.bool false]) ?_ 3 _ rfl;(with_reducible repeat (first | refine blk_drewN ?_ _ | refine blk_drew ?_ | refine blk_alloc ?_ _));refine blk_put (cs := #[.string ((rd_T52 l0 x16_1).f0),.int .i64 ((rd_T52 l0 x16_1).f1),.int .i64 0,.int .u64 0,.bool false]) ?_ 2 _ rfl;(with_reducible repeat (first | refine blk_drewN ?_ _ | refine blk_drew ?_ | refine blk_alloc ?_ _));refine blk_put (cs := #[.string ((rd_T52 l0 x16_1).f0),.int .i64 0,.int .i64 0,.int .u64 0,.bool false]) ?_ 1 _ rfl;(with_reducible repeat (first | refine blk_drewN ?_ _ | refine blk_drew ?_ | refine blk_alloc ?_ _));refine blk_put (cs := #[.string (⟨#[]⟩ : ByteArray),.int .i64 0,.int .i64 0,.int .u64 0,.bool false]) ?_ 0 _ rfl;(with_reducible repeat (first | refine blk_drewN ?_ _ | refine blk_drew ?_ | refine blk_alloc ?_ _));exact BK192.out) hb);have n1_:=Aside0.mk (below_step (by repeat (first | (with_reducible first | exact HB.out | apply below_alloc | apply pw_below_drewN | apply below_drew1 | refine below_set ?_ GE192.out) | exact HB.out)) hb);clear BK192;clear HB;have BK192:=n0_;have HB:=n1_;clear n0_ n1_;(try clear hb);(try clear hb2);(try clear hk);(try clear hi)))
            have n0_:=Aside0.mk (blk_drew BK192.out)
            have n1_:=Aside0.mk (below_drew1 HB.out)
            clear BK192
            clear HB
            have BK192:=n0_
            have HB:=n1_
            clear n0_ n1_
            refine start_ (n:=25) (S:=fun w' => w'.cell? ⟨gb192,0,none⟩ = some (.string ((rd_T52 l0 x16_1).f0)) ∧ w'.cell? ⟨gb192,1,none⟩ = some (.int .i64 ((rd_T52 l0 x16_1).f1)) ∧ w'.cell? ⟨gb192,2,none⟩ = some (.int .i64 ((rd_T52 l0 x16_1).f2)) ∧ w'.cell? ⟨gb192,3,none⟩ = some (.int .u64 ((rd_T52 l0 x16_1).f3)) ∧ w'.cell? ⟨gb192,4,none⟩ = some (.bool ((rd_T52 l0 x16_1).f4))) (ds:=[]) #[false,false,false,false,false,false,false,false,false,false,false,false,false,false,false,false,false,false,false,false,false,false,false,false,false] (by kernel_rfl) rfl rfl ⟨(blk_cell BK192.out 0).trans rfl,(blk_cell BK192.out 1).trans rfl,(blk_cell BK192.out 2).trans rfl,(blk_cell BK192.out 3).trans rfl,(blk_cell BK192.out 4).trans rfl⟩ (fun hHeld => ?_);refine with_tabW hint_Bytes.tab9 hint_Bytes.bits9 (fun HT_ HW_ => ?_)
            generalize w21.drew = w22 at BK192 HB hHeld ⊢
            refine pure_ (i:=0) (N:=some 23) (v := ?_) (a' := ?_) #[true,false,false,false,false,false,false,false,false,false,false,false,false,false,false,false,false,false,false,false,false,false,false,false,false] rfl rfl (any_of HT_.out (by kernel_rfl)) (fun _ _ _ h => h) (Or.inl ⟨by rfl,?_⟩) ?_ ?_
            rotate_left
            ·intro w'
             go_simp
             with_reducible rfl
            rotate_left
            ·simp only [Act.put,List.setIfInBounds_toArray,List.set_cons_zero,List.set_cons_succ,i64_w,i32_w]
             rfl
            refine pure_ (i:=1) (N:=some 24) (v := ?_) (a' := ?_) #[true,true,false,false,false,false,false,false,false,false,false,false,false,false,false,false,false,false,false,false,false,false,false,false,false] rfl rfl (any_of HT_.out (by kernel_rfl)) (fun _ _ _ h => h) (Or.inl ⟨by rfl,?_⟩) ?_ ?_
            rotate_left
            ·intro w'
             go_simp
             with_reducible rfl
            rotate_left
            ·simp only [Act.put,List.setIfInBounds_toArray,List.set_cons_zero,List.set_cons_succ,i64_w,i32_w]
             rfl
            refine pure_ (i:=4) (N:=some 27) (v := ?_) (a' := ?_) #[true,true,false,false,true,false,false,false,false,false,false,false,false,false,false,false,false,false,false,false,false,false,false,false,false] rfl rfl (any_of HT_.out (by kernel_rfl)) (fun _ _ _ h => h) (Or.inl ⟨by rfl,?_⟩) ?_ ?_
            rotate_left
            ·intro w'
             go_simp
             with_reducible rfl
            rotate_left
            ·simp only [Act.put,List.setIfInBounds_toArray,List.set_cons_zero,List.set_cons_succ,i64_w,i32_w]
             rfl
            refine pure_ (i:=9) (N:=some 32) (v := ?_) (a' := ?_) #[true,true,false,false,true,false,false,false,false,true,false,false,false,false,false,false,false,false,false,false,false,false,false,false,false] rfl rfl (any_of HT_.out (by kernel_rfl)) (fun _ _ _ h => h) (Or.inl ⟨by rfl,?_⟩) ?_ ?_
            rotate_left
            ·intro w'
             go_simp
             with_reducible rfl
            rotate_left
            ·simp only [Act.put,List.setIfInBounds_toArray,List.set_cons_zero,List.set_cons_succ,i64_w,i32_w]
             rfl
            refine pure_ (i:=13) (N:=some 36) (v := ?_) (a' := ?_) #[true,true,false,false,true,false,false,false,false,true,false,false,false,true,false,false,false,false,false,false,false,false,false,false,false] rfl rfl (any_of HT_.out (by kernel_rfl)) (fun _ _ _ h => h) (Or.inl ⟨by rfl,?_⟩) ?_ ?_
            rotate_left
            ·intro w'
             go_simp
             with_reducible rfl
            rotate_left
            ·simp only [Act.put,List.setIfInBounds_toArray,List.set_cons_zero,List.set_cons_succ,i64_w,i32_w]
             rfl
            refine pure_ (i:=19) (N:=some 42) (v := ?_) (a' := ?_) #[true,true,false,false,true,false,false,false,false,true,false,false,false,true,false,false,false,false,false,true,false,false,false,false,false] rfl rfl (any_of HT_.out (by kernel_rfl)) (fun _ _ _ h => h) (Or.inl ⟨by rfl,?_⟩) ?_ ?_
            rotate_left
            ·intro w'
             go_simp
             with_reducible rfl
            rotate_left
            ·simp only [Act.put,List.setIfInBounds_toArray,List.set_cons_zero,List.set_cons_succ,i64_w,i32_w]
             rfl
            refine take_ (i:=2) (N:=some 25) (v := ?_) (a' := ?_) #[true,true,true,false,true,false,false,false,false,true,false,false,false,true,false,false,false,false,false,true,false,false,false,false,false] rfl rfl (take_ofW HT_.out HW_.out (by kernel_rfl)) (fun _ _ _ h => h) (Or.inl ⟨by rfl,?_⟩) hHeld ?_ ?_
            rotate_left
            ·rintro w' ⟨s0,s1,s2,s3,s4⟩
             go_simp
             with_reducible rfl
            rotate_left
            ·simp only [Act.put,List.setIfInBounds_toArray,List.set_cons_zero,List.set_cons_succ,i64_w,i32_w]
             rfl
            refine take_ (i:=5) (N:=some 28) (v := ?_) (a' := ?_) #[true,true,true,false,true,true,false,false,false,true,false,false,false,true,false,false,false,false,false,true,false,false,false,false,false] rfl rfl (take_ofW HT_.out HW_.out (by kernel_rfl)) (fun _ _ _ h => h) (Or.inl ⟨by rfl,?_⟩) hHeld ?_ ?_
            rotate_left
            ·rintro w' ⟨s0,s1,s2,s3,s4⟩
             go_simp
             with_reducible rfl
            rotate_left
            ·simp only [Act.put,List.setIfInBounds_toArray,List.set_cons_zero,List.set_cons_succ,i64_w,i32_w]
             rfl
            refine pure_ (i:=6) (N:=some 29) (v := ?_) (a' := ?_) #[true,true,true,false,true,true,true,false,false,true,false,false,false,true,false,false,false,false,false,true,false,false,false,false,false] rfl rfl (any_of HT_.out (by kernel_rfl)) (fun _ _ _ h => h) (Or.inl ⟨by rfl,?_⟩) ?_ ?_
            rotate_left
            ·intro w'
             go_simp
             with_reducible rfl
            rotate_left
            ·simp only [Act.put,List.setIfInBounds_toArray,List.set_cons_zero,List.set_cons_succ,i64_w,i32_w]
             rfl
            refine take_ (i:=10) (N:=some 33) (v := ?_) (a' := ?_) #[true,true,true,false,true,true,true,false,false,true,true,false,false,true,false,false,false,false,false,true,false,false,false,false,false] rfl rfl (take_ofW HT_.out HW_.out (by kernel_rfl)) (fun _ _ _ h => h) (Or.inl ⟨by rfl,?_⟩) hHeld ?_ ?_
            rotate_left
            ·rintro w' ⟨s0,s1,s2,s3,s4⟩
             go_simp
             with_reducible rfl
            rotate_left
            ·simp only [Act.put,List.setIfInBounds_toArray,List.set_cons_zero,List.set_cons_succ,i64_w,i32_w]
             rfl
            refine pure_ (i:=11) (N:=some 34) (v := ?_) (a' := ?_) #[true,true,true,false,true,true,true,false,false,true,true,true,false,true,false,false,false,false,false,true,false,false,false,false,false] rfl rfl (any_of HT_.out (by kernel_rfl)) (fun _ _ _ h => h) (Or.inl ⟨by rfl,?_⟩) ?_ ?_
            rotate_left
            ·intro w'
             go_simp
             with_reducible rfl
            rotate_left
            ·simp only [Act.put,List.setIfInBounds_toArray,List.set_cons_zero,List.set_cons_succ,i64_w,i32_w]
             rfl
            refine pure_ (i:=12) (N:=some 35) (v := ?_) (a' := ?_) #[true,true,true,false,true,true,true,false,false,true,true,true,true,true,false,false,false,false,false,true,false,false,false,false,false] rfl rfl (any_of HT_.out (by kernel_rfl)) (fun _ _ _ h => h) (Or.inl ⟨by rfl,?_⟩) ?_ ?_
            rotate_left
            ·intro w'
             go_simp
             with_reducible rfl
            rotate_left
            ·simp only [Act.put,List.setIfInBounds_toArray,List.set_cons_zero,List.set_cons_succ,i64_w,i32_w]
             rfl
            refine take_ (i:=14) (N:=some 37) (v := ?_) (a' := ?_) #[true,true,true,false,true,true,true,false,false,true,true,true,true,true,true,false,false,false,false,true,false,false,false,false,false] rfl rfl (take_ofW HT_.out HW_.out (by kernel_rfl)) (fun _ _ _ h => h) (Or.inl ⟨by rfl,?_⟩) hHeld ?_ ?_
            rotate_left
            ·rintro w' ⟨s0,s1,s2,s3,s4⟩
             go_simp
             with_reducible rfl
            rotate_left
            ·simp only [Act.put,List.setIfInBounds_toArray,List.set_cons_zero,List.set_cons_succ,i64_w,i32_w]
             rfl
            refine take_ (i:=20) (N:=some 43) (v := ?_) (a' := ?_) #[true,true,true,false,true,true,true,false,false,true,true,true,true,true,true,false,false,false,false,true,true,false,false,false,false] rfl rfl (take_ofW HT_.out HW_.out (by kernel_rfl)) (fun _ _ _ h => h) (Or.inl ⟨by rfl,?_⟩) hHeld ?_ ?_
            rotate_left
            ·rintro w' ⟨s0,s1,s2,s3,s4⟩
             go_simp
             with_reducible rfl
            rotate_left
            ·simp only [Act.put,List.setIfInBounds_toArray,List.set_cons_zero,List.set_cons_succ,i64_w,i32_w]
             rfl
            refine one_ (i:=3) (N:=some 26) #[true,true,true,true,true,true,true,false,false,true,true,true,true,true,true,false,false,false,false,true,true,false,false,false,false] rfl rfl (one_of HT_.out (by kernel_rfl)) (by decide) (fun K hK => ?_)
            refine goes_ Tryz.func94 (by kernel_rfl) rfl #[.string ((rd_T52 l0 x16_1).f0)] (by rfl) rfl rfl (by (try simp only [List.map_toArray,List.map_cons,List.map_nil]);first | done | rfl | (simp only [List.length_drop,List.length_take];rfl)) ?_
            with_reducible refine (varint_Text.calls ((rd_T52 l0 x16_1).f0) t194 _ A10.out).mono ?_
            rintro e w23 ⟨rfl,hb⟩
            refine ⟨_,rfl,?_⟩
            have n0_:=Aside0.mk (blk_below (g:=gb192) (o := .cells #[.string ((rd_T52 l0 x16_1).f0),.int .i64 ((rd_T52 l0 x16_1).f1),.int .i64 ((rd_T52 l0 x16_1).f2),.int .u64 ((rd_T52 l0 x16_1).f3),.bool ((rd_T52 l0 x16_1).f4)] 52 (0,0)) (by (with_reducible repeat (first | refine blk_drewN ?_ _ | refine blk_drew ?_ | refine blk_alloc ?_ _));exact BK192.out) hb)
            have n1_:=Aside0.mk (below_step (by repeat (first | (with_reducible first | exact HB.out | apply below_alloc | apply pw_below_drewN | apply below_drew1 | refine below_set ?_ GE192.out) | exact HB.out)) hb)
            clear BK192
            clear HB
            have BK192:=n0_
            have HB:=n1_
            clear n0_ n1_
            (try clear hb)
            (try clear hb2)
            (try clear hk)
            (try clear hi)
            refine hK.out _ _ ⟨(blk_cell BK192.out 0).trans rfl,(blk_cell BK192.out 1).trans rfl,(blk_cell BK192.out 2).trans rfl,(blk_cell BK192.out 3).trans rfl,(blk_cell BK192.out 4).trans rfl⟩ (fun hHeld => ?_)
            clear hK K
            refine norm_ (a' := ?_) ?_ ?_
            rotate_left
            ·show Act.put _ (some 26) _ = _
             simp only [Act.put,List.setIfInBounds_toArray,List.set_cons_zero,List.set_cons_succ,i64_w,i32_w]
             rfl
            refine one_ (i:=7) (N:=some 30) #[true,true,true,true,true,true,true,true,false,true,true,true,true,true,true,false,false,false,false,true,true,false,false,false,false] rfl rfl (one_of HT_.out (by kernel_rfl)) (by decide) (fun K hK => ?_)
            refine goes_ Tryz.func113 (by kernel_rfl) rfl #[.int .u64 (IntKind.u64.wrap ((rd_T52 l0 x16_1).f1))] (by rfl) rfl rfl (by (try simp only [List.map_toArray,List.map_cons,List.map_nil]);first | done | rfl | (simp only [List.length_drop,List.length_take];rfl)) ?_
            with_reducible refine (varint_Put.calls (IntKind.u64.wrap ((rd_T52 l0 x16_1).f1)) t195 _ A11.out).mono ?_
            rintro e w24 ⟨rfl,hb⟩
            refine ⟨_,rfl,?_⟩
            have n0_:=Aside0.mk (blk_below (g:=gb192) (o := .cells #[.string ((rd_T52 l0 x16_1).f0),.int .i64 ((rd_T52 l0 x16_1).f1),.int .i64 ((rd_T52 l0 x16_1).f2),.int .u64 ((rd_T52 l0 x16_1).f3),.bool ((rd_T52 l0 x16_1).f4)] 52 (0,0)) (by (with_reducible repeat (first | refine blk_drewN ?_ _ | refine blk_drew ?_ | refine blk_alloc ?_ _));exact BK192.out) hb)
            have n1_:=Aside0.mk (below_step (by repeat (first | (with_reducible first | exact HB.out | apply below_alloc | apply pw_below_drewN | apply below_drew1 | refine below_set ?_ GE192.out) | exact HB.out)) hb)
            clear BK192
            clear HB
            have BK192:=n0_
            have HB:=n1_
            clear n0_ n1_
            (try clear hb)
            (try clear hb2)
            (try clear hk)
            (try clear hi)
            refine hK.out _ _ ⟨(blk_cell BK192.out 0).trans rfl,(blk_cell BK192.out 1).trans rfl,(blk_cell BK192.out 2).trans rfl,(blk_cell BK192.out 3).trans rfl,(blk_cell BK192.out 4).trans rfl⟩ (fun hHeld => ?_)
            clear hK K
            refine norm_ (a' := ?_) ?_ ?_
            rotate_left
            ·show Act.put _ (some 30) _ = _
             simp only [Act.put,List.setIfInBounds_toArray,List.set_cons_zero,List.set_cons_succ,i64_w,i32_w]
             rfl
            refine pure_ (i:=8) (N:=some 31) (v := ?_) (a' := ?_) #[true,true,true,true,true,true,true,true,true,true,true,true,true,true,true,false,false,false,false,true,true,false,false,false,false] rfl rfl (any_of HT_.out (by kernel_rfl)) (fun _ _ _ h => h) (Or.inl ⟨by rfl,?_⟩) ?_ ?_
            rotate_left
            ·intro w'
             go_simp
             with_reducible rfl
            rotate_left
            ·simp only [Act.put,List.setIfInBounds_toArray,List.set_cons_zero,List.set_cons_succ,i64_w,i32_w]
             rfl
            refine one_ (i:=15) (N:=some 38) #[true,true,true,true,true,true,true,true,true,true,true,true,true,true,true,true,false,false,false,true,true,false,false,false,false] rfl rfl (one_of HT_.out (by kernel_rfl)) (by decide) (fun K hK => ?_)
            refine goes_ Tryz.func114 (by kernel_rfl) rfl #[.bool ((rd_T52 l0 x16_1).f4)] (by rfl) rfl rfl (by (try simp only [List.map_toArray,List.map_cons,List.map_nil]);first | done | rfl | (simp only [List.length_drop,List.length_take];rfl)) ?_
            with_reducible refine (hint_flag.calls ((rd_T52 l0 x16_1).f4) t196 _ A13.out).mono ?_
            rintro e w' ⟨rfl,⟨nd,rfl⟩⟩
            refine ⟨_,rfl,?_⟩
            refine hK.out _ _ ⟨(blk_cell BK192.out 0).trans rfl,(blk_cell BK192.out 1).trans rfl,(blk_cell BK192.out 2).trans rfl,(blk_cell BK192.out 3).trans rfl,(blk_cell BK192.out 4).trans rfl⟩ (fun hHeld => ?_)
            clear hK K
            refine norm_ (a' := ?_) ?_ ?_
            rotate_left
            ·show Act.put _ (some 38) _ = _
             simp only [Act.put,List.setIfInBounds_toArray,List.set_cons_zero,List.set_cons_succ,i64_w,i32_w]
             rfl
            refine pure_ (i:=16) (N:=some 39) (v := ?_) (a' := ?_) #[true,true,true,true,true,true,true,true,true,true,true,true,true,true,true,true,true,false,false,true,true,false,false,false,false] rfl rfl (any_of HT_.out (by kernel_rfl)) (fun _ _ _ h => h) (Or.inl ⟨by rfl,?_⟩) ?_ ?_
            rotate_left
            ·intro w'
             go_simp
             with_reducible rfl
            rotate_left
            ·simp only [Act.put,List.setIfInBounds_toArray,List.set_cons_zero,List.set_cons_succ,i64_w,i32_w]
             rfl
            refine one_ (i:=17) (N:=some 40) #[true,true,true,true,true,true,true,true,true,true,true,true,true,true,true,true,true,true,false,true,true,false,false,false,false] rfl rfl (one_of HT_.out (by kernel_rfl)) (by decide) (fun K hK => ?_)
            refine goes_ Tryz.func113 (by kernel_rfl) rfl #[.int .u64 (Go.bits .or .u64 (IntKind.u64.wrap ((IntKind.u64.wrap ((rd_T52 l0 x16_1).f2)) * 2)) t196)] (by rfl) rfl rfl (by (try simp only [List.map_toArray,List.map_cons,List.map_nil]);first | done | rfl | (simp only [List.length_drop,List.length_take];rfl)) ?_
            with_reducible refine (varint_Put.calls (Go.bits .or .u64 (IntKind.u64.wrap ((IntKind.u64.wrap ((rd_T52 l0 x16_1).f2)) * 2)) t196) t197 _ A14.out).mono ?_
            rintro e w25 ⟨rfl,hb⟩
            refine ⟨_,rfl,?_⟩
            have n0_:=Aside0.mk (blk_below (g:=gb192) (o := .cells #[.string ((rd_T52 l0 x16_1).f0),.int .i64 ((rd_T52 l0 x16_1).f1),.int .i64 ((rd_T52 l0 x16_1).f2),.int .u64 ((rd_T52 l0 x16_1).f3),.bool ((rd_T52 l0 x16_1).f4)] 52 (0,0)) (by (with_reducible repeat (first | refine blk_drewN ?_ _ | refine blk_drew ?_ | refine blk_alloc ?_ _));exact BK192.out) hb)
            have n1_:=Aside0.mk (below_step (by repeat (first | (with_reducible first | exact HB.out | apply below_alloc | apply pw_below_drewN | apply below_drew1 | refine below_set ?_ GE192.out) | exact HB.out)) hb)
            clear BK192
            clear HB
            have BK192:=n0_
            have HB:=n1_
            clear n0_ n1_
            (try clear hb)
            (try clear hb2)
            (try clear hk)
            (try clear hi)
            refine hK.out _ _ ⟨(blk_cell BK192.out 0).trans rfl,(blk_cell BK192.out 1).trans rfl,(blk_cell BK192.out 2).trans rfl,(blk_cell BK192.out 3).trans rfl,(blk_cell BK192.out 4).trans rfl⟩ (fun hHeld => ?_)
            clear hK K
            refine norm_ (a' := ?_) ?_ ?_
            rotate_left
            ·show Act.put _ (some 40) _ = _
             simp only [Act.put,List.setIfInBounds_toArray,List.set_cons_zero,List.set_cons_succ,i64_w,i32_w]
             rfl
            refine pure_ (i:=18) (N:=some 41) (v := ?_) (a' := ?_) #[true,true,true,true,true,true,true,true,true,true,true,true,true,true,true,true,true,true,true,true,true,false,false,false,false] rfl rfl (any_of HT_.out (by kernel_rfl)) (fun _ _ _ h => h) (Or.inl ⟨by rfl,?_⟩) ?_ ?_
            rotate_left
            ·intro w'
             go_simp
             with_reducible rfl
            rotate_left
            ·simp only [Act.put,List.setIfInBounds_toArray,List.set_cons_zero,List.set_cons_succ,i64_w,i32_w]
             rfl
            refine one_ (i:=21) (N:=some 44) #[true,true,true,true,true,true,true,true,true,true,true,true,true,true,true,true,true,true,true,true,true,true,false,false,false] rfl rfl (one_of HT_.out (by kernel_rfl)) (by decide) (fun K hK => ?_)
            refine goes_ Tryz.func113 (by kernel_rfl) rfl #[.int .u64 ((rd_T52 l0 x16_1).f3)] (by rfl) rfl rfl (by (try simp only [List.map_toArray,List.map_cons,List.map_nil]);first | done | rfl | (simp only [List.length_drop,List.length_take];rfl)) ?_
            with_reducible refine (varint_Put.calls ((rd_T52 l0 x16_1).f3) t198 _ A16.out).mono ?_
            rintro e w26 ⟨rfl,hb⟩
            refine ⟨_,rfl,?_⟩
            have n0_:=Aside0.mk (blk_below (g:=gb192) (o := .cells #[.string ((rd_T52 l0 x16_1).f0),.int .i64 ((rd_T52 l0 x16_1).f1),.int .i64 ((rd_T52 l0 x16_1).f2),.int .u64 ((rd_T52 l0 x16_1).f3),.bool ((rd_T52 l0 x16_1).f4)] 52 (0,0)) (by (with_reducible repeat (first | refine blk_drewN ?_ _ | refine blk_drew ?_ | refine blk_alloc ?_ _));exact BK192.out) hb)
            have n1_:=Aside0.mk (below_step (by repeat (first | (with_reducible first | exact HB.out | apply below_alloc | apply pw_below_drewN | apply below_drew1 | refine below_set ?_ GE192.out) | exact HB.out)) hb)
            clear BK192
            clear HB
            have BK192:=n0_
            have HB:=n1_
            clear n0_ n1_
            (try clear hb)
            (try clear hb2)
            (try clear hk)
            (try clear hi)
            refine hK.out _ _ ⟨(blk_cell BK192.out 0).trans rfl,(blk_cell BK192.out 1).trans rfl,(blk_cell BK192.out 2).trans rfl,(blk_cell BK192.out 3).trans rfl,(blk_cell BK192.out 4).trans rfl⟩ (fun hHeld => ?_)
            clear hK K
            refine norm_ (a' := ?_) ?_ ?_
            rotate_left
            ·show Act.put _ (some 44) _ = _
             simp only [Act.put,List.setIfInBounds_toArray,List.set_cons_zero,List.set_cons_succ,i64_w,i32_w]
             rfl
            refine pure_ (i:=22) (N:=some 45) (v := ?_) (a' := ?_) #[true,true,true,true,true,true,true,true,true,true,true,true,true,true,true,true,true,true,true,true,true,true,true,false,false] rfl rfl (any_of HT_.out (by kernel_rfl)) (fun _ _ _ h => h) (Or.inl ⟨by rfl,?_⟩) ?_ ?_
            rotate_left
            ·intro w'
             go_simp
             with_reducible rfl
            rotate_left
            ·simp only [Act.put,List.setIfInBounds_toArray,List.set_cons_zero,List.set_cons_succ,i64_w,i32_w]
             rfl
            refine pure_ (i:=23) (N:=some 46) (v := ?_) (a' := ?_) #[true,true,true,true,true,true,true,true,true,true,true,true,true,true,true,true,true,true,true,true,true,true,true,true,false] rfl rfl (any_of HT_.out (by kernel_rfl)) (fun _ _ _ h => h) (Or.inl ⟨by rfl,?_⟩) ?_ ?_
            rotate_left
            ·intro w'
             go_simp
             with_reducible rfl
            rotate_left
            ·simp only [Act.put,List.setIfInBounds_toArray,List.set_cons_zero,List.set_cons_succ,i64_w,i32_w]
             rfl
            refine pure_ (i:=24) (N:=some 4) (v := ?_) (a' := ?_) #[true,true,true,true,true,true,true,true,true,true,true,true,true,true,true,true,true,true,true,true,true,true,true,true,true] rfl rfl (any_of HT_.out (by kernel_rfl)) (fun _ _ _ h => h) (Or.inl ⟨by rfl,?_⟩) ?_ ?_
            rotate_left
            ·intro w'
             go_simp
             with_reducible rfl
            rotate_left
            ·simp only [Act.put,List.setIfInBounds_toArray,List.set_cons_zero,List.set_cons_succ,i64_w,i32_w]
             rfl
            refine done_ (done_of HT_.out (by kernel_rfl)) ?_
            try go_wp2
            go_roundg k1
            case measure => have:=HK1.out;omega
            case rel => exact ⟨(x4_1 ++ (((t194 ++ t195) ++ t197) ++ t198)),(wrap64 (x16_1 + 1)),(by first | rfl | (simp;done) | (simp [*];done)),(by first | rfl | (simp;done) | (simp [*];done)),H',⟨by have:=HK1.out;omega⟩,⟨by repeat (first | (with_reducible first | exact HB.out | apply below_alloc | apply pw_below_drewN | apply below_drew1 | refine below_set ?_ GE192.out) | exact HB.out)⟩⟩
           ·rw [if_neg c18] at H
            exact absurd H (by simp)
          ·rw [if_neg c17] at H
           exact absurd H (by simp)
         ·rw [if_neg c15] at H
          exact absurd H (by simp)
        ·rw [if_neg c12] at H
         exact absurd H (by simp)
       ·replace c9:=Bool.eq_false_iff.mpr c9
        subst c9
        have H1 : (some ((⟨#[]⟩ : ByteArray),1)) = some (r1,r2):=by rw [if_neg (show ¬ (false = true) by decide)] at H;exact H
        clear H
        have H:=H1
        clear H1
        simp only [Option.some.injEq,Prod.mk.injEq] at H
        obtain ⟨rfl,rfl⟩:=H
        have p191 : 0 ≤ (x16_1 : Int):=of_decide_eq_true (by first | (with_reducible assumption) | assumption)
        have q191 : x16_1 < (l0.length : Int):=of_decide_eq_true (by first | (with_reducible assumption) | assumption)
        obtain ⟨ad191,e191,hx191_0,hx191_1,hx191_2,hx191_3,hx191_4⟩:=at_T52 HR0.out x16_1 p191 q191
        cases e191
        replace hx191_0:=(HB.out.cell (World.block_lt_of_cell? w _ hx191_0)).trans hx191_0
        replace hx191_1:=(HB.out.cell (World.block_lt_of_cell? w _ hx191_1)).trans hx191_1
        replace hx191_2:=(HB.out.cell (World.block_lt_of_cell? w _ hx191_2)).trans hx191_2
        replace hx191_3:=(HB.out.cell (World.block_lt_of_cell? w _ hx191_3)).trans hx191_3
        replace hx191_4:=(HB.out.cell (World.block_lt_of_cell? w _ hx191_4)).trans hx191_4
        replace p191:=eq_true p191
        replace q191:=eq_true q191
        go_wp2_with (first | ((with_reducible refine gate_dst (N:=6) rfl ?_);refine box_event ?hg (N:=6) ?hd (cs := #[.string (⟨#[]⟩ : ByteArray),.int .i64 0,.int .i64 0,.int .u64 0,.bool false]) (t:=52) ?hr ?_;(case hd => rfl);(case hg => rfl);(case hr => first | (go_simp;done) | (go_simp;rfl));intro gb192 hg w27 hbox hb;have n0_:=Aside0.mk (below_step (by repeat (first | (with_reducible first | exact HB.out | apply below_alloc | apply pw_below_drewN | apply below_drew1) | exact HB.out)) hb);have n1_:=Aside0.mk (hbox);have n2_:=Aside0.mk ((by rw [hg];exact (below_size (by repeat (first | (with_reducible first | exact HB.out | apply below_alloc | apply pw_below_drewN | apply below_drew1) | exact HB.out))) : w.heap.size ≤ gb192));have n3_:=Aside0.mk ((by rw [hg];exact (below_size (by repeat (first | (with_reducible first | exact HB.out | apply below_alloc | apply pw_below_drewN | apply below_drew1) | exact HB.out))) : w.heap.size ≤ gb192));clear HB;have HB:=n0_;have BK192:=n1_;have GW192:=n2_;have GE192:=n3_;clear n0_ n1_ n2_ n3_;clear hb hbox hg;have hcz28_0 : w27.cell? ⟨gb192,0,none⟩ = some (.string (⟨#[]⟩ : ByteArray)):=(blk_cell BK192.out 0).trans rfl;have hcz28_1 : w27.cell? ⟨gb192,1,none⟩ = some (.int .i64 0):=(blk_cell BK192.out 1).trans rfl;have hcz28_2 : w27.cell? ⟨gb192,2,none⟩ = some (.int .i64 0):=(blk_cell BK192.out 2).trans rfl;have hcz28_3 : w27.cell? ⟨gb192,3,none⟩ = some (.int .u64 0):=(blk_cell BK192.out 3).trans rfl;have hcz28_4 : w27.cell? ⟨gb192,4,none⟩ = some (.bool false):=(blk_cell BK192.out 4).trans rfl;have hfz28_0:=blk_frozen BK192.out 0;have hfz28_1:=blk_frozen BK192.out 1;have hfz28_2:=blk_frozen BK192.out 2;have hfz28_3:=blk_frozen BK192.out 3;have hfz28_4:=blk_frozen BK192.out 4) | ((with_reducible refine gate_callee (f:=100) rfl ?_);refine goesL_ (some 21) rfl rfl Tryz.func100 (by kernel_rfl) rfl #[.agg #[.string ((rd_T52 l0 x16_1).f0),.int .i64 ((rd_T52 l0 x16_1).f1),.int .i64 ((rd_T52 l0 x16_1).f2),.int .u64 ((rd_T52 l0 x16_1).f3),.bool ((rd_T52 l0 x16_1).f4)]] rfl (by (try simp only [List.map_toArray,List.map_cons,List.map_nil]);first | done | rfl | (simp only [List.length_drop,List.length_take];rfl)) ?_;(with_reducible refine (hint_right.calls ((rd_T52 l0 x16_1).f0) ((rd_T52 l0 x16_1).f1) ((rd_T52 l0 x16_1).f2) ((rd_T52 l0 x16_1).f3) ((rd_T52 l0 x16_1).f4) false _ A8.out).mono ?_);rintro e w29 ⟨rfl,hb⟩;refine ⟨_,rfl,?_⟩;have n0_:=Aside0.mk (blk_below (g:=gb192) (o := .cells #[.string ((rd_T52 l0 x16_1).f0),.int .i64 ((rd_T52 l0 x16_1).f1),.int .i64 ((rd_T52 l0 x16_1).f2),.int .u64 ((rd_T52 l0 x16_1).f3),.bool ((rd_T52 l0 x16_1).f4)] 52 (0,0)) (by (with_reducible repeat (first | refine blk_drewN ?_ _ | refine blk_drew ?_ | refine blk_alloc ?_ _));refine blk_put (cs := #[.string ((rd_T52 l0 x16_1).f0),.int .i64 ((rd_T52 l0 x16_1).f1),.int .i64 ((rd_T52 l0 x16_1).f2),.int .u64 ((rd_T52 l0 x16_1).f3),.bool false]) ?_ 4 _ rfl;(with_reducible repeat (first | refine blk_drewN ?_ _ | refine blk_drew ?_ | refine blk_alloc ?_ _));refine blk_put (cs := #[.string ((rd_T52 l0 x16_1).f0),.int .i64 ((rd_T52 l0 x16_1).f1),.int .i64 ((rd_T52 l0 x16_1).f2),.int .u64 0,.bool false]) ?_ 3 _ rfl;(with_reducible repeat (first | refine blk_drewN ?_ _ | refine blk_drew ?_ | refine blk_alloc ?_ _));refine blk_put (cs := #[.string ((rd_T52 l0 x16_1).f0),.int .i64 ((rd_T52 l0 x16_1).f1),.int .i64 0,.int .u64 0,.bool false]) ?_ 2 _ rfl;(with_reducible repeat (first | refine blk_drewN ?_ _ | refine blk_drew ?_ | refine blk_alloc ?_ _));refine blk_put (cs := #[.string ((rd_T52 l0 x16_1).f0),.int .i64 0,.int .i64 0,.int .u64 0,.bool false]) ?_ 1 _ rfl;(with_reducible repeat (first | refine blk_drewN ?_ _ | refine blk_drew ?_ | refine blk_alloc ?_ _));refine blk_put (cs := #[.string (⟨#[]⟩ : ByteArray),.int .i64 0,.int .i64 0,.int .u64 0,.bool false]) ?_ 0 _ rfl;(with_reducible repeat (first | refine blk_drewN ?_ _ | refine blk_drew ?_ | refine blk_alloc ?_ _));exact BK192.out) hb);have n1_:=Aside0.mk (below_step (by repeat (first | (with_reducible first | exact HB.out | apply below_alloc | apply pw_below_drewN | apply below_drew1 | refine below_set ?_ GE192.out) | exact HB.out)) hb);clear BK192;clear HB;have BK192:=n0_;have HB:=n1_;clear n0_ n1_;(try clear hb);(try clear hb2);(try clear hk);(try clear hi)))
        go_ret2
        exact ⟨by first | rfl | (simp [errW_none,errW_some] <;> rfl) | (simp [*,errW_none,errW_some] <;> rfl) | (simp [errW_none,errW_some];exact isEmpty_bne _),by repeat (first | (with_reducible first | exact HB.out | apply below_alloc | apply pw_below_drewN | apply below_drew1 | refine below_set ?_ GE192.out) | exact HB.out)⟩
      ·rw [if_neg c7] at H
       exact absurd H (by simp)
     ·rw [if_neg c6] at H
      exact absurd H (by simp)
    ·rw [if_neg c5] at H
     have c5b0 : decide (x16_1 < (l0.length : Int)) = false:=decide_eq_false c5
     clear c5
     replace H:=Option.bind_eq_some_iff.mp H
     obtain ⟨t190,A300,H⟩:=H
     replace H : (some (t190,0)) = some (r1,r2):=H
     have A30:=Aside0.mk A300
     clear A300
     simp only [Option.some.injEq,Prod.mk.injEq] at H
     obtain ⟨rfl,rfl⟩:=H
     go_wp2_with (first | ((with_reducible refine gate_callee (f:=95) rfl ?_);refine goesL_ (some 49) rfl rfl Tryz.func95 (by kernel_rfl) rfl #[.string x4_1] rfl (by (try simp only [List.map_toArray,List.map_cons,List.map_nil]);first | done | rfl | (simp only [List.length_drop,List.length_take];rfl)) ?_;(with_reducible refine (crc_Seal.calls x4_1 t190 _ A30.out).mono ?_);rintro e w31 ⟨rfl,hb⟩;refine ⟨_,rfl,?_⟩;have n0_:=Aside0.mk (below_step (by repeat (first | (with_reducible first | exact HB.out | apply below_alloc | apply pw_below_drewN | apply below_drew1) | exact HB.out)) hb);clear HB;have HB:=n0_;clear n0_;(try clear hb);(try clear hb2);(try clear hk);(try clear hi)))
     go_ret2
     exact ⟨by first | rfl | (simp [errW_none,errW_some] <;> rfl) | (simp [*,errW_none,errW_some] <;> rfl) | (simp [errW_none,errW_some];exact isEmpty_bne _),by repeat (first | (with_reducible first | exact HB.out | apply below_alloc | apply pw_below_drewN | apply below_drew1) | exact HB.out)⟩

-- NOT PRINTED: function 32 (segment_Hint)

-- NOT PRINTED: function 17 (segment_Seal)

/-! ### hint_Read: function 75 -/
theorem one_cell {w : World} {s : Nat} {v : Value} {t : TypeId} (h : w.heap[s]? = some (.cells #[v] t)) : w.cell? ⟨s, 0, none⟩ = some v ∧ w.frozen? ⟨s, 0, none⟩ = false := by
  refine ⟨?_, ?_⟩ <;> simp [World.cell?, World.frozen?, h]
theorem one_set {w : World} {s : Nat} {v : Value} {t : TypeId} (h : w.heap[s]? = some (.cells #[v] t)) (u : Value) : (w.setCell ⟨s, 0, none⟩ u).heap[s]? = some (.cells #[u] t) := by
  simp [World.setCell, Array.getElem?_modify, h]
theorem other_set {w : World} {s : Nat} {o : Obj} (h : w.heap[s]? = some o) (b i : Nat) (ha : s ≠ b) (v : Value) : (w.setCell ⟨b, i, none⟩ v).heap[s]? = some o := (Below.heap_setCell w ⟨b, i, none⟩ v s ha).trans h
set_option maxHeartbeats 1600000 in
set_option maxRecDepth 100000 in
theorem hint_take.calls (k : Nat) (ps pf : Nat) (s : ByteArray) (fine : Bool) (n : Int) (rest : ByteArray) (e : Int) (w : World) (hs : w.heap[ps]? = some (.cells #[.string s] 9)) (hf : w.heap[pf]? = some (.cells #[.bool fine] 4))
    (hne : ps ≠ pf) (h : varint_Take.f k s = some (n, rest, e)) :
    Calls Tryz.prog 119 #[.pointer (some ⟨ps, 0, none⟩), .pointer (some ⟨pf, 0, none⟩)] w fun x w' => x = .returned (.int .u64 n) ∧ ∃ w1, Below w.heap.size w w1 ∧ w' = (w1.setCell ⟨pf, 0, none⟩ (.bool (fine && e == 0))).setCell ⟨ps, 0, none⟩ (.string rest) := by
  have H := Aside0.mk h
  have HS := Aside0.mk hs
  have HF := Aside0.mk hf
  obtain ⟨c1, c2⟩ := one_cell hs
  obtain ⟨d1, d2⟩ := one_cell hf
  clear h hs hf
  go_enter Tryz.func119, Tryz.ntmps119
  go_wp2_with fail
  refine (varint_Take.calls k s n rest e _ H.out).mono ?_
  rintro x w1 ⟨rfl, hb⟩
  have hs1 := blk_below HS.out hb
  have hf1 := blk_below HF.out hb
  clear c1 c2 d1 d2
  obtain ⟨c1, c2⟩ := one_cell hs1
  obtain ⟨d1, d2⟩ := one_cell hf1
  have HB := Aside0.mk hb
  clear hb hs1 hf1
  cases fine with
  | false =>
    go_wp2_with fail
    go_ret
    exact ⟨rfl, w1, HB.out, rfl⟩
  | true =>
    go_wp2_with fail
    go_ret
    exact ⟨rfl, w1, HB.out, rfl⟩
theorem five {w : World} {s : Nat} {v0 v1 v2 v3 v4 : Value} {t : TypeId} (h : w.heap[s]? = some (.cells #[v0, v1, v2, v3, v4] t)) :
    w.cell? ⟨s, 0, none⟩ = some v0 ∧ w.cell? ⟨s, 1, none⟩ = some v1 ∧ w.cell? ⟨s, 2, none⟩ = some v2 ∧ w.cell? ⟨s, 3, none⟩ = some v3 ∧ w.cell? ⟨s, 4, none⟩ = some v4 ∧ ∀ i, w.frozen? ⟨s, i, none⟩ = false := by
  refine ⟨?_, ?_, ?_, ?_, ?_, fun i => ?_⟩ <;> simp [World.cell?, World.frozen?, h]
structure HintAt (w W : World) (ps pf : Nat) (s : ByteArray) (fine : Bool) (v : Value) (out : List (S52)) : Prop where
  hs : W.heap[ps]? = some (.cells #[.string s] 9)
  hf : W.heap[pf]? = some (.cells #[.bool fine] 4)
  ho : Kd.R k52 52 W w.heap.size (fun _ => True) v out
  hb : Below w.heap.size w W
  ne : ps ≠ pf
  zp : w.heap.size ≤ ps
  zf : w.heap.size ≤ pf
theorem HintAt.step {w W W1 : World} {ps pf : Nat} {s : ByteArray} {fine : Bool} {v : Value} {out : List (S52)} (h : HintAt w W ps pf s fine v out) (hb : Below W.heap.size W W1) : HintAt w W1 ps pf s fine v out :=
  ⟨blk_below h.hs hb, blk_below h.hf hb, Kd.R_below h.ho hb, h.hb.trans (hb.mono h.hb.size), h.ne, h.zp, h.zf⟩
theorem HintAt.set {w W : World} {ps pf : Nat} {s : ByteArray} {fine : Bool} {v : Value} {out : List (S52)} (h : HintAt w W ps pf s fine v out) (fine' : Bool) (s' : ByteArray) : HintAt w ((W.setCell ⟨pf, 0, none⟩ (.bool fine')).setCell ⟨ps, 0, none⟩ (.string s')) ps pf s' fine' v out :=
  ⟨one_set (other_set h.hs _ _ h.ne _) _, other_set (one_set h.hf _) _ _ h.ne.symm _, Kd.R_set (Kd.R_set h.ho h.hf (by decide) 0 _) (other_set h.hs _ _ h.ne _) (by decide) 0 _, (h.hb.setCell (p := ⟨pf, 0, none⟩) h.zf _).setCell (p := ⟨ps, 0, none⟩) h.zp _, h.ne, h.zp, h.zf⟩
def hint_entry (key : ByteArray) (off size seq : Int) : S52 := ⟨key, wrap64 (mn off 1048577), wrap64 (mn (size / 2) 401), seq, Go.bits .and .u64 size 1 == 1⟩
def hint_Read.l0 : Nat → Int → ByteArray → List (S52) → Option (List (S52) × Int)
  | 0, _, _, _ => none
  | k + 1, many, s, out => if s.toList = ([] : List UInt8) then (if IntKind.u64.wrap (out.length : Int) = many then some (out, 0) else some ([], 2)) else
    ((varint_OfText.f k s).bind fun y0 => ((varint_Take.f k y0.2.1).bind fun y1 => ((varint_Take.f k y1.2.1).bind fun y2 => ((varint_Take.f k y2.2.1).bind fun y3 =>
      (if ((((y0.2.2 == 0) && (y1.2.2 == 0)) && (y2.2.2 == 0)) && (y3.2.2 == 0)) = true then
        ((hint_right.f y0.1 (wrap64 (mn y1.1 1048577)) (wrap64 (mn (y2.1 / 2) 401)) y3.1 (Go.bits .and .u64 y2.1 1 == 1)).bind fun ok => (if ok = true then (if (out.length : Int) = 2000 then some ([], 2) else (if out.length < 1000000000 then hint_Read.l0 k many y3.2.1 (out ++ [hint_entry y0.1 y1.1 y2.1 y3.1]) else none)) else some ([], 2)))
      else some ([], 2))))))
def hint_Read.f (k : Nat) (a0 : ByteArray) : Option (List (S52) × Int) :=
  (crc_Open.f a0).bind fun y0 => (if y0.2 = true then ((varint_Take.f k y0.1).bind fun y1 => (if y1.2.2 = 0 then hint_Read.l0 k y1.1 y1.2.1 [] else some ([], 2))) else some ([], 4))
theorem hint_Read.mono_l : ∀ k, (∀ y0 y1 y2, LeO (hint_Read.l0 k y0 y1 y2) (hint_Read.l0 (k + 1) y0 y1 y2))
  | 0 => fun _ _ _ r h => by simp [hint_Read.l0] at h
  | k + 1 => by
    have ih0 := hint_Read.mono_l k
    intro y0 y1 y2
    unfold hint_Read.l0
    repeat' first
      | (with_reducible exact ih0 _ _ _)
      | (with_reducible exact varint_Take.mono _ _)
      | (with_reducible exact varint_OfText.mono _ _)
      | (with_reducible exact LeO.refl _)
      | (with_reducible exact LeO.none _)
      | (with_reducible refine LeO.ite ?_ ?_)
      | (with_reducible refine LeO.bind ?_ (fun _ => ?_))
theorem hint_Read.mono : ∀ a0 k, LeO (hint_Read.f k a0) (hint_Read.f (k + 1) a0) := by
  intro a0 k
  have ih0 := hint_Read.mono_l k
  unfold hint_Read.f
  repeat' first
      | (with_reducible exact ih0 _ _ _)
      | (with_reducible exact varint_Take.mono _ _)
      | (with_reducible exact LeO.refl _)
      | (with_reducible exact LeO.none _)
      | (with_reducible refine LeO.ite ?_ ?_)
      | (with_reducible refine LeO.bind ?_ (fun _ => ?_))
set_option maxHeartbeats 8000000 in
set_option maxRecDepth 100000 in
theorem hint_Read.calls (k : Nat) (a0 : ByteArray) (r1 : List (S52)) (r2 : Int) (w : World) (h : hint_Read.f k a0 = some (r1, r2)) :
    Calls Tryz.prog 75 #[.string a0] w fun e w' => ∃ v0_ : Value, e = .returned (.tuple #[v0_, .int .i64 r2]) ∧ Kd.R k52 52 w' w.heap.size (fun _ => True) v0_ r1 ∧ Below w.heap.size w w' := by
  unfold hint_Read.f at h
  obtain ⟨⟨s, is⟩, h1, h⟩ := Option.bind_eq_some_iff.mp h
  simp only at h
  have A1 := Aside0.mk h1
  clear h1
  have HB := Aside0.mk (Below.refl w.heap.size w)
  cases is with
  | false =>
    rw [if_neg (by decide)] at h
    simp only [Option.some.injEq, Prod.mk.injEq] at h
    obtain ⟨rfl, rfl⟩ := h
    go_enter Tryz.func75, Tryz.ntmps75
    go_wp2_with fail
    refine (crc_Open.calls a0 s false _ A1.out).mono ?_
    rintro x w1 ⟨rfl, hb1⟩
    go_wp2_with fail
    go_ret2
    exact ⟨_, rfl, Kd.R_nil _ _ _ _ _, (hb1.alloc (below_size hb1) _)⟩
  | true =>
    rw [if_pos rfl] at h
    obtain ⟨⟨many, s1, e1⟩, h2, h⟩ := Option.bind_eq_some_iff.mp h
    simp only at h
    have A2 := Aside0.mk h2
    clear h2
    by_cases he : e1 = 0
    case neg =>
      rw [if_neg he] at h
      simp only [Option.some.injEq, Prod.mk.injEq] at h
      obtain ⟨rfl, rfl⟩ := h
      have hne : (e1 != 0) = true := bne_iff_ne.mpr he
      go_enter Tryz.func75, Tryz.ntmps75
      go_wp2_with fail
      refine (crc_Open.calls a0 s true _ A1.out).mono ?_
      rintro x w1 ⟨rfl, hb1⟩
      go_wp2_with fail
      refine (varint_Take.calls k s many s1 e1 _ A2.out).mono ?_
      rintro x w2 ⟨rfl, hb2⟩
      have o2 := blk_below (blk_new w1 _) hb2
      obtain ⟨c1, c2⟩ := one_cell o2
      have B1 := Below.trans ((Below.alloc hb1 hb1.size (.cells #[.string s] 9))) (hb2.mono (by have := hb1.size; simp; omega))
      have z1 := hb1.size
      go_wp2_with fail
      go_ret2
      exact ⟨_, rfl, Kd.R_nil _ _ _ _ _, B1.setCell (by exact z1) _⟩
    rw [if_pos he] at h
    subst he
    go_enter Tryz.func75, Tryz.ntmps75
    go_wp2_with fail
    refine (crc_Open.calls a0 s true _ A1.out).mono ?_
    rintro x w1 ⟨rfl, hb1⟩
    go_wp2_with fail
    refine (varint_Take.calls k s many s1 0 _ A2.out).mono ?_
    rintro x w2 ⟨rfl, hb2⟩
    have o2 := blk_below (blk_new w1 _) hb2
    obtain ⟨c1, c2⟩ := one_cell o2
    have H' := Aside0.mk h
    have z1 := hb1.size
    have B1 := Below.trans ((Below.alloc hb1 hb1.size (.cells #[.string s] 9))) (hb2.mono (by have := hb1.size; simp; omega))
    have HS := Aside0.mk (one_set o2 (.string s1))
    have HB1 := Aside0.mk (B1.setCell (p := ⟨w1.heap.size, 0, none⟩) z1 (.string s1))
    have ZP := Aside0.mk z1
    generalize hps : w1.heap.size = ps at *
    clear h hb1 hb2 B1 o2
    clear HB
    go_wp2_with fail
    go_loopg [8] k (fun kq v8 w' => ∃ (out_1 : List (S52)) (s_1 : ByteArray), Aside0 (hint_Read.l0 kq many s_1 out_1 = some (r1, r2)) ∧ Aside0 (kq ≤ k) ∧ Aside0 (Kd.R k52 52 w' w.heap.size (fun _ => True) v8 out_1) ∧ Aside0 (Below w.heap.size w w') ∧ Aside0 (w'.heap[ps]? = some (.cells #[.string s_1] 9)))
    case atStart => exact ⟨[], s1, H', ⟨Nat.le_refl _⟩, ⟨Kd.R_nil _ _ _ _ _⟩, HB1, HS⟩
    case round =>
      clear H' HB1 HS
      obtain ⟨out, s, HA, HK1, HO, HB, HS⟩ := hrel
      cases gk with
      | zero => exact absurd HA.out (by simp [hint_Read.l0])
      | succ k1 =>
        have H := HA.out
        clear HA
        simp only [hint_Read.l0] at H
        obtain ⟨c1, c2⟩ := one_cell HS.out
        have zp : ps < wr.heap.size := blk_lt HS.out
        by_cases hz : s.toList = ([] : List UInt8)
        · rw [if_pos hz] at H
          have hz1 : (s.toList != ([] : List UInt8)) = false := bne_eq_false_iff_eq.mpr hz
          have hz2 : (s.toList == ([] : List UInt8)) = true := beq_iff_eq.mpr hz
          obtain ⟨A, c, rfl⟩ := Kd.R_slice HO.out
          by_cases hm : IntKind.u64.wrap (out.length : Int) = many
          · rw [if_pos hm] at H
            simp only [Option.some.injEq, Prod.mk.injEq] at H
            obtain ⟨rfl, rfl⟩ := H
            have hm1 : (IntKind.u64.wrap (out.length : Int) != many) = false := bne_eq_false_iff_eq.mpr hm
            go_wp2_with fail
            go_ret2
            exact ⟨_, rfl, HO.out, HB.out⟩
          · rw [if_neg hm] at H
            simp only [Option.some.injEq, Prod.mk.injEq] at H
            obtain ⟨rfl, rfl⟩ := H
            have hm1 : (IntKind.u64.wrap (out.length : Int) != many) = true := bne_iff_ne.mpr hm
            go_wp2_with fail
            go_ret2
            exact ⟨_, rfl, Kd.R_nil _ _ _ _ _, HB.out⟩
        · rw [if_neg hz] at H
          have hz1 : (s.toList != ([] : List UInt8)) = true := bne_iff_ne.mpr hz
          have hz2 : (s.toList == ([] : List UInt8)) = false := beq_eq_false_iff_ne.mpr hz
          obtain ⟨⟨key, b0, e0⟩, G0, H2⟩ := Option.bind_eq_some_iff.mp H
          clear H
          obtain ⟨⟨off, b1, e1⟩, G1, H3⟩ := Option.bind_eq_some_iff.mp H2
          clear H2
          obtain ⟨⟨size, b2, e2⟩, G2, H4⟩ := Option.bind_eq_some_iff.mp H3
          clear H3
          obtain ⟨⟨seq, b3, e3⟩, G3, H5⟩ := Option.bind_eq_some_iff.mp H4
          clear H4
          simp only at G0 G1 G2 G3 H5
          have A3 := Aside0.mk G0
          have A4 := Aside0.mk G1
          have A5 := Aside0.mk G2
          have A6 := Aside0.mk G3
          have H' := Aside0.mk H5
          clear G0 G1 G2 G3 H5
          have hps2 : ps ≠ wr.heap.size := by omega
          have X0 : HintAt w (wr.alloc (.cells #[.bool true] 4)) ps wr.heap.size s true u8 out := ⟨blk_alloc HS.out _, blk_new wr _, Kd.R_alloc HO.out _, below_alloc HB.out _, hps2, ZP.out, HB.out.size⟩
          have Y0 := Aside0.mk X0
          clear X0 HS HO HB
          go_wp2_with fail
          refine (varint_OfText.calls k1 s key b0 e0 _ A3.out).mono ?_
          rintro x w3 ⟨rfl, hb3⟩
          have Y1 := Aside0.mk (Y0.out.step hb3)
          clear hb3 Y0 c1 c2
          obtain ⟨c1, c2⟩ := one_cell Y1.out.hs
          obtain ⟨d1, d2⟩ := one_cell Y1.out.hf
          go_wp2_with fail
          have Y2 := Aside0.mk (Y1.out.set (e0 == 0) b0)
          refine (hint_take.calls k1 ps wr.heap.size b0 (e0 == 0) off b1 e1 _ Y2.out.hs Y2.out.hf hps2 A4.out).mono ?_
          rintro x W4 ⟨rfl, w4, hb4, rfl⟩
          have Y3 := Aside0.mk ((Y2.out.step hb4).set ((e0 == 0) && e1 == 0) b1)
          clear hb4 Y1 Y2 c1 c2 d1 d2
          go_wp2_with fail
          refine (hint_take.calls k1 ps wr.heap.size b1 ((e0 == 0) && e1 == 0) size b2 e2 _ Y3.out.hs Y3.out.hf hps2 A5.out).mono ?_
          rintro x W5 ⟨rfl, w5, hb5, rfl⟩
          have Y4 := Aside0.mk ((Y3.out.step hb5).set (((e0 == 0) && e1 == 0) && e2 == 0) b2)
          clear hb5 Y3
          go_wp2_with fail
          refine (hint_take.calls k1 ps wr.heap.size b2 (((e0 == 0) && e1 == 0) && e2 == 0) seq b3 e3 _ Y4.out.hs Y4.out.hf hps2 A6.out).mono ?_
          rintro x W6 ⟨rfl, w6, hb6, rfl⟩
          have Y5 := Aside0.mk ((Y4.out.step hb6).set ((((e0 == 0) && e1 == 0) && e2 == 0) && e3 == 0) b3)
          clear hb6 Y4
          generalize hfine : ((((e0 == 0) && e1 == 0) && e2 == 0) && e3 == 0) = fine at *
          generalize hW : (w6.setCell ⟨wr.heap.size, 0, none⟩ (.bool fine)).setCell ⟨ps, 0, none⟩ (.string b3) = W at *
          obtain ⟨c1, c2⟩ := one_cell Y5.out.hs
          obtain ⟨d1, d2⟩ := one_cell Y5.out.hf
          have zq : ps < W.heap.size := blk_lt Y5.out.hs
          have zr : wr.heap.size < W.heap.size := blk_lt Y5.out.hf
          have hr := H'.out
          try simp only [hfine] at hr
          clear H'
          generalize hjo : mn off 1048577 = jo at *
          generalize hjs : mn (size / 2) 401 = js at *
          have hjo_ : (if 1048577 < off then 1048577 else off) = jo := hjo
          have hjs_ : (if 401 < size / 2 then 401 else size / 2) = js := hjs
          cases fine with
          | false =>
            rw [if_neg (by decide)] at hr
            simp only [Option.some.injEq, Prod.mk.injEq] at hr
            obtain ⟨rfl, rfl⟩ := hr
            go_wp2_with fail
            go_ret2
            exact ⟨_, rfl, Kd.R_nil _ _ _ _ _, Y5.out.hb.alloc Y5.out.hb.size _⟩
          | true =>
            rw [if_pos rfl] at hr
            obtain ⟨ok, G, H6⟩ := Option.bind_eq_some_iff.mp hr
            have A7 := Aside0.mk G
            clear hr G
            go_wp2_with fail
            refine (hint_right.calls key (wrap64 jo) (wrap64 js) seq (Go.bits .and .u64 size 1 == 1) ok _ A7.out).mono ?_
            rintro x w7 ⟨rfl, hb7⟩
            have Y6 := Aside0.mk ((Y5.out.step ((Below.refl W.heap.size W).alloc (Nat.le_refl _) _)).step hb7)
            have hx := blk_below (blk_new W _) hb7
            clear hb7 c1 c2 d1 d2
            obtain ⟨c1, c2⟩ := one_cell Y6.out.hs
            obtain ⟨d1, d2⟩ := one_cell Y6.out.hf
            obtain ⟨x0, x1, x2, x3, x4, xf⟩ := five hx
            obtain ⟨A, c, hu8⟩ := Kd.R_slice Y6.out.ho
            subst hu8
            cases ok with
            | false =>
              rw [if_neg (by decide)] at H6
              simp only [Option.some.injEq, Prod.mk.injEq] at H6
              obtain ⟨rfl, rfl⟩ := H6
              go_wp2_with fail
              go_ret2
              exact ⟨_, rfl, Kd.R_nil _ _ _ _ _, Y6.out.hb⟩
            | true =>
              rw [if_pos rfl] at H6
              by_cases hl : (out.length : Int) = 2000
              · rw [if_pos hl] at H6
                simp only [Option.some.injEq, Prod.mk.injEq] at H6
                obtain ⟨rfl, rfl⟩ := H6
                have hl1 : ((out.length : Int) == 2000) = true := beq_iff_eq.mpr hl
                go_wp2_with fail
                go_ret2
                exact ⟨_, rfl, Kd.R_nil _ _ _ _ _, Y6.out.hb⟩
              · rw [if_neg hl] at H6
                have hl1 : ((out.length : Int) == 2000) = false := beq_eq_false_iff_ne.mpr hl
                by_cases hz3 : out.length < 1000000000
                case neg => rw [if_neg hz3] at H6; exact absurd H6 (by simp)
                rw [if_pos hz3] at H6
                have H' := Aside0.mk H6
                have HZ := Aside0.mk hz3
                clear H6 hz3
                go_wp2_with ((with_reducible refine gate_builtin (b := .append) (xs := #[.tmp 76, .tmp 78]) rfl ?_); at_builtin; refine Kd.R_append k52 (w0 := w) w.heap.size rfl (.tmp 76) (.tmp 78) 33 52 (.agg #[(.string ⟨#[]⟩), (.int .i64 0), (.int .i64 0), (.int .u64 0), (.bool false)]) 48 rfl Tryz.underlying33 info52 rfl (by decide) (by omega) (.slice A out.length c) out (⟨key, wrap64 jo, wrap64 js, seq, Go.bits .and .u64 size 1 == 1⟩ : S52) [.string key, .int .i64 (wrap64 jo), .int .i64 (wrap64 js), .int .u64 seq, .bool (Go.bits .and .u64 size 1 == 1)] (fun _ => True) (fun _ => False) rfl (by first | (go_simp; done) | (go_simp; rfl)) ?aP (fun _ hk => hk.elim) ?aF ?aO ?aB ?aS ?aL ?_; (case aP => exact k52_mkM _ _ _ (⟨key, wrap64 jo, wrap64 js, seq, Go.bits .and .u64 size 1 == 1⟩ : S52)); (case aF => exact fun _ _ => trivial); (case aO => exact Y6.out.ho); (case aB => exact Y6.out.hb); (case aS => exact Y6.out.hb.size); (case aL => have := HZ.out; omega); intro v1 w8 ho hb hg hat)
                have hs8 : w8.heap[ps]? = some (.cells #[.string b3] 9) := (hg.block ps (blk_lt Y6.out.hs) (Kd.R_ne Y6.out.ho Y6.out.hs (by decide))).trans Y6.out.hs
                go_roundg k1
                case measure => have := HK1.out; omega
                case rel => exact ⟨_, b3, H', ⟨by have := HK1.out; omega⟩, ⟨by first | (subst hjo; subst hjs; exact ho) | exact ho⟩, ⟨hb⟩, ⟨hs8⟩⟩

-- NOT PRINTED: function 34 (segment_Told)

-- NOT PRINTED: function 19 (segment_Index)

end Go.Proofs.YthndpknocofioaaGreatDoor.Print
