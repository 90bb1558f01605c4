/- Written by this session's own program (wip/xprint): functions of the Go program as Lean functions, and proofs that the Go code computes them. -/
import Derived.Test.YtlbaoekmnfeogaaPAllx0
import Derived.Test.YtlbaoekmnfeogaaPAllx1
import Derived.Test.YtlbaoekmnfeogaaPAllx2
import Derived.Test.YtlbaoekmnfeogaaPAllx5
import Derived.Test.YtlbaoekmnfeogaaPAllx6
import Derived.Test.YtlbaoekmnfeogaaPAllx12
import Derived.Test.YtlbaoekmnfeogaaPAllx13
import Derived.Test.YtlbaoekmnfeogaaPAllx15
import Derived.Test.YtlbaoekmnfeogaaPAllx16
import Derived.Test.YtlbaoekmnfeogaaPAllx17
namespace Go.Proofs.Ytlbaoekmnfeogaa.PAll
open Go.RowKit Go.Proofs.YtlbaoekmnfeogaaW.PrintWords Go.Proofs.YtlbaoekmnfeogaaW.PrintLast Go.Proofs.YtlbaoekmnfeogaaW.PrintMore
attribute [local go_sem] max2_int min2_int max_two min_two max_three min_three max_four min_four   -- for this text's walks alone
set_option linter.unusedVariables false
set_option linter.unusedSimpArgs false

attribute [local go_sem high] eqA23
/-! ### augurylaw04_head: function 9 -/
def augurylaw04_head.f (k : Nat)  : Option (Bool) := (augurylaw04_num.f 2).bind fun bt168 => ((augurylaw04_num.f 3).bind fun bt171 => ((value_Add.f k bt168.1 bt168.2.1 bt168.2.2 bt171.1 bt171.2.1 bt171.2.2).bind fun bt174 => ((augurylaw04_num.f 1099511627776).bind fun bt179 => ((augurylaw04_num.f 1).bind fun bt182 => ((value_Add.f k bt179.1 bt179.2.1 bt179.2.2 bt182.1 bt182.2.1 bt182.2.2).bind fun bt185 => ((augurylaw04_num.f 1).bind fun bt190 => ((augurylaw04_text.f (⟨#[120]⟩ : ByteArray)).bind fun bt193 => ((value_Sub.f k bt190.1 bt190.2.1 bt190.2.2 bt193.1 bt193.2.1 bt193.2.2).bind fun bt196 => ((augurylaw04_text.f (⟨#[97]⟩ : ByteArray)).bind fun bt201 => ((augurylaw04_text.f (⟨#[97, 98]⟩ : ByteArray)).bind fun bt204 => ((value_Compare.f 3 bt201.1 bt201.2.1 bt201.2.2 bt204.1 bt204.2.1 bt204.2.2).bind fun bt207 => ((augurylaw04_num.f 1).bind fun bt209 => ((augurylaw04_text.f (⟨#[97, 98]⟩ : ByteArray)).bind fun bt212 => ((value_Compare.f 3 bt209.1 bt209.2.1 bt209.2.2 bt212.1 bt212.2.1 bt212.2.2).bind fun bt215 => ((value_Get.f k (([1, 1, 9] : List Int))).bind fun bt220 => ((augurylaw04_num.f (-1)).bind fun bt226 => ((value_Put.f k bt226.1 bt226.2.1 bt226.2.2).bind fun t229 => ((augurylaw04_num.f 5).bind fun bt232 => (if (bt174.1 == bt232.1 && (bt174.2.1 == bt232.2.1 && (bt174.2.2.1.toList == bt232.2.2.toList))) = true then (if bt174.2.2.2 = 0 then (if bt185.2.2.2 = 41 then (if bt196.2.2.2 = 42 then (if bt207.1 = true then (if bt207.2 = 0 then (if bt215.2 = 42 then ((augurylaw04_num.f (-1)).bind fun bt235 => (if (bt220.1 == bt235.1 && (bt220.2.1 == bt235.2.1 && (bt220.2.2.1.toList == bt235.2.2.toList))) = true then (if bt220.2.2.2.1 = 2 then (if bt220.2.2.2.2 = true then (if (t229.length : Int) = 2 then (if 0 < (t229.length : Int) then (if (rd t229 0) = 1 then (if 1 < (t229.length : Int) then (if (rd t229 1) = 1 then ((value_Right.f bt174.1 bt174.2.1 bt174.2.2.1).bind fun t240 => (if t240 = true then ((value_Right.f 0 0 (⟨#[]⟩ : ByteArray)).bind fun t241 => (if t241 = true then (none) else (some true))) else (none))) else (none)) else (none)) else (none)) else (none)) else (none)) else (none)) else (none)) else (none))) else (none)) else (none)) else (none)) else (none)) else (none)) else (none)) else (none))))))))))))))))))))
theorem augurylaw04_head.mono : ∀ k, LeO (augurylaw04_head.f k ) (augurylaw04_head.f (k + 1) ) := by
  intro  k
  unfold augurylaw04_head.f
  repeat' first
      | (with_reducible exact value_Add.mono _ _ _ _ _ _ _)
      | (with_reducible exact value_Get.mono _ _)
      | (with_reducible exact value_Put.mono _ _ _ _)
      | (with_reducible exact value_Sub.mono _ _ _ _ _ _ _)
      | (with_reducible exact LeO.refl _)
      | (with_reducible exact LeO.none _)
      | (with_reducible refine LeO.ite ?_ ?_)
      | (with_reducible refine LeO.bind ?_ (fun _ => ?_))
      | exact value_Add.mono _ _ _ _ _ _ _
      | exact value_Get.mono _ _
      | exact value_Put.mono _ _ _ _
      | exact value_Sub.mono _ _ _ _ _ _ _
      | exact LeO.none _
      | refine LeO.ite ?_ ?_
      | refine LeO.bind ?_ (fun _ => ?_)
def augurylaw04_head.T8 : Bool × List (List Nat × List Nat) := (true, [([], []), ([], []), ([0, 1], [0, 1]), ([2, 1], [2]), ([3], [3]), ([4, 3], [3, 4]), ([3, 5], [3, 5]), ([6, 3], [6]), ([7], [7]), ([8, 7], [7, 8]), ([7, 9], [7, 9]), ([10, 7], [10]), ([11], [11]), ([12, 11], [11, 12]), ([11, 13], [11, 13]), ([14, 11], [14]), ([15], [15]), ([15, 16], [15, 16]), ([17, 15], [17]), ([18], [18]), ([19, 18], [18, 19]), ([18, 20], [18, 20]), ([21, 18], [21]), ([22], [22]), ([23, 22], [22, 23]), ([22, 24], [22, 24]), ([25, 22], [25]), ([26], [26]), ([26, 26], [26]), ([27, 28, 26], [26, 27, 28]), ([26, 29], [26, 29]), ([30, 28], [30]), ([31], [31]), ([32, 31], [31, 32]), ([31, 33], [31, 33]), ([34, 31], [34]), ([35], [35]), ([35, 36], [35, 36]), ([37, 35], [37]), ([38], [38]), ([39, 38], [38, 39]), ([40, 38], [38, 40]), ([38, 41], [38, 41]), ([42, 38], [42]), ([43], [43]), ([44, 43], [43, 44]), ([45, 43], [43, 45]), ([46, 43], [43, 46]), ([43, 47], [43, 47]), ([48, 43], [48]), ([49], [49]), ([50, 49], [49, 50]), ([51, 49], [49, 51]), ([52, 49], [49, 52]), ([49, 53], [49, 53]), ([54, 49], [54]), ([55], [55]), ([56, 55, 55], [55, 56]), ([55, 57], [55, 57]), ([58, 57], [58]), ([59], [59]), ([60, 59, 59], [59, 60]), ([61, 59], [59, 61]), ([59, 62], [59, 62]), ([63, 61, 0, 1, 2, 3, 4, 5, 6, 7, 8, 9, 10, 11, 12, 13, 14, 15, 16, 17, 18, 19, 20, 21, 22, 23, 24, 25, 26, 27, 28, 29, 30, 31, 32, 33, 34, 35, 36, 37, 38, 39, 40, 41, 42, 43, 44, 45, 46, 47, 48, 49, 50, 51, 52, 53, 54, 55, 56, 57, 58, 59, 60, 61, 62, 63], [63])])
def augurylaw04_head.B8 : List Nat := [0, 0, 3, 7, 15, 31, 63, 127, 255, 511, 1023, 2047, 4095, 8191, 16383, 32767, 65535, 131071, 262143, 524287, 1048575, 2097151, 4194303, 8388607, 16777215, 33554431, 67108863, 134217727, 134217727, 536870911, 1073741823, 2147483647, 4294967295, 8589934591, 17179869183, 34359738367, 68719476735, 137438953471, 274877906943, 549755813887, 1099511627775, 2199023255551, 4398046511103, 8796093022207, 17592186044415, 35184372088831, 70368744177663, 140737488355327, 281474976710655, 562949953421311, 1125899906842623, 2251799813685247, 4503599627370495, 9007199254740991, 18014398509481983, 36028797018963967, 72057594037927935, 144115188075855871, 288230376151711743, 576460752303423487, 1152921504606846975, 2305843009213693951, 4611686018427387903, 9223372036854775807, 18446744073709551615]
theorem augurylaw04_head.tab8 : rtab .any (opsOf Try.f9 8) = augurylaw04_head.T8 := by kernel_rfl
theorem augurylaw04_head.bits8 : waitsOk augurylaw04_head.T8.2 augurylaw04_head.B8 = true := by kernel_rfl
set_option maxHeartbeats 8000000 in
set_option maxRecDepth 100000 in
theorem augurylaw04_head.calls (k : Nat)  (r : Bool) (w : World) (h : augurylaw04_head.f k  = some r) :
    Calls Try.prog 9 #[] w fun e w' => e = .returned (.bool r) ∧ Below w.heap.size w w' := by
  have hu23 := Try.underlying23
  have HB := Aside0.mk (Below.refl w.heap.size w)
  have H : ((augurylaw04_num.f 2).bind fun bt168 => ((augurylaw04_num.f 3).bind fun bt171 => ((value_Add.f k bt168.1 bt168.2.1 bt168.2.2 bt171.1 bt171.2.1 bt171.2.2).bind fun bt174 => ((augurylaw04_num.f 1099511627776).bind fun bt179 => ((augurylaw04_num.f 1).bind fun bt182 => ((value_Add.f k bt179.1 bt179.2.1 bt179.2.2 bt182.1 bt182.2.1 bt182.2.2).bind fun bt185 => ((augurylaw04_num.f 1).bind fun bt190 => ((augurylaw04_text.f (⟨#[120]⟩ : ByteArray)).bind fun bt193 => ((value_Sub.f k bt190.1 bt190.2.1 bt190.2.2 bt193.1 bt193.2.1 bt193.2.2).bind fun bt196 => ((augurylaw04_text.f (⟨#[97]⟩ : ByteArray)).bind fun bt201 => ((augurylaw04_text.f (⟨#[97, 98]⟩ : ByteArray)).bind fun bt204 => ((value_Compare.f 3 bt201.1 bt201.2.1 bt201.2.2 bt204.1 bt204.2.1 bt204.2.2).bind fun bt207 => ((augurylaw04_num.f 1).bind fun bt209 => ((augurylaw04_text.f (⟨#[97, 98]⟩ : ByteArray)).bind fun bt212 => ((value_Compare.f 3 bt209.1 bt209.2.1 bt209.2.2 bt212.1 bt212.2.1 bt212.2.2).bind fun bt215 => ((value_Get.f k (([1, 1, 9] : List Int))).bind fun bt220 => ((augurylaw04_num.f (-1)).bind fun bt226 => ((value_Put.f k bt226.1 bt226.2.1 bt226.2.2).bind fun t229 => ((augurylaw04_num.f 5).bind fun bt232 => (if (bt174.1 == bt232.1 && (bt174.2.1 == bt232.2.1 && (bt174.2.2.1.toList == bt232.2.2.toList))) = true then (if bt174.2.2.2 = 0 then (if bt185.2.2.2 = 41 then (if bt196.2.2.2 = 42 then (if bt207.1 = true then (if bt207.2 = 0 then (if bt215.2 = 42 then ((augurylaw04_num.f (-1)).bind fun bt235 => (if (bt220.1 == bt235.1 && (bt220.2.1 == bt235.2.1 && (bt220.2.2.1.toList == bt235.2.2.toList))) = true then (if bt220.2.2.2.1 = 2 then (if bt220.2.2.2.2 = true then (if (t229.length : Int) = 2 then (if 0 < (t229.length : Int) then (if (rd t229 0) = 1 then (if 1 < (t229.length : Int) then (if (rd t229 1) = 1 then ((value_Right.f bt174.1 bt174.2.1 bt174.2.2.1).bind fun t240 => (if t240 = true then ((value_Right.f 0 0 (⟨#[]⟩ : ByteArray)).bind fun t241 => (if t241 = true then (none) else (some true))) else (none))) else (none)) else (none)) else (none)) else (none)) else (none)) else (none)) else (none)) else (none))) else (none)) else (none)) else (none)) else (none)) else (none)) else (none)) else (none))))))))))))))))))))) = some r := h
  clear h
  replace H := Option.bind_eq_some_iff.mp H
  obtain ⟨⟨t168, t169, t170⟩, A10, H⟩ := H
  replace H : ((augurylaw04_num.f 3).bind fun bt171 => ((value_Add.f k t168 t169 t170 bt171.1 bt171.2.1 bt171.2.2).bind fun bt174 => ((augurylaw04_num.f 1099511627776).bind fun bt179 => ((augurylaw04_num.f 1).bind fun bt182 => ((value_Add.f k bt179.1 bt179.2.1 bt179.2.2 bt182.1 bt182.2.1 bt182.2.2).bind fun bt185 => ((augurylaw04_num.f 1).bind fun bt190 => ((augurylaw04_text.f (⟨#[120]⟩ : ByteArray)).bind fun bt193 => ((value_Sub.f k bt190.1 bt190.2.1 bt190.2.2 bt193.1 bt193.2.1 bt193.2.2).bind fun bt196 => ((augurylaw04_text.f (⟨#[97]⟩ : ByteArray)).bind fun bt201 => ((augurylaw04_text.f (⟨#[97, 98]⟩ : ByteArray)).bind fun bt204 => ((value_Compare.f 3 bt201.1 bt201.2.1 bt201.2.2 bt204.1 bt204.2.1 bt204.2.2).bind fun bt207 => ((augurylaw04_num.f 1).bind fun bt209 => ((augurylaw04_text.f (⟨#[97, 98]⟩ : ByteArray)).bind fun bt212 => ((value_Compare.f 3 bt209.1 bt209.2.1 bt209.2.2 bt212.1 bt212.2.1 bt212.2.2).bind fun bt215 => ((value_Get.f k (([1, 1, 9] : List Int))).bind fun bt220 => ((augurylaw04_num.f (-1)).bind fun bt226 => ((value_Put.f k bt226.1 bt226.2.1 bt226.2.2).bind fun t229 => ((augurylaw04_num.f 5).bind fun bt232 => (if (bt174.1 == bt232.1 && (bt174.2.1 == bt232.2.1 && (bt174.2.2.1.toList == bt232.2.2.toList))) = true then (if bt174.2.2.2 = 0 then (if bt185.2.2.2 = 41 then (if bt196.2.2.2 = 42 then (if bt207.1 = true then (if bt207.2 = 0 then (if bt215.2 = 42 then ((augurylaw04_num.f (-1)).bind fun bt235 => (if (bt220.1 == bt235.1 && (bt220.2.1 == bt235.2.1 && (bt220.2.2.1.toList == bt235.2.2.toList))) = true then (if bt220.2.2.2.1 = 2 then (if bt220.2.2.2.2 = true then (if (t229.length : Int) = 2 then (if 0 < (t229.length : Int) then (if (rd t229 0) = 1 then (if 1 < (t229.length : Int) then (if (rd t229 1) = 1 then ((value_Right.f bt174.1 bt174.2.1 bt174.2.2.1).bind fun t240 => (if t240 = true then ((value_Right.f 0 0 (⟨#[]⟩ : ByteArray)).bind fun t241 => (if t241 = true then (none) else (some true))) else (none))) else (none)) else (none)) else (none)) else (none)) else (none)) else (none)) else (none)) else (none))) else (none)) else (none)) else (none)) else (none)) else (none)) else (none)) else (none)))))))))))))))))))) = some r := H
  have A1 := Aside0.mk A10
  clear A10
  replace H := Option.bind_eq_some_iff.mp H
  obtain ⟨⟨t171, t172, t173⟩, A20, H⟩ := H
  replace H : ((value_Add.f k t168 t169 t170 t171 t172 t173).bind fun bt174 => ((augurylaw04_num.f 1099511627776).bind fun bt179 => ((augurylaw04_num.f 1).bind fun bt182 => ((value_Add.f k bt179.1 bt179.2.1 bt179.2.2 bt182.1 bt182.2.1 bt182.2.2).bind fun bt185 => ((augurylaw04_num.f 1).bind fun bt190 => ((augurylaw04_text.f (⟨#[120]⟩ : ByteArray)).bind fun bt193 => ((value_Sub.f k bt190.1 bt190.2.1 bt190.2.2 bt193.1 bt193.2.1 bt193.2.2).bind fun bt196 => ((augurylaw04_text.f (⟨#[97]⟩ : ByteArray)).bind fun bt201 => ((augurylaw04_text.f (⟨#[97, 98]⟩ : ByteArray)).bind fun bt204 => ((value_Compare.f 3 bt201.1 bt201.2.1 bt201.2.2 bt204.1 bt204.2.1 bt204.2.2).bind fun bt207 => ((augurylaw04_num.f 1).bind fun bt209 => ((augurylaw04_text.f (⟨#[97, 98]⟩ : ByteArray)).bind fun bt212 => ((value_Compare.f 3 bt209.1 bt209.2.1 bt209.2.2 bt212.1 bt212.2.1 bt212.2.2).bind fun bt215 => ((value_Get.f k (([1, 1, 9] : List Int))).bind fun bt220 => ((augurylaw04_num.f (-1)).bind fun bt226 => ((value_Put.f k bt226.1 bt226.2.1 bt226.2.2).bind fun t229 => ((augurylaw04_num.f 5).bind fun bt232 => (if (bt174.1 == bt232.1 && (bt174.2.1 == bt232.2.1 && (bt174.2.2.1.toList == bt232.2.2.toList))) = true then (if bt174.2.2.2 = 0 then (if bt185.2.2.2 = 41 then (if bt196.2.2.2 = 42 then (if bt207.1 = true then (if bt207.2 = 0 then (if bt215.2 = 42 then ((augurylaw04_num.f (-1)).bind fun bt235 => (if (bt220.1 == bt235.1 && (bt220.2.1 == bt235.2.1 && (bt220.2.2.1.toList == bt235.2.2.toList))) = true then (if bt220.2.2.2.1 = 2 then (if bt220.2.2.2.2 = true then (if (t229.length : Int) = 2 then (if 0 < (t229.length : Int) then (if (rd t229 0) = 1 then (if 1 < (t229.length : Int) then (if (rd t229 1) = 1 then ((value_Right.f bt174.1 bt174.2.1 bt174.2.2.1).bind fun t240 => (if t240 = true then ((value_Right.f 0 0 (⟨#[]⟩ : ByteArray)).bind fun t241 => (if t241 = true then (none) else (some true))) else (none))) else (none)) else (none)) else (none)) else (none)) else (none)) else (none)) else (none)) else (none))) else (none)) else (none)) else (none)) else (none)) else (none)) else (none)) else (none))))))))))))))))))) = some r := H
  have A2 := Aside0.mk A20
  clear A20
  replace H := Option.bind_eq_some_iff.mp H
  obtain ⟨⟨t174, t175, t176, t177⟩, A30, H⟩ := H
  replace H : ((augurylaw04_num.f 1099511627776).bind fun bt179 => ((augurylaw04_num.f 1).bind fun bt182 => ((value_Add.f k bt179.1 bt179.2.1 bt179.2.2 bt182.1 bt182.2.1 bt182.2.2).bind fun bt185 => ((augurylaw04_num.f 1).bind fun bt190 => ((augurylaw04_text.f (⟨#[120]⟩ : ByteArray)).bind fun bt193 => ((value_Sub.f k bt190.1 bt190.2.1 bt190.2.2 bt193.1 bt193.2.1 bt193.2.2).bind fun bt196 => ((augurylaw04_text.f (⟨#[97]⟩ : ByteArray)).bind fun bt201 => ((augurylaw04_text.f (⟨#[97, 98]⟩ : ByteArray)).bind fun bt204 => ((value_Compare.f 3 bt201.1 bt201.2.1 bt201.2.2 bt204.1 bt204.2.1 bt204.2.2).bind fun bt207 => ((augurylaw04_num.f 1).bind fun bt209 => ((augurylaw04_text.f (⟨#[97, 98]⟩ : ByteArray)).bind fun bt212 => ((value_Compare.f 3 bt209.1 bt209.2.1 bt209.2.2 bt212.1 bt212.2.1 bt212.2.2).bind fun bt215 => ((value_Get.f k (([1, 1, 9] : List Int))).bind fun bt220 => ((augurylaw04_num.f (-1)).bind fun bt226 => ((value_Put.f k bt226.1 bt226.2.1 bt226.2.2).bind fun t229 => ((augurylaw04_num.f 5).bind fun bt232 => (if (t174 == bt232.1 && (t175 == bt232.2.1 && (t176.toList == bt232.2.2.toList))) = true then (if t177 = 0 then (if bt185.2.2.2 = 41 then (if bt196.2.2.2 = 42 then (if bt207.1 = true then (if bt207.2 = 0 then (if bt215.2 = 42 then ((augurylaw04_num.f (-1)).bind fun bt235 => (if (bt220.1 == bt235.1 && (bt220.2.1 == bt235.2.1 && (bt220.2.2.1.toList == bt235.2.2.toList))) = true then (if bt220.2.2.2.1 = 2 then (if bt220.2.2.2.2 = true then (if (t229.length : Int) = 2 then (if 0 < (t229.length : Int) then (if (rd t229 0) = 1 then (if 1 < (t229.length : Int) then (if (rd t229 1) = 1 then ((value_Right.f t174 t175 t176).bind fun t240 => (if t240 = true then ((value_Right.f 0 0 (⟨#[]⟩ : ByteArray)).bind fun t241 => (if t241 = true then (none) else (some true))) else (none))) else (none)) else (none)) else (none)) else (none)) else (none)) else (none)) else (none)) else (none))) else (none)) else (none)) else (none)) else (none)) else (none)) else (none)) else (none)))))))))))))))))) = some r := H
  have A3 := Aside0.mk A30
  clear A30
  replace H := Option.bind_eq_some_iff.mp H
  obtain ⟨⟨t179, t180, t181⟩, A40, H⟩ := H
  replace H : ((augurylaw04_num.f 1).bind fun bt182 => ((value_Add.f k t179 t180 t181 bt182.1 bt182.2.1 bt182.2.2).bind fun bt185 => ((augurylaw04_num.f 1).bind fun bt190 => ((augurylaw04_text.f (⟨#[120]⟩ : ByteArray)).bind fun bt193 => ((value_Sub.f k bt190.1 bt190.2.1 bt190.2.2 bt193.1 bt193.2.1 bt193.2.2).bind fun bt196 => ((augurylaw04_text.f (⟨#[97]⟩ : ByteArray)).bind fun bt201 => ((augurylaw04_text.f (⟨#[97, 98]⟩ : ByteArray)).bind fun bt204 => ((value_Compare.f 3 bt201.1 bt201.2.1 bt201.2.2 bt204.1 bt204.2.1 bt204.2.2).bind fun bt207 => ((augurylaw04_num.f 1).bind fun bt209 => ((augurylaw04_text.f (⟨#[97, 98]⟩ : ByteArray)).bind fun bt212 => ((value_Compare.f 3 bt209.1 bt209.2.1 bt209.2.2 bt212.1 bt212.2.1 bt212.2.2).bind fun bt215 => ((value_Get.f k (([1, 1, 9] : List Int))).bind fun bt220 => ((augurylaw04_num.f (-1)).bind fun bt226 => ((value_Put.f k bt226.1 bt226.2.1 bt226.2.2).bind fun t229 => ((augurylaw04_num.f 5).bind fun bt232 => (if (t174 == bt232.1 && (t175 == bt232.2.1 && (t176.toList == bt232.2.2.toList))) = true then (if t177 = 0 then (if bt185.2.2.2 = 41 then (if bt196.2.2.2 = 42 then (if bt207.1 = true then (if bt207.2 = 0 then (if bt215.2 = 42 then ((augurylaw04_num.f (-1)).bind fun bt235 => (if (bt220.1 == bt235.1 && (bt220.2.1 == bt235.2.1 && (bt220.2.2.1.toList == bt235.2.2.toList))) = true then (if bt220.2.2.2.1 = 2 then (if bt220.2.2.2.2 = true then (if (t229.length : Int) = 2 then (if 0 < (t229.length : Int) then (if (rd t229 0) = 1 then (if 1 < (t229.length : Int) then (if (rd t229 1) = 1 then ((value_Right.f t174 t175 t176).bind fun t240 => (if t240 = true then ((value_Right.f 0 0 (⟨#[]⟩ : ByteArray)).bind fun t241 => (if t241 = true then (none) else (some true))) else (none))) else (none)) else (none)) else (none)) else (none)) else (none)) else (none)) else (none)) else (none))) else (none)) else (none)) else (none)) else (none)) else (none)) else (none)) else (none))))))))))))))))) = some r := H
  have A4 := Aside0.mk A40
  clear A40
  replace H := Option.bind_eq_some_iff.mp H
  obtain ⟨⟨t182, t183, t184⟩, A50, H⟩ := H
  replace H : ((value_Add.f k t179 t180 t181 t182 t183 t184).bind fun bt185 => ((augurylaw04_num.f 1).bind fun bt190 => ((augurylaw04_text.f (⟨#[120]⟩ : ByteArray)).bind fun bt193 => ((value_Sub.f k bt190.1 bt190.2.1 bt190.2.2 bt193.1 bt193.2.1 bt193.2.2).bind fun bt196 => ((augurylaw04_text.f (⟨#[97]⟩ : ByteArray)).bind fun bt201 => ((augurylaw04_text.f (⟨#[97, 98]⟩ : ByteArray)).bind fun bt204 => ((value_Compare.f 3 bt201.1 bt201.2.1 bt201.2.2 bt204.1 bt204.2.1 bt204.2.2).bind fun bt207 => ((augurylaw04_num.f 1).bind fun bt209 => ((augurylaw04_text.f (⟨#[97, 98]⟩ : ByteArray)).bind fun bt212 => ((value_Compare.f 3 bt209.1 bt209.2.1 bt209.2.2 bt212.1 bt212.2.1 bt212.2.2).bind fun bt215 => ((value_Get.f k (([1, 1, 9] : List Int))).bind fun bt220 => ((augurylaw04_num.f (-1)).bind fun bt226 => ((value_Put.f k bt226.1 bt226.2.1 bt226.2.2).bind fun t229 => ((augurylaw04_num.f 5).bind fun bt232 => (if (t174 == bt232.1 && (t175 == bt232.2.1 && (t176.toList == bt232.2.2.toList))) = true then (if t177 = 0 then (if bt185.2.2.2 = 41 then (if bt196.2.2.2 = 42 then (if bt207.1 = true then (if bt207.2 = 0 then (if bt215.2 = 42 then ((augurylaw04_num.f (-1)).bind fun bt235 => (if (bt220.1 == bt235.1 && (bt220.2.1 == bt235.2.1 && (bt220.2.2.1.toList == bt235.2.2.toList))) = true then (if bt220.2.2.2.1 = 2 then (if bt220.2.2.2.2 = true then (if (t229.length : Int) = 2 then (if 0 < (t229.length : Int) then (if (rd t229 0) = 1 then (if 1 < (t229.length : Int) then (if (rd t229 1) = 1 then ((value_Right.f t174 t175 t176).bind fun t240 => (if t240 = true then ((value_Right.f 0 0 (⟨#[]⟩ : ByteArray)).bind fun t241 => (if t241 = true then (none) else (some true))) else (none))) else (none)) else (none)) else (none)) else (none)) else (none)) else (none)) else (none)) else (none))) else (none)) else (none)) else (none)) else (none)) else (none)) else (none)) else (none)))))))))))))))) = some r := H
  have A5 := Aside0.mk A50
  clear A50
  replace H := Option.bind_eq_some_iff.mp H
  obtain ⟨⟨t185, t186, t187, t188⟩, A60, H⟩ := H
  replace H : ((augurylaw04_num.f 1).bind fun bt190 => ((augurylaw04_text.f (⟨#[120]⟩ : ByteArray)).bind fun bt193 => ((value_Sub.f k bt190.1 bt190.2.1 bt190.2.2 bt193.1 bt193.2.1 bt193.2.2).bind fun bt196 => ((augurylaw04_text.f (⟨#[97]⟩ : ByteArray)).bind fun bt201 => ((augurylaw04_text.f (⟨#[97, 98]⟩ : ByteArray)).bind fun bt204 => ((value_Compare.f 3 bt201.1 bt201.2.1 bt201.2.2 bt204.1 bt204.2.1 bt204.2.2).bind fun bt207 => ((augurylaw04_num.f 1).bind fun bt209 => ((augurylaw04_text.f (⟨#[97, 98]⟩ : ByteArray)).bind fun bt212 => ((value_Compare.f 3 bt209.1 bt209.2.1 bt209.2.2 bt212.1 bt212.2.1 bt212.2.2).bind fun bt215 => ((value_Get.f k (([1, 1, 9] : List Int))).bind fun bt220 => ((augurylaw04_num.f (-1)).bind fun bt226 => ((value_Put.f k bt226.1 bt226.2.1 bt226.2.2).bind fun t229 => ((augurylaw04_num.f 5).bind fun bt232 => (if (t174 == bt232.1 && (t175 == bt232.2.1 && (t176.toList == bt232.2.2.toList))) = true then (if t177 = 0 then (if t188 = 41 then (if bt196.2.2.2 = 42 then (if bt207.1 = true then (if bt207.2 = 0 then (if bt215.2 = 42 then ((augurylaw04_num.f (-1)).bind fun bt235 => (if (bt220.1 == bt235.1 && (bt220.2.1 == bt235.2.1 && (bt220.2.2.1.toList == bt235.2.2.toList))) = true then (if bt220.2.2.2.1 = 2 then (if bt220.2.2.2.2 = true then (if (t229.length : Int) = 2 then (if 0 < (t229.length : Int) then (if (rd t229 0) = 1 then (if 1 < (t229.length : Int) then (if (rd t229 1) = 1 then ((value_Right.f t174 t175 t176).bind fun t240 => (if t240 = true then ((value_Right.f 0 0 (⟨#[]⟩ : ByteArray)).bind fun t241 => (if t241 = true then (none) else (some true))) else (none))) else (none)) else (none)) else (none)) else (none)) else (none)) else (none)) else (none)) else (none))) else (none)) else (none)) else (none)) else (none)) else (none)) else (none)) else (none))))))))))))))) = some r := H
  have A6 := Aside0.mk A60
  clear A60
  replace H := Option.bind_eq_some_iff.mp H
  obtain ⟨⟨t190, t191, t192⟩, A70, H⟩ := H
  replace H : ((augurylaw04_text.f (⟨#[120]⟩ : ByteArray)).bind fun bt193 => ((value_Sub.f k t190 t191 t192 bt193.1 bt193.2.1 bt193.2.2).bind fun bt196 => ((augurylaw04_text.f (⟨#[97]⟩ : ByteArray)).bind fun bt201 => ((augurylaw04_text.f (⟨#[97, 98]⟩ : ByteArray)).bind fun bt204 => ((value_Compare.f 3 bt201.1 bt201.2.1 bt201.2.2 bt204.1 bt204.2.1 bt204.2.2).bind fun bt207 => ((augurylaw04_num.f 1).bind fun bt209 => ((augurylaw04_text.f (⟨#[97, 98]⟩ : ByteArray)).bind fun bt212 => ((value_Compare.f 3 bt209.1 bt209.2.1 bt209.2.2 bt212.1 bt212.2.1 bt212.2.2).bind fun bt215 => ((value_Get.f k (([1, 1, 9] : List Int))).bind fun bt220 => ((augurylaw04_num.f (-1)).bind fun bt226 => ((value_Put.f k bt226.1 bt226.2.1 bt226.2.2).bind fun t229 => ((augurylaw04_num.f 5).bind fun bt232 => (if (t174 == bt232.1 && (t175 == bt232.2.1 && (t176.toList == bt232.2.2.toList))) = true then (if t177 = 0 then (if t188 = 41 then (if bt196.2.2.2 = 42 then (if bt207.1 = true then (if bt207.2 = 0 then (if bt215.2 = 42 then ((augurylaw04_num.f (-1)).bind fun bt235 => (if (bt220.1 == bt235.1 && (bt220.2.1 == bt235.2.1 && (bt220.2.2.1.toList == bt235.2.2.toList))) = true then (if bt220.2.2.2.1 = 2 then (if bt220.2.2.2.2 = true then (if (t229.length : Int) = 2 then (if 0 < (t229.length : Int) then (if (rd t229 0) = 1 then (if 1 < (t229.length : Int) then (if (rd t229 1) = 1 then ((value_Right.f t174 t175 t176).bind fun t240 => (if t240 = true then ((value_Right.f 0 0 (⟨#[]⟩ : ByteArray)).bind fun t241 => (if t241 = true then (none) else (some true))) else (none))) else (none)) else (none)) else (none)) else (none)) else (none)) else (none)) else (none)) else (none))) else (none)) else (none)) else (none)) else (none)) else (none)) else (none)) else (none)))))))))))))) = some r := H
  have A7 := Aside0.mk A70
  clear A70
  replace H := Option.bind_eq_some_iff.mp H
  obtain ⟨⟨t193, t194, t195⟩, A80, H⟩ := H
  replace H : ((value_Sub.f k t190 t191 t192 t193 t194 t195).bind fun bt196 => ((augurylaw04_text.f (⟨#[97]⟩ : ByteArray)).bind fun bt201 => ((augurylaw04_text.f (⟨#[97, 98]⟩ : ByteArray)).bind fun bt204 => ((value_Compare.f 3 bt201.1 bt201.2.1 bt201.2.2 bt204.1 bt204.2.1 bt204.2.2).bind fun bt207 => ((augurylaw04_num.f 1).bind fun bt209 => ((augurylaw04_text.f (⟨#[97, 98]⟩ : ByteArray)).bind fun bt212 => ((value_Compare.f 3 bt209.1 bt209.2.1 bt209.2.2 bt212.1 bt212.2.1 bt212.2.2).bind fun bt215 => ((value_Get.f k (([1, 1, 9] : List Int))).bind fun bt220 => ((augurylaw04_num.f (-1)).bind fun bt226 => ((value_Put.f k bt226.1 bt226.2.1 bt226.2.2).bind fun t229 => ((augurylaw04_num.f 5).bind fun bt232 => (if (t174 == bt232.1 && (t175 == bt232.2.1 && (t176.toList == bt232.2.2.toList))) = true then (if t177 = 0 then (if t188 = 41 then (if bt196.2.2.2 = 42 then (if bt207.1 = true then (if bt207.2 = 0 then (if bt215.2 = 42 then ((augurylaw04_num.f (-1)).bind fun bt235 => (if (bt220.1 == bt235.1 && (bt220.2.1 == bt235.2.1 && (bt220.2.2.1.toList == bt235.2.2.toList))) = true then (if bt220.2.2.2.1 = 2 then (if bt220.2.2.2.2 = true then (if (t229.length : Int) = 2 then (if 0 < (t229.length : Int) then (if (rd t229 0) = 1 then (if 1 < (t229.length : Int) then (if (rd t229 1) = 1 then ((value_Right.f t174 t175 t176).bind fun t240 => (if t240 = true then ((value_Right.f 0 0 (⟨#[]⟩ : ByteArray)).bind fun t241 => (if t241 = true then (none) else (some true))) else (none))) else (none)) else (none)) else (none)) else (none)) else (none)) else (none)) else (none)) else (none))) else (none)) else (none)) else (none)) else (none)) else (none)) else (none)) else (none))))))))))))) = some r := H
  have A8 := Aside0.mk A80
  clear A80
  replace H := Option.bind_eq_some_iff.mp H
  obtain ⟨⟨t196, t197, t198, t199⟩, A90, H⟩ := H
  replace H : ((augurylaw04_text.f (⟨#[97]⟩ : ByteArray)).bind fun bt201 => ((augurylaw04_text.f (⟨#[97, 98]⟩ : ByteArray)).bind fun bt204 => ((value_Compare.f 3 bt201.1 bt201.2.1 bt201.2.2 bt204.1 bt204.2.1 bt204.2.2).bind fun bt207 => ((augurylaw04_num.f 1).bind fun bt209 => ((augurylaw04_text.f (⟨#[97, 98]⟩ : ByteArray)).bind fun bt212 => ((value_Compare.f 3 bt209.1 bt209.2.1 bt209.2.2 bt212.1 bt212.2.1 bt212.2.2).bind fun bt215 => ((value_Get.f k (([1, 1, 9] : List Int))).bind fun bt220 => ((augurylaw04_num.f (-1)).bind fun bt226 => ((value_Put.f k bt226.1 bt226.2.1 bt226.2.2).bind fun t229 => ((augurylaw04_num.f 5).bind fun bt232 => (if (t174 == bt232.1 && (t175 == bt232.2.1 && (t176.toList == bt232.2.2.toList))) = true then (if t177 = 0 then (if t188 = 41 then (if t199 = 42 then (if bt207.1 = true then (if bt207.2 = 0 then (if bt215.2 = 42 then ((augurylaw04_num.f (-1)).bind fun bt235 => (if (bt220.1 == bt235.1 && (bt220.2.1 == bt235.2.1 && (bt220.2.2.1.toList == bt235.2.2.toList))) = true then (if bt220.2.2.2.1 = 2 then (if bt220.2.2.2.2 = true then (if (t229.length : Int) = 2 then (if 0 < (t229.length : Int) then (if (rd t229 0) = 1 then (if 1 < (t229.length : Int) then (if (rd t229 1) = 1 then ((value_Right.f t174 t175 t176).bind fun t240 => (if t240 = true then ((value_Right.f 0 0 (⟨#[]⟩ : ByteArray)).bind fun t241 => (if t241 = true then (none) else (some true))) else (none))) else (none)) else (none)) else (none)) else (none)) else (none)) else (none)) else (none)) else (none))) else (none)) else (none)) else (none)) else (none)) else (none)) else (none)) else (none)))))))))))) = some r := H
  have A9 := Aside0.mk A90
  clear A90
  replace H := Option.bind_eq_some_iff.mp H
  obtain ⟨⟨t201, t202, t203⟩, A100, H⟩ := H
  replace H : ((augurylaw04_text.f (⟨#[97, 98]⟩ : ByteArray)).bind fun bt204 => ((value_Compare.f 3 t201 t202 t203 bt204.1 bt204.2.1 bt204.2.2).bind fun bt207 => ((augurylaw04_num.f 1).bind fun bt209 => ((augurylaw04_text.f (⟨#[97, 98]⟩ : ByteArray)).bind fun bt212 => ((value_Compare.f 3 bt209.1 bt209.2.1 bt209.2.2 bt212.1 bt212.2.1 bt212.2.2).bind fun bt215 => ((value_Get.f k (([1, 1, 9] : List Int))).bind fun bt220 => ((augurylaw04_num.f (-1)).bind fun bt226 => ((value_Put.f k bt226.1 bt226.2.1 bt226.2.2).bind fun t229 => ((augurylaw04_num.f 5).bind fun bt232 => (if (t174 == bt232.1 && (t175 == bt232.2.1 && (t176.toList == bt232.2.2.toList))) = true then (if t177 = 0 then (if t188 = 41 then (if t199 = 42 then (if bt207.1 = true then (if bt207.2 = 0 then (if bt215.2 = 42 then ((augurylaw04_num.f (-1)).bind fun bt235 => (if (bt220.1 == bt235.1 && (bt220.2.1 == bt235.2.1 && (bt220.2.2.1.toList == bt235.2.2.toList))) = true then (if bt220.2.2.2.1 = 2 then (if bt220.2.2.2.2 = true then (if (t229.length : Int) = 2 then (if 0 < (t229.length : Int) then (if (rd t229 0) = 1 then (if 1 < (t229.length : Int) then (if (rd t229 1) = 1 then ((value_Right.f t174 t175 t176).bind fun t240 => (if t240 = true then ((value_Right.f 0 0 (⟨#[]⟩ : ByteArray)).bind fun t241 => (if t241 = true then (none) else (some true))) else (none))) else (none)) else (none)) else (none)) else (none)) else (none)) else (none)) else (none)) else (none))) else (none)) else (none)) else (none)) else (none)) else (none)) else (none)) else (none))))))))))) = some r := H
  have A10 := Aside0.mk A100
  clear A100
  replace H := Option.bind_eq_some_iff.mp H
  obtain ⟨⟨t204, t205, t206⟩, A110, H⟩ := H
  replace H : ((value_Compare.f 3 t201 t202 t203 t204 t205 t206).bind fun bt207 => ((augurylaw04_num.f 1).bind fun bt209 => ((augurylaw04_text.f (⟨#[97, 98]⟩ : ByteArray)).bind fun bt212 => ((value_Compare.f 3 bt209.1 bt209.2.1 bt209.2.2 bt212.1 bt212.2.1 bt212.2.2).bind fun bt215 => ((value_Get.f k (([1, 1, 9] : List Int))).bind fun bt220 => ((augurylaw04_num.f (-1)).bind fun bt226 => ((value_Put.f k bt226.1 bt226.2.1 bt226.2.2).bind fun t229 => ((augurylaw04_num.f 5).bind fun bt232 => (if (t174 == bt232.1 && (t175 == bt232.2.1 && (t176.toList == bt232.2.2.toList))) = true then (if t177 = 0 then (if t188 = 41 then (if t199 = 42 then (if bt207.1 = true then (if bt207.2 = 0 then (if bt215.2 = 42 then ((augurylaw04_num.f (-1)).bind fun bt235 => (if (bt220.1 == bt235.1 && (bt220.2.1 == bt235.2.1 && (bt220.2.2.1.toList == bt235.2.2.toList))) = true then (if bt220.2.2.2.1 = 2 then (if bt220.2.2.2.2 = true then (if (t229.length : Int) = 2 then (if 0 < (t229.length : Int) then (if (rd t229 0) = 1 then (if 1 < (t229.length : Int) then (if (rd t229 1) = 1 then ((value_Right.f t174 t175 t176).bind fun t240 => (if t240 = true then ((value_Right.f 0 0 (⟨#[]⟩ : ByteArray)).bind fun t241 => (if t241 = true then (none) else (some true))) else (none))) else (none)) else (none)) else (none)) else (none)) else (none)) else (none)) else (none)) else (none))) else (none)) else (none)) else (none)) else (none)) else (none)) else (none)) else (none)))))))))) = some r := H
  have A11 := Aside0.mk A110
  clear A110
  replace H := Option.bind_eq_some_iff.mp H
  obtain ⟨⟨t207, t208⟩, A120, H⟩ := H
  replace H : ((augurylaw04_num.f 1).bind fun bt209 => ((augurylaw04_text.f (⟨#[97, 98]⟩ : ByteArray)).bind fun bt212 => ((value_Compare.f 3 bt209.1 bt209.2.1 bt209.2.2 bt212.1 bt212.2.1 bt212.2.2).bind fun bt215 => ((value_Get.f k (([1, 1, 9] : List Int))).bind fun bt220 => ((augurylaw04_num.f (-1)).bind fun bt226 => ((value_Put.f k bt226.1 bt226.2.1 bt226.2.2).bind fun t229 => ((augurylaw04_num.f 5).bind fun bt232 => (if (t174 == bt232.1 && (t175 == bt232.2.1 && (t176.toList == bt232.2.2.toList))) = true then (if t177 = 0 then (if t188 = 41 then (if t199 = 42 then (if t207 = true then (if t208 = 0 then (if bt215.2 = 42 then ((augurylaw04_num.f (-1)).bind fun bt235 => (if (bt220.1 == bt235.1 && (bt220.2.1 == bt235.2.1 && (bt220.2.2.1.toList == bt235.2.2.toList))) = true then (if bt220.2.2.2.1 = 2 then (if bt220.2.2.2.2 = true then (if (t229.length : Int) = 2 then (if 0 < (t229.length : Int) then (if (rd t229 0) = 1 then (if 1 < (t229.length : Int) then (if (rd t229 1) = 1 then ((value_Right.f t174 t175 t176).bind fun t240 => (if t240 = true then ((value_Right.f 0 0 (⟨#[]⟩ : ByteArray)).bind fun t241 => (if t241 = true then (none) else (some true))) else (none))) else (none)) else (none)) else (none)) else (none)) else (none)) else (none)) else (none)) else (none))) else (none)) else (none)) else (none)) else (none)) else (none)) else (none)) else (none))))))))) = some r := H
  have A12 := Aside0.mk A120
  clear A120
  replace H := Option.bind_eq_some_iff.mp H
  obtain ⟨⟨t209, t210, t211⟩, A130, H⟩ := H
  replace H : ((augurylaw04_text.f (⟨#[97, 98]⟩ : ByteArray)).bind fun bt212 => ((value_Compare.f 3 t209 t210 t211 bt212.1 bt212.2.1 bt212.2.2).bind fun bt215 => ((value_Get.f k (([1, 1, 9] : List Int))).bind fun bt220 => ((augurylaw04_num.f (-1)).bind fun bt226 => ((value_Put.f k bt226.1 bt226.2.1 bt226.2.2).bind fun t229 => ((augurylaw04_num.f 5).bind fun bt232 => (if (t174 == bt232.1 && (t175 == bt232.2.1 && (t176.toList == bt232.2.2.toList))) = true then (if t177 = 0 then (if t188 = 41 then (if t199 = 42 then (if t207 = true then (if t208 = 0 then (if bt215.2 = 42 then ((augurylaw04_num.f (-1)).bind fun bt235 => (if (bt220.1 == bt235.1 && (bt220.2.1 == bt235.2.1 && (bt220.2.2.1.toList == bt235.2.2.toList))) = true then (if bt220.2.2.2.1 = 2 then (if bt220.2.2.2.2 = true then (if (t229.length : Int) = 2 then (if 0 < (t229.length : Int) then (if (rd t229 0) = 1 then (if 1 < (t229.length : Int) then (if (rd t229 1) = 1 then ((value_Right.f t174 t175 t176).bind fun t240 => (if t240 = true then ((value_Right.f 0 0 (⟨#[]⟩ : ByteArray)).bind fun t241 => (if t241 = true then (none) else (some true))) else (none))) else (none)) else (none)) else (none)) else (none)) else (none)) else (none)) else (none)) else (none))) else (none)) else (none)) else (none)) else (none)) else (none)) else (none)) else (none)))))))) = some r := H
  have A13 := Aside0.mk A130
  clear A130
  replace H := Option.bind_eq_some_iff.mp H
  obtain ⟨⟨t212, t213, t214⟩, A140, H⟩ := H
  replace H : ((value_Compare.f 3 t209 t210 t211 t212 t213 t214).bind fun bt215 => ((value_Get.f k (([1, 1, 9] : List Int))).bind fun bt220 => ((augurylaw04_num.f (-1)).bind fun bt226 => ((value_Put.f k bt226.1 bt226.2.1 bt226.2.2).bind fun t229 => ((augurylaw04_num.f 5).bind fun bt232 => (if (t174 == bt232.1 && (t175 == bt232.2.1 && (t176.toList == bt232.2.2.toList))) = true then (if t177 = 0 then (if t188 = 41 then (if t199 = 42 then (if t207 = true then (if t208 = 0 then (if bt215.2 = 42 then ((augurylaw04_num.f (-1)).bind fun bt235 => (if (bt220.1 == bt235.1 && (bt220.2.1 == bt235.2.1 && (bt220.2.2.1.toList == bt235.2.2.toList))) = true then (if bt220.2.2.2.1 = 2 then (if bt220.2.2.2.2 = true then (if (t229.length : Int) = 2 then (if 0 < (t229.length : Int) then (if (rd t229 0) = 1 then (if 1 < (t229.length : Int) then (if (rd t229 1) = 1 then ((value_Right.f t174 t175 t176).bind fun t240 => (if t240 = true then ((value_Right.f 0 0 (⟨#[]⟩ : ByteArray)).bind fun t241 => (if t241 = true then (none) else (some true))) else (none))) else (none)) else (none)) else (none)) else (none)) else (none)) else (none)) else (none)) else (none))) else (none)) else (none)) else (none)) else (none)) else (none)) else (none)) else (none))))))) = some r := H
  have A14 := Aside0.mk A140
  clear A140
  replace H := Option.bind_eq_some_iff.mp H
  obtain ⟨⟨t215, t216⟩, A150, H⟩ := H
  replace H : ((value_Get.f k (([1, 1, 9] : List Int))).bind fun bt220 => ((augurylaw04_num.f (-1)).bind fun bt226 => ((value_Put.f k bt226.1 bt226.2.1 bt226.2.2).bind fun t229 => ((augurylaw04_num.f 5).bind fun bt232 => (if (t174 == bt232.1 && (t175 == bt232.2.1 && (t176.toList == bt232.2.2.toList))) = true then (if t177 = 0 then (if t188 = 41 then (if t199 = 42 then (if t207 = true then (if t208 = 0 then (if t216 = 42 then ((augurylaw04_num.f (-1)).bind fun bt235 => (if (bt220.1 == bt235.1 && (bt220.2.1 == bt235.2.1 && (bt220.2.2.1.toList == bt235.2.2.toList))) = true then (if bt220.2.2.2.1 = 2 then (if bt220.2.2.2.2 = true then (if (t229.length : Int) = 2 then (if 0 < (t229.length : Int) then (if (rd t229 0) = 1 then (if 1 < (t229.length : Int) then (if (rd t229 1) = 1 then ((value_Right.f t174 t175 t176).bind fun t240 => (if t240 = true then ((value_Right.f 0 0 (⟨#[]⟩ : ByteArray)).bind fun t241 => (if t241 = true then (none) else (some true))) else (none))) else (none)) else (none)) else (none)) else (none)) else (none)) else (none)) else (none)) else (none))) else (none)) else (none)) else (none)) else (none)) else (none)) else (none)) else (none)))))) = some r := H
  have A15 := Aside0.mk A150
  clear A150
  obtain ⟨y217, hy217⟩ : ∃ y_ : List Int, y_ = (([1, 1, 9] : List Int)) := ⟨_, rfl⟩
  replace H : ((value_Get.f k y217).bind fun bt220 => ((augurylaw04_num.f (-1)).bind fun bt226 => ((value_Put.f k bt226.1 bt226.2.1 bt226.2.2).bind fun t229 => ((augurylaw04_num.f 5).bind fun bt232 => (if (t174 == bt232.1 && (t175 == bt232.2.1 && (t176.toList == bt232.2.2.toList))) = true then (if t177 = 0 then (if t188 = 41 then (if t199 = 42 then (if t207 = true then (if t208 = 0 then (if t216 = 42 then ((augurylaw04_num.f (-1)).bind fun bt235 => (if (bt220.1 == bt235.1 && (bt220.2.1 == bt235.2.1 && (bt220.2.2.1.toList == bt235.2.2.toList))) = true then (if bt220.2.2.2.1 = 2 then (if bt220.2.2.2.2 = true then (if (t229.length : Int) = 2 then (if 0 < (t229.length : Int) then (if (rd t229 0) = 1 then (if 1 < (t229.length : Int) then (if (rd t229 1) = 1 then ((value_Right.f t174 t175 t176).bind fun t240 => (if t240 = true then ((value_Right.f 0 0 (⟨#[]⟩ : ByteArray)).bind fun t241 => (if t241 = true then (none) else (some true))) else (none))) else (none)) else (none)) else (none)) else (none)) else (none)) else (none)) else (none)) else (none))) else (none)) else (none)) else (none)) else (none)) else (none)) else (none)) else (none)))))) = some r := by first | (rw [hy217]; with_reducible exact H) | (have H2_ := (Option.bind_some _ _).symm.trans H; rw [hy217]; with_reducible exact H2_) | (have H2_ := (Option.bind_some _ _).symm.trans H; with_reducible exact H2_) | with_reducible exact H | (rw [hy217]; exact H) | exact H
  have Ny217 := Aside0.mk hy217
  clear hy217
  replace H := Option.bind_eq_some_iff.mp H
  obtain ⟨⟨t220, t221, t222, t223, t224⟩, A160, H⟩ := H
  replace H : ((augurylaw04_num.f (-1)).bind fun bt226 => ((value_Put.f k bt226.1 bt226.2.1 bt226.2.2).bind fun t229 => ((augurylaw04_num.f 5).bind fun bt232 => (if (t174 == bt232.1 && (t175 == bt232.2.1 && (t176.toList == bt232.2.2.toList))) = true then (if t177 = 0 then (if t188 = 41 then (if t199 = 42 then (if t207 = true then (if t208 = 0 then (if t216 = 42 then ((augurylaw04_num.f (-1)).bind fun bt235 => (if (t220 == bt235.1 && (t221 == bt235.2.1 && (t222.toList == bt235.2.2.toList))) = true then (if t223 = 2 then (if t224 = true then (if (t229.length : Int) = 2 then (if 0 < (t229.length : Int) then (if (rd t229 0) = 1 then (if 1 < (t229.length : Int) then (if (rd t229 1) = 1 then ((value_Right.f t174 t175 t176).bind fun t240 => (if t240 = true then ((value_Right.f 0 0 (⟨#[]⟩ : ByteArray)).bind fun t241 => (if t241 = true then (none) else (some true))) else (none))) else (none)) else (none)) else (none)) else (none)) else (none)) else (none)) else (none)) else (none))) else (none)) else (none)) else (none)) else (none)) else (none)) else (none)) else (none))))) = some r := H
  have A16 := Aside0.mk A160
  clear A160
  replace H := Option.bind_eq_some_iff.mp H
  obtain ⟨⟨t226, t227, t228⟩, A170, H⟩ := H
  replace H : ((value_Put.f k t226 t227 t228).bind fun t229 => ((augurylaw04_num.f 5).bind fun bt232 => (if (t174 == bt232.1 && (t175 == bt232.2.1 && (t176.toList == bt232.2.2.toList))) = true then (if t177 = 0 then (if t188 = 41 then (if t199 = 42 then (if t207 = true then (if t208 = 0 then (if t216 = 42 then ((augurylaw04_num.f (-1)).bind fun bt235 => (if (t220 == bt235.1 && (t221 == bt235.2.1 && (t222.toList == bt235.2.2.toList))) = true then (if t223 = 2 then (if t224 = true then (if (t229.length : Int) = 2 then (if 0 < (t229.length : Int) then (if (rd t229 0) = 1 then (if 1 < (t229.length : Int) then (if (rd t229 1) = 1 then ((value_Right.f t174 t175 t176).bind fun t240 => (if t240 = true then ((value_Right.f 0 0 (⟨#[]⟩ : ByteArray)).bind fun t241 => (if t241 = true then (none) else (some true))) else (none))) else (none)) else (none)) else (none)) else (none)) else (none)) else (none)) else (none)) else (none))) else (none)) else (none)) else (none)) else (none)) else (none)) else (none)) else (none)))) = some r := H
  have A17 := Aside0.mk A170
  clear A170
  replace H := Option.bind_eq_some_iff.mp H
  obtain ⟨t229, A180, H⟩ := H
  replace H : ((augurylaw04_num.f 5).bind fun bt232 => (if (t174 == bt232.1 && (t175 == bt232.2.1 && (t176.toList == bt232.2.2.toList))) = true then (if t177 = 0 then (if t188 = 41 then (if t199 = 42 then (if t207 = true then (if t208 = 0 then (if t216 = 42 then ((augurylaw04_num.f (-1)).bind fun bt235 => (if (t220 == bt235.1 && (t221 == bt235.2.1 && (t222.toList == bt235.2.2.toList))) = true then (if t223 = 2 then (if t224 = true then (if (t229.length : Int) = 2 then (if 0 < (t229.length : Int) then (if (rd t229 0) = 1 then (if 1 < (t229.length : Int) then (if (rd t229 1) = 1 then ((value_Right.f t174 t175 t176).bind fun t240 => (if t240 = true then ((value_Right.f 0 0 (⟨#[]⟩ : ByteArray)).bind fun t241 => (if t241 = true then (none) else (some true))) else (none))) else (none)) else (none)) else (none)) else (none)) else (none)) else (none)) else (none)) else (none))) else (none)) else (none)) else (none)) else (none)) else (none)) else (none)) else (none))) = some r := H
  have A18 := Aside0.mk A180
  clear A180
  replace H := Option.bind_eq_some_iff.mp H
  obtain ⟨⟨t232, t233, t234⟩, A190, H⟩ := H
  replace H : (if (t174 == t232 && (t175 == t233 && (t176.toList == t234.toList))) = true then (if t177 = 0 then (if t188 = 41 then (if t199 = 42 then (if t207 = true then (if t208 = 0 then (if t216 = 42 then ((augurylaw04_num.f (-1)).bind fun bt235 => (if (t220 == bt235.1 && (t221 == bt235.2.1 && (t222.toList == bt235.2.2.toList))) = true then (if t223 = 2 then (if t224 = true then (if (t229.length : Int) = 2 then (if 0 < (t229.length : Int) then (if (rd t229 0) = 1 then (if 1 < (t229.length : Int) then (if (rd t229 1) = 1 then ((value_Right.f t174 t175 t176).bind fun t240 => (if t240 = true then ((value_Right.f 0 0 (⟨#[]⟩ : ByteArray)).bind fun t241 => (if t241 = true then (none) else (some true))) else (none))) else (none)) else (none)) else (none)) else (none)) else (none)) else (none)) else (none)) else (none))) else (none)) else (none)) else (none)) else (none)) else (none)) else (none)) else (none)) = some r := H
  have A19 := Aside0.mk A190
  clear A190
  by_cases c20 : (t174 == t232 && (t175 == t233 && (t176.toList == t234.toList))) = true
  · rw [if_pos c20] at H
    have c20b0 : (t174 == t232 && (t175 == t233 && (t176.toList == t234.toList))) = true := c20
    (try (have c20b1 : decide (t174 = t232 && (t175 == t233 && (t176.toList == t234.toList))) = true := by simpa using c20))
    (try (have c20b2 : (t174 == t232 && (t175 == t233 && (t176.toList == t234.toList))) = true := by simpa using c20))
    clear c20
    by_cases c21 : t177 = 0
    · rw [if_pos c21] at H
      have c21b0 : (t177 == 0) = true := beq_iff_eq.mpr c21
      have c21b1 : (t177 != 0) = false := bne_eq_false_iff_eq.mpr c21
      clear c21
      by_cases c22 : t188 = 41
      · rw [if_pos c22] at H
        have c22b0 : (t188 == 41) = true := beq_iff_eq.mpr c22
        have c22b1 : (t188 != 41) = false := bne_eq_false_iff_eq.mpr c22
        clear c22
        by_cases c23 : t199 = 42
        · rw [if_pos c23] at H
          have c23b0 : (t199 == 42) = true := beq_iff_eq.mpr c23
          have c23b1 : (t199 != 42) = false := bne_eq_false_iff_eq.mpr c23
          clear c23
          by_cases c24 : t207 = true
          · subst c24
            have H1 : (if t208 = 0 then (if t216 = 42 then ((augurylaw04_num.f (-1)).bind fun bt235 => (if (t220 == bt235.1 && (t221 == bt235.2.1 && (t222.toList == bt235.2.2.toList))) = true then (if t223 = 2 then (if t224 = true then (if (t229.length : Int) = 2 then (if 0 < (t229.length : Int) then (if (rd t229 0) = 1 then (if 1 < (t229.length : Int) then (if (rd t229 1) = 1 then ((value_Right.f t174 t175 t176).bind fun t240 => (if t240 = true then ((value_Right.f 0 0 (⟨#[]⟩ : ByteArray)).bind fun t241 => (if t241 = true then (none) else (some true))) else (none))) else (none)) else (none)) else (none)) else (none)) else (none)) else (none)) else (none)) else (none))) else (none)) else (none)) = some r := by rw [if_pos rfl] at H; exact H
            clear H
            have H := H1
            clear H1
            by_cases c25 : t208 = 0
            · rw [if_pos c25] at H
              have c25b0 : (t208 == 0) = true := beq_iff_eq.mpr c25
              have c25b1 : (t208 != 0) = false := bne_eq_false_iff_eq.mpr c25
              clear c25
              by_cases c26 : t216 = 42
              · rw [if_pos c26] at H
                have c26b0 : (t216 == 42) = true := beq_iff_eq.mpr c26
                have c26b1 : (t216 != 42) = false := bne_eq_false_iff_eq.mpr c26
                clear c26
                replace H := Option.bind_eq_some_iff.mp H
                obtain ⟨⟨t235, t236, t237⟩, A270, H⟩ := H
                replace H : (if (t220 == t235 && (t221 == t236 && (t222.toList == t237.toList))) = true then (if t223 = 2 then (if t224 = true then (if (t229.length : Int) = 2 then (if 0 < (t229.length : Int) then (if (rd t229 0) = 1 then (if 1 < (t229.length : Int) then (if (rd t229 1) = 1 then ((value_Right.f t174 t175 t176).bind fun t240 => (if t240 = true then ((value_Right.f 0 0 (⟨#[]⟩ : ByteArray)).bind fun t241 => (if t241 = true then (none) else (some true))) else (none))) else (none)) else (none)) else (none)) else (none)) else (none)) else (none)) else (none)) else (none)) = some r := H
                have A27 := Aside0.mk A270
                clear A270
                by_cases c28 : (t220 == t235 && (t221 == t236 && (t222.toList == t237.toList))) = true
                · rw [if_pos c28] at H
                  have c28b0 : (t220 == t235 && (t221 == t236 && (t222.toList == t237.toList))) = true := c28
                  (try (have c28b1 : decide (t220 = t235 && (t221 == t236 && (t222.toList == t237.toList))) = true := by simpa using c28))
                  (try (have c28b2 : (t220 == t235 && (t221 == t236 && (t222.toList == t237.toList))) = true := by simpa using c28))
                  clear c28
                  by_cases c29 : t223 = 2
                  · rw [if_pos c29] at H
                    have c29b0 : (t223 == 2) = true := beq_iff_eq.mpr c29
                    have c29b1 : (t223 != 2) = false := bne_eq_false_iff_eq.mpr c29
                    clear c29
                    by_cases c30 : t224 = true
                    · subst c30
                      have H1 : (if (t229.length : Int) = 2 then (if 0 < (t229.length : Int) then (if (rd t229 0) = 1 then (if 1 < (t229.length : Int) then (if (rd t229 1) = 1 then ((value_Right.f t174 t175 t176).bind fun t240 => (if t240 = true then ((value_Right.f 0 0 (⟨#[]⟩ : ByteArray)).bind fun t241 => (if t241 = true then (none) else (some true))) else (none))) else (none)) else (none)) else (none)) else (none)) else (none)) = some r := by rw [if_pos rfl] at H; exact H
                      clear H
                      have H := H1
                      clear H1
                      by_cases c31 : (t229.length : Int) = 2
                      · rw [if_pos c31] at H
                        have c31b0 : ((t229.length : Int) == 2) = true := beq_iff_eq.mpr c31
                        have c31b1 : ((t229.length : Int) != 2) = false := bne_eq_false_iff_eq.mpr c31
                        clear c31
                        by_cases c32 : 0 < (t229.length : Int)
                        · rw [if_pos c32] at H
                          have c32b0 : decide (0 < (t229.length : Int)) = true := decide_eq_true c32
                          have c32b1 : decide (0 < t229.length) = true := decide_eq_true (by omega)
                          clear c32
                          by_cases c33 : (rd t229 0) = 1
                          · rw [if_pos c33] at H
                            have c33b0 : ((rd t229 0) == 1) = true := beq_iff_eq.mpr c33
                            have c33b1 : ((rd t229 0) != 1) = false := bne_eq_false_iff_eq.mpr c33
                            clear c33
                            by_cases c34 : 1 < (t229.length : Int)
                            · rw [if_pos c34] at H
                              have c34b0 : decide (1 < (t229.length : Int)) = true := decide_eq_true c34
                              have c34b1 : decide (1 < t229.length) = true := decide_eq_true (by omega)
                              clear c34
                              by_cases c35 : (rd t229 1) = 1
                              · rw [if_pos c35] at H
                                have c35b0 : ((rd t229 1) == 1) = true := beq_iff_eq.mpr c35
                                have c35b1 : ((rd t229 1) != 1) = false := bne_eq_false_iff_eq.mpr c35
                                clear c35
                                replace H := Option.bind_eq_some_iff.mp H
                                obtain ⟨t240, A360, H⟩ := H
                                replace H : (if t240 = true then ((value_Right.f 0 0 (⟨#[]⟩ : ByteArray)).bind fun t241 => (if t241 = true then (none) else (some true))) else (none)) = some r := H
                                have A36 := Aside0.mk A360
                                clear A360
                                by_cases c37 : t240 = true
                                · subst c37
                                  have H1 : ((value_Right.f 0 0 (⟨#[]⟩ : ByteArray)).bind fun t241 => (if t241 = true then (none) else (some true))) = some r := by rw [if_pos rfl] at H; exact H
                                  clear H
                                  have H := H1
                                  clear H1
                                  replace H := Option.bind_eq_some_iff.mp H
                                  obtain ⟨t241, A380, H⟩ := H
                                  replace H : (if t241 = true then (none) else (some true)) = some r := H
                                  have A38 := Aside0.mk A380
                                  clear A380
                                  by_cases c39 : t241 = true
                                  · subst c39
                                    have H1 : (none) = some r := by rw [if_pos rfl] at H; exact H
                                    clear H
                                    have H := H1
                                    clear H1
                                    exact absurd H (by simp)
                                  · replace c39 := Bool.eq_false_iff.mpr c39
                                    subst c39
                                    have H1 : (some true) = some r := by rw [if_neg (show ¬ (false = true) by decide)] at H; exact H
                                    clear H
                                    have H := H1
                                    clear H1
                                    obtain rfl := Option.some.inj H
                                    go_enter Try.func9, Try.ntmps9
                                    try go_wp2_with (first | ((with_reducible refine gate_callee (f := 22) rfl ?_); refine goesL_ (some 16) rfl rfl Try.func22 (by kernel_rfl) rfl #[.int .i64 2] rfl (by (try simp only [List.map_toArray, List.map_cons, List.map_nil]); first | done | rfl | (simp only [List.length_drop, List.length_take]; rfl)) ?_; (with_reducible refine (augurylaw04_num.calls 2 t168 t169 t170 _ A1.out).mono ?_); rintro e w40 ⟨rfl, hb⟩; refine ⟨_, rfl, ?_⟩; have n0_ := Aside0.mk (below_step (by repeat (first | (with_reducible first | exact HB.out | apply below_alloc | apply pw_below_drewN | apply below_drew1) | exact HB.out)) hb); clear HB; have HB := n0_; clear n0_; (try clear hb); (try clear hb2); (try clear hk); (try clear hi)) | ((with_reducible refine gate_callee (f := 22) rfl ?_); refine goesL_ (some 17) rfl rfl Try.func22 (by kernel_rfl) rfl #[.int .i64 3] rfl (by (try simp only [List.map_toArray, List.map_cons, List.map_nil]); first | done | rfl | (simp only [List.length_drop, List.length_take]; rfl)) ?_; (with_reducible refine (augurylaw04_num.calls 3 t171 t172 t173 _ A2.out).mono ?_); rintro e w41 ⟨rfl, hb⟩; refine ⟨_, rfl, ?_⟩; have n0_ := Aside0.mk (below_step (by repeat (first | (with_reducible first | exact HB.out | apply below_alloc | apply pw_below_drewN | apply below_drew1) | exact HB.out)) hb); clear HB; have HB := n0_; clear n0_; (try clear hb); (try clear hb2); (try clear hk); (try clear hi)) | ((with_reducible refine gate_callee (f := 10) rfl ?_); refine goesL_ (some 18) rfl rfl Try.func10 (by kernel_rfl) rfl #[.agg #[.int .i64 t168, .int .i64 t169, .string t170], .agg #[.int .i64 t171, .int .i64 t172, .string t173]] rfl (by (try simp only [List.map_toArray, List.map_cons, List.map_nil]); first | done | rfl | (simp only [List.length_drop, List.length_take]; rfl)) ?_; (with_reducible refine (value_Add.calls k t168 t169 t170 t171 t172 t173 t174 t175 t176 t177 _ A3.out).mono ?_); rintro e w42 ⟨rfl, hb⟩; refine ⟨_, rfl, ?_⟩; have n0_ := Aside0.mk (below_step (by repeat (first | (with_reducible first | exact HB.out | apply below_alloc | apply pw_below_drewN | apply below_drew1) | exact HB.out)) hb); clear HB; have HB := n0_; clear n0_; (try clear hb); (try clear hb2); (try clear hk); (try clear hi)) | ((with_reducible refine gate_dst (N := 1) rfl ?_); (try (refine gate_guard (by rfl) ?_; dsimp only)); refine box_event ?hg (N := 1) ?hd (cs := #[.int .i64 0, .int .i64 0, .string (⟨#[]⟩ : ByteArray)]) (t := 23) ?hr ?_; (case hd => rfl); (case hg => rfl); (case hr => first | (go_simp; done) | (go_simp; rfl)); intro gb178 hg w43 hbox hb; have n0_ := Aside0.mk (below_step (by repeat (first | (with_reducible first | exact HB.out | apply below_alloc | apply pw_below_drewN | apply below_drew1) | exact HB.out)) hb); have n1_ := Aside0.mk (hbox); have n2_ := Aside0.mk ((by rw [hg]; exact (below_size (by repeat (first | (with_reducible first | exact HB.out | apply below_alloc | apply pw_below_drewN | apply below_drew1) | exact HB.out))) : w.heap.size ≤ gb178)); have n3_ := Aside0.mk ((by rw [hg]; exact (below_size (by repeat (first | (with_reducible first | exact HB.out | apply below_alloc | apply pw_below_drewN | apply below_drew1) | exact HB.out))) : w.heap.size ≤ gb178)); clear HB; have HB := n0_; have BK178 := n1_; have GW178 := n2_; have GE178 := n3_; clear n0_ n1_ n2_ n3_; clear hb hbox hg; have hcz44_0 : w43.cell? ⟨gb178, 0, none⟩ = some (.int .i64 0) := (blk_cell BK178.out 0).trans rfl; have hcz44_1 : w43.cell? ⟨gb178, 1, none⟩ = some (.int .i64 0) := (blk_cell BK178.out 1).trans rfl; have hcz44_2 : w43.cell? ⟨gb178, 2, none⟩ = some (.string (⟨#[]⟩ : ByteArray)) := (blk_cell BK178.out 2).trans rfl; have hfz44_0 := blk_frozen BK178.out 0; have hfz44_1 := blk_frozen BK178.out 1; have hfz44_2 := blk_frozen BK178.out 2) | ((with_reducible refine gate_callee (f := 22) rfl ?_); refine goesL_ (some 22) rfl rfl Try.func22 (by kernel_rfl) rfl #[.int .i64 1099511627776] rfl (by (try simp only [List.map_toArray, List.map_cons, List.map_nil]); first | done | rfl | (simp only [List.length_drop, List.length_take]; rfl)) ?_; (with_reducible refine (augurylaw04_num.calls 1099511627776 t179 t180 t181 _ A4.out).mono ?_); rintro e w45 ⟨rfl, hb⟩; refine ⟨_, rfl, ?_⟩; have n0_ := Aside0.mk (blk_below (g := gb178) (o := .cells #[.int .i64 t174, .int .i64 t175, .string t176] 23 (0, 0)) (by (with_reducible repeat (first | refine blk_drewN ?_ _ | refine blk_drew ?_ | refine blk_alloc ?_ _)); refine blk_put (cs := #[.int .i64 t174, .int .i64 t175, .string (⟨#[]⟩ : ByteArray)]) ?_ 2 _ rfl; (with_reducible repeat (first | refine blk_drewN ?_ _ | refine blk_drew ?_ | refine blk_alloc ?_ _)); refine blk_put (cs := #[.int .i64 t174, .int .i64 0, .string (⟨#[]⟩ : ByteArray)]) ?_ 1 _ rfl; (with_reducible repeat (first | refine blk_drewN ?_ _ | refine blk_drew ?_ | refine blk_alloc ?_ _)); refine blk_put (cs := #[.int .i64 0, .int .i64 0, .string (⟨#[]⟩ : ByteArray)]) ?_ 0 _ rfl; (with_reducible repeat (first | refine blk_drewN ?_ _ | refine blk_drew ?_ | refine blk_alloc ?_ _)); exact BK178.out) hb); have n1_ := Aside0.mk (below_step (by repeat (first | (with_reducible first | exact HB.out | apply below_alloc | apply pw_below_drewN | apply below_drew1 | refine below_set ?_ GE178.out) | exact HB.out)) hb); clear BK178; clear HB; have BK178 := n0_; have HB := n1_; clear n0_ n1_; (try clear hb); (try clear hb2); (try clear hk); (try clear hi)) | ((with_reducible refine gate_callee (f := 22) rfl ?_); refine goesL_ (some 23) rfl rfl Try.func22 (by kernel_rfl) rfl #[.int .i64 1] rfl (by (try simp only [List.map_toArray, List.map_cons, List.map_nil]); first | done | rfl | (simp only [List.length_drop, List.length_take]; rfl)) ?_; (with_reducible refine (augurylaw04_num.calls 1 t182 t183 t184 _ A5.out).mono ?_); rintro e w46 ⟨rfl, hb⟩; refine ⟨_, rfl, ?_⟩; have n0_ := Aside0.mk (blk_below (g := gb178) (o := .cells #[.int .i64 t174, .int .i64 t175, .string t176] 23 (0, 0)) (by (with_reducible repeat (first | refine blk_drewN ?_ _ | refine blk_drew ?_ | refine blk_alloc ?_ _)); exact BK178.out) hb); have n1_ := Aside0.mk (below_step (by repeat (first | (with_reducible first | exact HB.out | apply below_alloc | apply pw_below_drewN | apply below_drew1 | refine below_set ?_ GE178.out) | exact HB.out)) hb); clear BK178; clear HB; have BK178 := n0_; have HB := n1_; clear n0_ n1_; (try clear hb); (try clear hb2); (try clear hk); (try clear hi)) | ((with_reducible refine gate_callee (f := 10) rfl ?_); refine goesL_ (some 24) rfl rfl Try.func10 (by kernel_rfl) rfl #[.agg #[.int .i64 t179, .int .i64 t180, .string t181], .agg #[.int .i64 t182, .int .i64 t183, .string t184]] rfl (by (try simp only [List.map_toArray, List.map_cons, List.map_nil]); first | done | rfl | (simp only [List.length_drop, List.length_take]; rfl)) ?_; (with_reducible refine (value_Add.calls k t179 t180 t181 t182 t183 t184 t185 t186 t187 t188 _ A6.out).mono ?_); rintro e w47 ⟨rfl, hb⟩; refine ⟨_, rfl, ?_⟩; have n0_ := Aside0.mk (blk_below (g := gb178) (o := .cells #[.int .i64 t174, .int .i64 t175, .string t176] 23 (0, 0)) (by (with_reducible repeat (first | refine blk_drewN ?_ _ | refine blk_drew ?_ | refine blk_alloc ?_ _)); exact BK178.out) hb); have n1_ := Aside0.mk (below_step (by repeat (first | (with_reducible first | exact HB.out | apply below_alloc | apply pw_below_drewN | apply below_drew1 | refine below_set ?_ GE178.out) | exact HB.out)) hb); clear BK178; clear HB; have BK178 := n0_; have HB := n1_; clear n0_ n1_; (try clear hb); (try clear hb2); (try clear hk); (try clear hi)) | ((with_reducible refine gate_dst (N := 3) rfl ?_); (try (refine gate_guard (by rfl) ?_; dsimp only)); refine box_event ?hg (N := 3) ?hd (cs := #[.int .i64 0, .int .i64 0, .string (⟨#[]⟩ : ByteArray)]) (t := 23) ?hr ?_; (case hd => rfl); (case hg => rfl); (case hr => first | (go_simp; done) | (go_simp; rfl)); intro gb189 hg w48 hbox hb; have n0_ := Aside0.mk (blk_below (g := gb178) (o := .cells #[.int .i64 t174, .int .i64 t175, .string t176] 23 (0, 0)) (by (with_reducible repeat (first | refine blk_drewN ?_ _ | refine blk_drew ?_ | refine blk_alloc ?_ _)); exact BK178.out) hb); have n1_ := Aside0.mk (below_step (by repeat (first | (with_reducible first | exact HB.out | apply below_alloc | apply pw_below_drewN | apply below_drew1 | refine below_set ?_ GE178.out) | exact HB.out)) hb); have n2_ := Aside0.mk (hbox); have n3_ := Aside0.mk ((by rw [hg]; exact (below_size (by repeat (first | (with_reducible first | exact HB.out | apply below_alloc | apply pw_below_drewN | apply below_drew1 | refine below_set ?_ GE178.out) | exact HB.out))) : w.heap.size ≤ gb189)); have n4_ := Aside0.mk ((by rw [hg]; exact (below_size (by repeat (first | (with_reducible first | exact HB.out | apply below_alloc | apply pw_below_drewN | apply below_drew1 | refine below_set ?_ GE178.out) | exact HB.out))) : w.heap.size ≤ gb189)); have n5_ := Aside0.mk ((by rw [hg]; exact Nat.ne_of_lt (blk_lt (g := gb178) (o := .cells #[.int .i64 t174, .int .i64 t175, .string t176] 23 (0, 0)) (by (with_reducible repeat (first | refine blk_drewN ?_ _ | refine blk_drew ?_ | refine blk_alloc ?_ _)); exact BK178.out)) : gb178 ≠ gb189)); have n6_ := Aside0.mk ((by rw [hg]; exact Nat.ne_of_gt (blk_lt (g := gb178) (o := .cells #[.int .i64 t174, .int .i64 t175, .string t176] 23 (0, 0)) (by (with_reducible repeat (first | refine blk_drewN ?_ _ | refine blk_drew ?_ | refine blk_alloc ?_ _)); exact BK178.out)) : gb189 ≠ gb178)); clear BK178; clear HB; have BK178 := n0_; have HB := n1_; have BK189 := n2_; have GW189 := n3_; have GE189 := n4_; have NB178_189 := n5_; have NB189_178 := n6_; clear n0_ n1_ n2_ n3_ n4_ n5_ n6_; clear hb hbox hg; have hnb49 := NB189_178.out; have hnc49 := NB178_189.out; have hcz50_0 : w48.cell? ⟨gb189, 0, none⟩ = some (.int .i64 0) := (blk_cell BK189.out 0).trans rfl; have hcz50_1 : w48.cell? ⟨gb189, 1, none⟩ = some (.int .i64 0) := (blk_cell BK189.out 1).trans rfl; have hcz50_2 : w48.cell? ⟨gb189, 2, none⟩ = some (.string (⟨#[]⟩ : ByteArray)) := (blk_cell BK189.out 2).trans rfl; have hfz50_0 := blk_frozen BK189.out 0; have hfz50_1 := blk_frozen BK189.out 1; have hfz50_2 := blk_frozen BK189.out 2) | ((with_reducible refine gate_callee (f := 22) rfl ?_); refine goesL_ (some 28) rfl rfl Try.func22 (by kernel_rfl) rfl #[.int .i64 1] rfl (by (try simp only [List.map_toArray, List.map_cons, List.map_nil]); first | done | rfl | (simp only [List.length_drop, List.length_take]; rfl)) ?_; (with_reducible refine (augurylaw04_num.calls 1 t190 t191 t192 _ A7.out).mono ?_); rintro e w51 ⟨rfl, hb⟩; refine ⟨_, rfl, ?_⟩; have n0_ := Aside0.mk (blk_below (g := gb178) (o := .cells #[.int .i64 t174, .int .i64 t175, .string t176] 23 (0, 0)) (by (with_reducible repeat (first | refine blk_drewN ?_ _ | refine blk_drew ?_ | refine blk_alloc ?_ _)); refine blk_far ?_ NB178_189.out _; (with_reducible repeat (first | refine blk_drewN ?_ _ | refine blk_drew ?_ | refine blk_alloc ?_ _)); refine blk_far ?_ NB178_189.out _; (with_reducible repeat (first | refine blk_drewN ?_ _ | refine blk_drew ?_ | refine blk_alloc ?_ _)); refine blk_far ?_ NB178_189.out _; (with_reducible repeat (first | refine blk_drewN ?_ _ | refine blk_drew ?_ | refine blk_alloc ?_ _)); exact BK178.out) hb); have n1_ := Aside0.mk (blk_below (g := gb189) (o := .cells #[.int .i64 t185, .int .i64 t186, .string t187] 23 (0, 0)) (by (with_reducible repeat (first | refine blk_drewN ?_ _ | refine blk_drew ?_ | refine blk_alloc ?_ _)); refine blk_put (cs := #[.int .i64 t185, .int .i64 t186, .string (⟨#[]⟩ : ByteArray)]) ?_ 2 _ rfl; (with_reducible repeat (first | refine blk_drewN ?_ _ | refine blk_drew ?_ | refine blk_alloc ?_ _)); refine blk_put (cs := #[.int .i64 t185, .int .i64 0, .string (⟨#[]⟩ : ByteArray)]) ?_ 1 _ rfl; (with_reducible repeat (first | refine blk_drewN ?_ _ | refine blk_drew ?_ | refine blk_alloc ?_ _)); refine blk_put (cs := #[.int .i64 0, .int .i64 0, .string (⟨#[]⟩ : ByteArray)]) ?_ 0 _ rfl; (with_reducible repeat (first | refine blk_drewN ?_ _ | refine blk_drew ?_ | refine blk_alloc ?_ _)); exact BK189.out) hb); have n2_ := Aside0.mk (below_step (by repeat (first | (with_reducible first | exact HB.out | apply below_alloc | apply pw_below_drewN | apply below_drew1 | refine below_set ?_ GE178.out | refine below_set ?_ GE189.out) | exact HB.out)) hb); clear BK178; clear BK189; clear HB; have BK178 := n0_; have BK189 := n1_; have HB := n2_; clear n0_ n1_ n2_; (try clear hb); (try clear hb2); (try clear hk); (try clear hi)) | ((with_reducible refine gate_callee (f := 23) rfl ?_); refine goesL_ (some 29) rfl rfl Try.func23 (by kernel_rfl) rfl #[.string (⟨#[120]⟩ : ByteArray)] rfl (by (try simp only [List.map_toArray, List.map_cons, List.map_nil]); first | done | rfl | (simp only [List.length_drop, List.length_take]; rfl)) ?_; (with_reducible refine (augurylaw04_text.calls (⟨#[120]⟩ : ByteArray) t193 t194 t195 _ A8.out).mono ?_); rintro e w52 ⟨rfl, hb⟩; refine ⟨_, rfl, ?_⟩; have n0_ := Aside0.mk (blk_below (g := gb178) (o := .cells #[.int .i64 t174, .int .i64 t175, .string t176] 23 (0, 0)) (by (with_reducible repeat (first | refine blk_drewN ?_ _ | refine blk_drew ?_ | refine blk_alloc ?_ _)); exact BK178.out) hb); have n1_ := Aside0.mk (blk_below (g := gb189) (o := .cells #[.int .i64 t185, .int .i64 t186, .string t187] 23 (0, 0)) (by (with_reducible repeat (first | refine blk_drewN ?_ _ | refine blk_drew ?_ | refine blk_alloc ?_ _)); exact BK189.out) hb); have n2_ := Aside0.mk (below_step (by repeat (first | (with_reducible first | exact HB.out | apply below_alloc | apply pw_below_drewN | apply below_drew1 | refine below_set ?_ GE178.out | refine below_set ?_ GE189.out) | exact HB.out)) hb); clear BK178; clear BK189; clear HB; have BK178 := n0_; have BK189 := n1_; have HB := n2_; clear n0_ n1_ n2_; (try clear hb); (try clear hb2); (try clear hk); (try clear hi)) | ((with_reducible refine gate_callee (f := 12) rfl ?_); refine goesL_ (some 30) rfl rfl Try.func12 (by kernel_rfl) rfl #[.agg #[.int .i64 t190, .int .i64 t191, .string t192], .agg #[.int .i64 t193, .int .i64 t194, .string t195]] rfl (by (try simp only [List.map_toArray, List.map_cons, List.map_nil]); first | done | rfl | (simp only [List.length_drop, List.length_take]; rfl)) ?_; (with_reducible refine (value_Sub.calls k t190 t191 t192 t193 t194 t195 t196 t197 t198 t199 _ A9.out).mono ?_); rintro e w53 ⟨rfl, hb⟩; refine ⟨_, rfl, ?_⟩; have n0_ := Aside0.mk (blk_below (g := gb178) (o := .cells #[.int .i64 t174, .int .i64 t175, .string t176] 23 (0, 0)) (by (with_reducible repeat (first | refine blk_drewN ?_ _ | refine blk_drew ?_ | refine blk_alloc ?_ _)); exact BK178.out) hb); have n1_ := Aside0.mk (blk_below (g := gb189) (o := .cells #[.int .i64 t185, .int .i64 t186, .string t187] 23 (0, 0)) (by (with_reducible repeat (first | refine blk_drewN ?_ _ | refine blk_drew ?_ | refine blk_alloc ?_ _)); exact BK189.out) hb); have n2_ := Aside0.mk (below_step (by repeat (first | (with_reducible first | exact HB.out | apply below_alloc | apply pw_below_drewN | apply below_drew1 | refine below_set ?_ GE178.out | refine below_set ?_ GE189.out) | exact HB.out)) hb); clear BK178; clear BK189; clear HB; have BK178 := n0_; have BK189 := n1_; have HB := n2_; clear n0_ n1_ n2_; (try clear hb); (try clear hb2); (try clear hk); (try clear hi)) | ((with_reducible refine gate_dst (N := 5) rfl ?_); (try (refine gate_guard (by rfl) ?_; dsimp only)); refine box_event ?hg (N := 5) ?hd (cs := #[.int .i64 0, .int .i64 0, .string (⟨#[]⟩ : ByteArray)]) (t := 23) ?hr ?_; (case hd => rfl); (case hg => rfl); (case hr => first | (go_simp; done) | (go_simp; rfl)); intro gb200 hg w54 hbox hb; have n0_ := Aside0.mk (blk_below (g := gb178) (o := .cells #[.int .i64 t174, .int .i64 t175, .string t176] 23 (0, 0)) (by (with_reducible repeat (first | refine blk_drewN ?_ _ | refine blk_drew ?_ | refine blk_alloc ?_ _)); exact BK178.out) hb); have n1_ := Aside0.mk (blk_below (g := gb189) (o := .cells #[.int .i64 t185, .int .i64 t186, .string t187] 23 (0, 0)) (by (with_reducible repeat (first | refine blk_drewN ?_ _ | refine blk_drew ?_ | refine blk_alloc ?_ _)); exact BK189.out) hb); have n2_ := Aside0.mk (below_step (by repeat (first | (with_reducible first | exact HB.out | apply below_alloc | apply pw_below_drewN | apply below_drew1 | refine below_set ?_ GE178.out | refine below_set ?_ GE189.out) | exact HB.out)) hb); have n3_ := Aside0.mk (hbox); have n4_ := Aside0.mk ((by rw [hg]; exact (below_size (by repeat (first | (with_reducible first | exact HB.out | apply below_alloc | apply pw_below_drewN | apply below_drew1 | refine below_set ?_ GE178.out | refine below_set ?_ GE189.out) | exact HB.out))) : w.heap.size ≤ gb200)); have n5_ := Aside0.mk ((by rw [hg]; exact (below_size (by repeat (first | (with_reducible first | exact HB.out | apply below_alloc | apply pw_below_drewN | apply below_drew1 | refine below_set ?_ GE178.out | refine below_set ?_ GE189.out) | exact HB.out))) : w.heap.size ≤ gb200)); have n6_ := Aside0.mk ((by rw [hg]; exact Nat.ne_of_lt (blk_lt (g := gb178) (o := .cells #[.int .i64 t174, .int .i64 t175, .string t176] 23 (0, 0)) (by (with_reducible repeat (first | refine blk_drewN ?_ _ | refine blk_drew ?_ | refine blk_alloc ?_ _)); exact BK178.out)) : gb178 ≠ gb200)); have n7_ := Aside0.mk ((by rw [hg]; exact Nat.ne_of_gt (blk_lt (g := gb178) (o := .cells #[.int .i64 t174, .int .i64 t175, .string t176] 23 (0, 0)) (by (with_reducible repeat (first | refine blk_drewN ?_ _ | refine blk_drew ?_ | refine blk_alloc ?_ _)); exact BK178.out)) : gb200 ≠ gb178)); have n8_ := Aside0.mk ((by rw [hg]; exact Nat.ne_of_lt (blk_lt (g := gb189) (o := .cells #[.int .i64 t185, .int .i64 t186, .string t187] 23 (0, 0)) (by (with_reducible repeat (first | refine blk_drewN ?_ _ | refine blk_drew ?_ | refine blk_alloc ?_ _)); exact BK189.out)) : gb189 ≠ gb200)); have n9_ := Aside0.mk ((by rw [hg]; exact Nat.ne_of_gt (blk_lt (g := gb189) (o := .cells #[.int .i64 t185, .int .i64 t186, .string t187] 23 (0, 0)) (by (with_reducible repeat (first | refine blk_drewN ?_ _ | refine blk_drew ?_ | refine blk_alloc ?_ _)); exact BK189.out)) : gb200 ≠ gb189)); clear BK178; clear BK189; clear HB; have BK178 := n0_; have BK189 := n1_; have HB := n2_; have BK200 := n3_; have GW200 := n4_; have GE200 := n5_; have NB178_200 := n6_; have NB200_178 := n7_; have NB189_200 := n8_; have NB200_189 := n9_; clear n0_ n1_ n2_ n3_ n4_ n5_ n6_ n7_ n8_ n9_; clear hb hbox hg; have hnb55 := NB200_178.out; have hnc55 := NB178_200.out; have hnb56 := NB200_189.out; have hnc56 := NB189_200.out; have hcz57_0 : w54.cell? ⟨gb200, 0, none⟩ = some (.int .i64 0) := (blk_cell BK200.out 0).trans rfl; have hcz57_1 : w54.cell? ⟨gb200, 1, none⟩ = some (.int .i64 0) := (blk_cell BK200.out 1).trans rfl; have hcz57_2 : w54.cell? ⟨gb200, 2, none⟩ = some (.string (⟨#[]⟩ : ByteArray)) := (blk_cell BK200.out 2).trans rfl; have hfz57_0 := blk_frozen BK200.out 0; have hfz57_1 := blk_frozen BK200.out 1; have hfz57_2 := blk_frozen BK200.out 2) | ((with_reducible refine gate_callee (f := 23) rfl ?_); refine goesL_ (some 34) rfl rfl Try.func23 (by kernel_rfl) rfl #[.string (⟨#[97]⟩ : ByteArray)] rfl (by (try simp only [List.map_toArray, List.map_cons, List.map_nil]); first | done | rfl | (simp only [List.length_drop, List.length_take]; rfl)) ?_; (with_reducible refine (augurylaw04_text.calls (⟨#[97]⟩ : ByteArray) t201 t202 t203 _ A10.out).mono ?_); rintro e w58 ⟨rfl, hb⟩; refine ⟨_, rfl, ?_⟩; have n0_ := Aside0.mk (blk_below (g := gb178) (o := .cells #[.int .i64 t174, .int .i64 t175, .string t176] 23 (0, 0)) (by (with_reducible repeat (first | refine blk_drewN ?_ _ | refine blk_drew ?_ | refine blk_alloc ?_ _)); refine blk_far ?_ NB178_200.out _; (with_reducible repeat (first | refine blk_drewN ?_ _ | refine blk_drew ?_ | refine blk_alloc ?_ _)); refine blk_far ?_ NB178_200.out _; (with_reducible repeat (first | refine blk_drewN ?_ _ | refine blk_drew ?_ | refine blk_alloc ?_ _)); refine blk_far ?_ NB178_200.out _; (with_reducible repeat (first | refine blk_drewN ?_ _ | refine blk_drew ?_ | refine blk_alloc ?_ _)); exact BK178.out) hb); have n1_ := Aside0.mk (blk_below (g := gb189) (o := .cells #[.int .i64 t185, .int .i64 t186, .string t187] 23 (0, 0)) (by (with_reducible repeat (first | refine blk_drewN ?_ _ | refine blk_drew ?_ | refine blk_alloc ?_ _)); refine blk_far ?_ NB189_200.out _; (with_reducible repeat (first | refine blk_drewN ?_ _ | refine blk_drew ?_ | refine blk_alloc ?_ _)); refine blk_far ?_ NB189_200.out _; (with_reducible repeat (first | refine blk_drewN ?_ _ | refine blk_drew ?_ | refine blk_alloc ?_ _)); refine blk_far ?_ NB189_200.out _; (with_reducible repeat (first | refine blk_drewN ?_ _ | refine blk_drew ?_ | refine blk_alloc ?_ _)); exact BK189.out) hb); have n2_ := Aside0.mk (blk_below (g := gb200) (o := .cells #[.int .i64 t196, .int .i64 t197, .string t198] 23 (0, 0)) (by (with_reducible repeat (first | refine blk_drewN ?_ _ | refine blk_drew ?_ | refine blk_alloc ?_ _)); refine blk_put (cs := #[.int .i64 t196, .int .i64 t197, .string (⟨#[]⟩ : ByteArray)]) ?_ 2 _ rfl; (with_reducible repeat (first | refine blk_drewN ?_ _ | refine blk_drew ?_ | refine blk_alloc ?_ _)); refine blk_put (cs := #[.int .i64 t196, .int .i64 0, .string (⟨#[]⟩ : ByteArray)]) ?_ 1 _ rfl; (with_reducible repeat (first | refine blk_drewN ?_ _ | refine blk_drew ?_ | refine blk_alloc ?_ _)); refine blk_put (cs := #[.int .i64 0, .int .i64 0, .string (⟨#[]⟩ : ByteArray)]) ?_ 0 _ rfl; (with_reducible repeat (first | refine blk_drewN ?_ _ | refine blk_drew ?_ | refine blk_alloc ?_ _)); exact BK200.out) hb); have n3_ := Aside0.mk (below_step (by repeat (first | (with_reducible first | exact HB.out | apply below_alloc | apply pw_below_drewN | apply below_drew1 | refine below_set ?_ GE178.out | refine below_set ?_ GE189.out | refine below_set ?_ GE200.out) | exact HB.out)) hb); clear BK178; clear BK189; clear BK200; clear HB; have BK178 := n0_; have BK189 := n1_; have BK200 := n2_; have HB := n3_; clear n0_ n1_ n2_ n3_; (try clear hb); (try clear hb2); (try clear hk); (try clear hi)) | ((with_reducible refine gate_callee (f := 23) rfl ?_); refine goesL_ (some 35) rfl rfl Try.func23 (by kernel_rfl) rfl #[.string (⟨#[97, 98]⟩ : ByteArray)] rfl (by (try simp only [List.map_toArray, List.map_cons, List.map_nil]); first | done | rfl | (simp only [List.length_drop, List.length_take]; rfl)) ?_; (with_reducible refine (augurylaw04_text.calls (⟨#[97, 98]⟩ : ByteArray) t204 t205 t206 _ A11.out).mono ?_); rintro e w59 ⟨rfl, hb⟩; refine ⟨_, rfl, ?_⟩; have n0_ := Aside0.mk (blk_below (g := gb178) (o := .cells #[.int .i64 t174, .int .i64 t175, .string t176] 23 (0, 0)) (by (with_reducible repeat (first | refine blk_drewN ?_ _ | refine blk_drew ?_ | refine blk_alloc ?_ _)); exact BK178.out) hb); have n1_ := Aside0.mk (blk_below (g := gb189) (o := .cells #[.int .i64 t185, .int .i64 t186, .string t187] 23 (0, 0)) (by (with_reducible repeat (first | refine blk_drewN ?_ _ | refine blk_drew ?_ | refine blk_alloc ?_ _)); exact BK189.out) hb); have n2_ := Aside0.mk (blk_below (g := gb200) (o := .cells #[.int .i64 t196, .int .i64 t197, .string t198] 23 (0, 0)) (by (with_reducible repeat (first | refine blk_drewN ?_ _ | refine blk_drew ?_ | refine blk_alloc ?_ _)); exact BK200.out) hb); have n3_ := Aside0.mk (below_step (by repeat (first | (with_reducible first | exact HB.out | apply below_alloc | apply pw_below_drewN | apply below_drew1 | refine below_set ?_ GE178.out | refine below_set ?_ GE189.out | refine below_set ?_ GE200.out) | exact HB.out)) hb); clear BK178; clear BK189; clear BK200; clear HB; have BK178 := n0_; have BK189 := n1_; have BK200 := n2_; have HB := n3_; clear n0_ n1_ n2_ n3_; (try clear hb); (try clear hb2); (try clear hk); (try clear hi)) | ((with_reducible refine gate_callee (f := 14) rfl ?_); refine goesL_ (some 36) rfl rfl Try.func14 (by kernel_rfl) rfl #[.int .i64 3, .agg #[.int .i64 t201, .int .i64 t202, .string t203], .agg #[.int .i64 t204, .int .i64 t205, .string t206]] rfl (by (try simp only [List.map_toArray, List.map_cons, List.map_nil]); first | done | rfl | (simp only [List.length_drop, List.length_take]; rfl)) ?_; (with_reducible refine (value_Compare.calls 3 t201 t202 t203 t204 t205 t206 true t208 _ A12.out).mono ?_); rintro e w60 ⟨rfl, hb⟩; refine ⟨_, rfl, ?_⟩; have n0_ := Aside0.mk (blk_below (g := gb178) (o := .cells #[.int .i64 t174, .int .i64 t175, .string t176] 23 (0, 0)) (by (with_reducible repeat (first | refine blk_drewN ?_ _ | refine blk_drew ?_ | refine blk_alloc ?_ _)); exact BK178.out) hb); have n1_ := Aside0.mk (blk_below (g := gb189) (o := .cells #[.int .i64 t185, .int .i64 t186, .string t187] 23 (0, 0)) (by (with_reducible repeat (first | refine blk_drewN ?_ _ | refine blk_drew ?_ | refine blk_alloc ?_ _)); exact BK189.out) hb); have n2_ := Aside0.mk (blk_below (g := gb200) (o := .cells #[.int .i64 t196, .int .i64 t197, .string t198] 23 (0, 0)) (by (with_reducible repeat (first | refine blk_drewN ?_ _ | refine blk_drew ?_ | refine blk_alloc ?_ _)); exact BK200.out) hb); have n3_ := Aside0.mk (below_step (by repeat (first | (with_reducible first | exact HB.out | apply below_alloc | apply pw_below_drewN | apply below_drew1 | refine below_set ?_ GE178.out | refine below_set ?_ GE189.out | refine below_set ?_ GE200.out) | exact HB.out)) hb); clear BK178; clear BK189; clear BK200; clear HB; have BK178 := n0_; have BK189 := n1_; have BK200 := n2_; have HB := n3_; clear n0_ n1_ n2_ n3_; (try clear hb); (try clear hb2); (try clear hk); (try clear hi)) | ((with_reducible refine gate_callee (f := 22) rfl ?_); refine goesL_ (some 40) rfl rfl Try.func22 (by kernel_rfl) rfl #[.int .i64 1] rfl (by (try simp only [List.map_toArray, List.map_cons, List.map_nil]); first | done | rfl | (simp only [List.length_drop, List.length_take]; rfl)) ?_; (with_reducible refine (augurylaw04_num.calls 1 t209 t210 t211 _ A13.out).mono ?_); rintro e w61 ⟨rfl, hb⟩; refine ⟨_, rfl, ?_⟩; have n0_ := Aside0.mk (blk_below (g := gb178) (o := .cells #[.int .i64 t174, .int .i64 t175, .string t176] 23 (0, 0)) (by (with_reducible repeat (first | refine blk_drewN ?_ _ | refine blk_drew ?_ | refine blk_alloc ?_ _)); exact BK178.out) hb); have n1_ := Aside0.mk (blk_below (g := gb189) (o := .cells #[.int .i64 t185, .int .i64 t186, .string t187] 23 (0, 0)) (by (with_reducible repeat (first | refine blk_drewN ?_ _ | refine blk_drew ?_ | refine blk_alloc ?_ _)); exact BK189.out) hb); have n2_ := Aside0.mk (blk_below (g := gb200) (o := .cells #[.int .i64 t196, .int .i64 t197, .string t198] 23 (0, 0)) (by (with_reducible repeat (first | refine blk_drewN ?_ _ | refine blk_drew ?_ | refine blk_alloc ?_ _)); exact BK200.out) hb); have n3_ := Aside0.mk (below_step (by repeat (first | (with_reducible first | exact HB.out | apply below_alloc | apply pw_below_drewN | apply below_drew1 | refine below_set ?_ GE178.out | refine below_set ?_ GE189.out | refine below_set ?_ GE200.out) | exact HB.out)) hb); clear BK178; clear BK189; clear BK200; clear HB; have BK178 := n0_; have BK189 := n1_; have BK200 := n2_; have HB := n3_; clear n0_ n1_ n2_ n3_; (try clear hb); (try clear hb2); (try clear hk); (try clear hi)) | ((with_reducible refine gate_callee (f := 23) rfl ?_); refine goesL_ (some 41) rfl rfl Try.func23 (by kernel_rfl) rfl #[.string (⟨#[97, 98]⟩ : ByteArray)] rfl (by (try simp only [List.map_toArray, List.map_cons, List.map_nil]); first | done | rfl | (simp only [List.length_drop, List.length_take]; rfl)) ?_; (with_reducible refine (augurylaw04_text.calls (⟨#[97, 98]⟩ : ByteArray) t212 t213 t214 _ A14.out).mono ?_); rintro e w62 ⟨rfl, hb⟩; refine ⟨_, rfl, ?_⟩; have n0_ := Aside0.mk (blk_below (g := gb178) (o := .cells #[.int .i64 t174, .int .i64 t175, .string t176] 23 (0, 0)) (by (with_reducible repeat (first | refine blk_drewN ?_ _ | refine blk_drew ?_ | refine blk_alloc ?_ _)); exact BK178.out) hb); have n1_ := Aside0.mk (blk_below (g := gb189) (o := .cells #[.int .i64 t185, .int .i64 t186, .string t187] 23 (0, 0)) (by (with_reducible repeat (first | refine blk_drewN ?_ _ | refine blk_drew ?_ | refine blk_alloc ?_ _)); exact BK189.out) hb); have n2_ := Aside0.mk (blk_below (g := gb200) (o := .cells #[.int .i64 t196, .int .i64 t197, .string t198] 23 (0, 0)) (by (with_reducible repeat (first | refine blk_drewN ?_ _ | refine blk_drew ?_ | refine blk_alloc ?_ _)); exact BK200.out) hb); have n3_ := Aside0.mk (below_step (by repeat (first | (with_reducible first | exact HB.out | apply below_alloc | apply pw_below_drewN | apply below_drew1 | refine below_set ?_ GE178.out | refine below_set ?_ GE189.out | refine below_set ?_ GE200.out) | exact HB.out)) hb); clear BK178; clear BK189; clear BK200; clear HB; have BK178 := n0_; have BK189 := n1_; have BK200 := n2_; have HB := n3_; clear n0_ n1_ n2_ n3_; (try clear hb); (try clear hb2); (try clear hk); (try clear hi)) | ((with_reducible refine gate_callee (f := 14) rfl ?_); refine goesL_ (some 42) rfl rfl Try.func14 (by kernel_rfl) rfl #[.int .i64 3, .agg #[.int .i64 t209, .int .i64 t210, .string t211], .agg #[.int .i64 t212, .int .i64 t213, .string t214]] rfl (by (try simp only [List.map_toArray, List.map_cons, List.map_nil]); first | done | rfl | (simp only [List.length_drop, List.length_take]; rfl)) ?_; (with_reducible refine (value_Compare.calls 3 t209 t210 t211 t212 t213 t214 t215 t216 _ A15.out).mono ?_); rintro e w63 ⟨rfl, hb⟩; refine ⟨_, rfl, ?_⟩; have n0_ := Aside0.mk (blk_below (g := gb178) (o := .cells #[.int .i64 t174, .int .i64 t175, .string t176] 23 (0, 0)) (by (with_reducible repeat (first | refine blk_drewN ?_ _ | refine blk_drew ?_ | refine blk_alloc ?_ _)); exact BK178.out) hb); have n1_ := Aside0.mk (blk_below (g := gb189) (o := .cells #[.int .i64 t185, .int .i64 t186, .string t187] 23 (0, 0)) (by (with_reducible repeat (first | refine blk_drewN ?_ _ | refine blk_drew ?_ | refine blk_alloc ?_ _)); exact BK189.out) hb); have n2_ := Aside0.mk (blk_below (g := gb200) (o := .cells #[.int .i64 t196, .int .i64 t197, .string t198] 23 (0, 0)) (by (with_reducible repeat (first | refine blk_drewN ?_ _ | refine blk_drew ?_ | refine blk_alloc ?_ _)); exact BK200.out) hb); have n3_ := Aside0.mk (below_step (by repeat (first | (with_reducible first | exact HB.out | apply below_alloc | apply pw_below_drewN | apply below_drew1 | refine below_set ?_ GE178.out | refine below_set ?_ GE189.out | refine below_set ?_ GE200.out) | exact HB.out)) hb); clear BK178; clear BK189; clear BK200; clear HB; have BK178 := n0_; have BK189 := n1_; have BK200 := n2_; have HB := n3_; clear n0_ n1_ n2_ n3_; (try clear hb); (try clear hb2); (try clear hk); (try clear hi)) | ((with_reducible refine gate_dst (N := 46) rfl ?_); (try (refine gate_guard (by rfl) ?_; dsimp only)); refine Kd.R_lit (Kd.int .u8) _ 5 ?hg (N := 46) ?hd (xs := ([1, 1, 9] : List Int)) (inner := [.int .u8 1, .int .u8 1, .int .u8 9]) (ok := fun _ => True) (okp := fun _ => True) ?hr ?hp (fun _ hk => hk) trivial (Below.refl _ _) (Nat.le_refl _) (by simp) ?_; (case hd => rfl); (case hg => rfl); (case hr => first | (go_simp; done) | (go_simp; rfl)); (case hp => exact (Reps.one (show Kd.M (Kd.int .u8) _ _ _ 1 [.int .u8 1] from rfl) (Reps.one (show Kd.M (Kd.int .u8) _ _ _ 1 [.int .u8 1] from rfl) (Reps.one (show Kd.M (Kd.int .u8) _ _ _ 9 [.int .u8 9] from rfl) (Reps.none _ _))))); intro v218 w64 ho65 hb hg_ hnew_; clear hg_ hnew_; (first | rw [← Ny217.out] at ho65 | (simp only [Int.reduceToNat] at ho65; rw [← Ny217.out] at ho65)); have n0_ := Aside0.mk (Kd.R_lower ho65 (below_size (by repeat (first | (with_reducible first | exact HB.out | apply below_alloc | apply pw_below_drewN | apply below_drew1 | refine below_set ?_ GE178.out | refine below_set ?_ GE189.out | refine below_set ?_ GE200.out) | exact HB.out)))); have n1_ := Aside0.mk (blk_below (g := gb178) (o := .cells #[.int .i64 t174, .int .i64 t175, .string t176] 23 (0, 0)) (by (with_reducible repeat (first | refine blk_drewN ?_ _ | refine blk_drew ?_ | refine blk_alloc ?_ _)); exact BK178.out) hb); have n2_ := Aside0.mk (blk_below (g := gb189) (o := .cells #[.int .i64 t185, .int .i64 t186, .string t187] 23 (0, 0)) (by (with_reducible repeat (first | refine blk_drewN ?_ _ | refine blk_drew ?_ | refine blk_alloc ?_ _)); exact BK189.out) hb); have n3_ := Aside0.mk (blk_below (g := gb200) (o := .cells #[.int .i64 t196, .int .i64 t197, .string t198] 23 (0, 0)) (by (with_reducible repeat (first | refine blk_drewN ?_ _ | refine blk_drew ?_ | refine blk_alloc ?_ _)); exact BK200.out) hb); have n4_ := Aside0.mk (below_step (by repeat (first | (with_reducible first | exact HB.out | apply below_alloc | apply pw_below_drewN | apply below_drew1 | refine below_set ?_ GE178.out | refine below_set ?_ GE189.out | refine below_set ?_ GE200.out) | exact HB.out)) hb); clear BK178; clear BK189; clear BK200; clear HB; have HO219 := n0_; have BK178 := n1_; have BK189 := n2_; have BK200 := n3_; have HB := n4_; clear n0_ n1_ n2_ n3_ n4_; clear hb ho65; obtain ⟨Ao66, co66, eo66⟩ := Kd.R_slice HO219.out; subst eo66) | ((with_reducible refine gate_callee (f := 20) rfl ?_); refine goesL_ (some 47) rfl rfl Try.func20 (by kernel_rfl) rfl #[.slice Ao66 y217.length co66] rfl (by (try simp only [List.map_toArray, List.map_cons, List.map_nil]); first | done | rfl | (simp only [List.length_drop, List.length_take]; rfl)) ?_; (with_reducible refine (value_Get.calls k _ _ y217 t220 t221 t222 t223 true _ ?side1 ?side2 A16.out).mono ?_); (case side1 => repeat (first | exact (Kd.R_reads' HO219.out).2.2 | (with_reducible refine Kd.C_alloc ?_ _) | (with_reducible refine Kd.C_drewN ?_ _) | (with_reducible refine Kd.C_drew ?_))); (case side2 => exact (Kd.R_reads' HO219.out).2.1); rintro e w67 ⟨rfl, hb⟩; refine ⟨_, rfl, ?_⟩; have n0_ := Aside0.mk (Kd.R_below (by (with_reducible repeat (first | apply Kd.R_alloc | apply Kd.R_drewN | apply Kd.R_drew)); exact HO219.out) hb); have n1_ := Aside0.mk (blk_below (g := gb178) (o := .cells #[.int .i64 t174, .int .i64 t175, .string t176] 23 (0, 0)) (by (with_reducible repeat (first | refine blk_drewN ?_ _ | refine blk_drew ?_ | refine blk_alloc ?_ _)); exact BK178.out) hb); have n2_ := Aside0.mk (blk_below (g := gb189) (o := .cells #[.int .i64 t185, .int .i64 t186, .string t187] 23 (0, 0)) (by (with_reducible repeat (first | refine blk_drewN ?_ _ | refine blk_drew ?_ | refine blk_alloc ?_ _)); exact BK189.out) hb); have n3_ := Aside0.mk (blk_below (g := gb200) (o := .cells #[.int .i64 t196, .int .i64 t197, .string t198] 23 (0, 0)) (by (with_reducible repeat (first | refine blk_drewN ?_ _ | refine blk_drew ?_ | refine blk_alloc ?_ _)); exact BK200.out) hb); have n4_ := Aside0.mk (below_step (by repeat (first | (with_reducible first | exact HB.out | apply below_alloc | apply pw_below_drewN | apply below_drew1 | refine below_set ?_ GE178.out | refine below_set ?_ GE189.out | refine below_set ?_ GE200.out) | exact HB.out)) hb); clear HO219; clear BK178; clear BK189; clear BK200; clear HB; have HO219 := n0_; have BK178 := n1_; have BK189 := n2_; have BK200 := n3_; have HB := n4_; clear n0_ n1_ n2_ n3_ n4_; (try clear hb); (try clear hb2); (try clear hk); (try clear hi)) | ((with_reducible refine gate_dst (N := 11) rfl ?_); (try (refine gate_guard (by rfl) ?_; dsimp only)); refine box_event ?hg (N := 11) ?hd (cs := #[.int .i64 0, .int .i64 0, .string (⟨#[]⟩ : ByteArray)]) (t := 23) ?hr ?_; (case hd => rfl); (case hg => rfl); (case hr => first | (go_simp; done) | (go_simp; rfl)); intro gb225 hg w68 hbox hb; have n0_ := Aside0.mk (Kd.R_below (by (with_reducible repeat (first | apply Kd.R_alloc | apply Kd.R_drewN | apply Kd.R_drew)); exact HO219.out) hb); have n1_ := Aside0.mk (blk_below (g := gb178) (o := .cells #[.int .i64 t174, .int .i64 t175, .string t176] 23 (0, 0)) (by (with_reducible repeat (first | refine blk_drewN ?_ _ | refine blk_drew ?_ | refine blk_alloc ?_ _)); exact BK178.out) hb); have n2_ := Aside0.mk (blk_below (g := gb189) (o := .cells #[.int .i64 t185, .int .i64 t186, .string t187] 23 (0, 0)) (by (with_reducible repeat (first | refine blk_drewN ?_ _ | refine blk_drew ?_ | refine blk_alloc ?_ _)); exact BK189.out) hb); have n3_ := Aside0.mk (blk_below (g := gb200) (o := .cells #[.int .i64 t196, .int .i64 t197, .string t198] 23 (0, 0)) (by (with_reducible repeat (first | refine blk_drewN ?_ _ | refine blk_drew ?_ | refine blk_alloc ?_ _)); exact BK200.out) hb); have n4_ := Aside0.mk (below_step (by repeat (first | (with_reducible first | exact HB.out | apply below_alloc | apply pw_below_drewN | apply below_drew1 | refine below_set ?_ GE178.out | refine below_set ?_ GE189.out | refine below_set ?_ GE200.out) | exact HB.out)) hb); have n5_ := Aside0.mk (hbox); have n6_ := Aside0.mk ((by rw [hg]; exact (below_size (by repeat (first | (with_reducible first | exact HB.out | apply below_alloc | apply pw_below_drewN | apply below_drew1 | refine below_set ?_ GE178.out | refine below_set ?_ GE189.out | refine below_set ?_ GE200.out) | exact HB.out))) : w.heap.size ≤ gb225)); have n7_ := Aside0.mk ((by rw [hg]; exact (below_size (by repeat (first | (with_reducible first | exact HB.out | apply below_alloc | apply pw_below_drewN | apply below_drew1 | refine below_set ?_ GE178.out | refine below_set ?_ GE189.out | refine below_set ?_ GE200.out) | exact HB.out))) : w.heap.size ≤ gb225)); have n8_ := Aside0.mk ((by rw [hg]; exact Nat.ne_of_lt (blk_lt (g := gb178) (o := .cells #[.int .i64 t174, .int .i64 t175, .string t176] 23 (0, 0)) (by (with_reducible repeat (first | refine blk_drewN ?_ _ | refine blk_drew ?_ | refine blk_alloc ?_ _)); exact BK178.out)) : gb178 ≠ gb225)); have n9_ := Aside0.mk ((by rw [hg]; exact Nat.ne_of_gt (blk_lt (g := gb178) (o := .cells #[.int .i64 t174, .int .i64 t175, .string t176] 23 (0, 0)) (by (with_reducible repeat (first | refine blk_drewN ?_ _ | refine blk_drew ?_ | refine blk_alloc ?_ _)); exact BK178.out)) : gb225 ≠ gb178)); have n10_ := Aside0.mk ((by rw [hg]; exact Nat.ne_of_lt (blk_lt (g := gb189) (o := .cells #[.int .i64 t185, .int .i64 t186, .string t187] 23 (0, 0)) (by (with_reducible repeat (first | refine blk_drewN ?_ _ | refine blk_drew ?_ | refine blk_alloc ?_ _)); exact BK189.out)) : gb189 ≠ gb225)); have n11_ := Aside0.mk ((by rw [hg]; exact Nat.ne_of_gt (blk_lt (g := gb189) (o := .cells #[.int .i64 t185, .int .i64 t186, .string t187] 23 (0, 0)) (by (with_reducible repeat (first | refine blk_drewN ?_ _ | refine blk_drew ?_ | refine blk_alloc ?_ _)); exact BK189.out)) : gb225 ≠ gb189)); have n12_ := Aside0.mk ((by rw [hg]; exact Nat.ne_of_lt (blk_lt (g := gb200) (o := .cells #[.int .i64 t196, .int .i64 t197, .string t198] 23 (0, 0)) (by (with_reducible repeat (first | refine blk_drewN ?_ _ | refine blk_drew ?_ | refine blk_alloc ?_ _)); exact BK200.out)) : gb200 ≠ gb225)); have n13_ := Aside0.mk ((by rw [hg]; exact Nat.ne_of_gt (blk_lt (g := gb200) (o := .cells #[.int .i64 t196, .int .i64 t197, .string t198] 23 (0, 0)) (by (with_reducible repeat (first | refine blk_drewN ?_ _ | refine blk_drew ?_ | refine blk_alloc ?_ _)); exact BK200.out)) : gb225 ≠ gb200)); clear HO219; clear BK178; clear BK189; clear BK200; clear HB; have HO219 := n0_; have BK178 := n1_; have BK189 := n2_; have BK200 := n3_; have HB := n4_; have BK225 := n5_; have GW225 := n6_; have GE225 := n7_; have NB178_225 := n8_; have NB225_178 := n9_; have NB189_225 := n10_; have NB225_189 := n11_; have NB200_225 := n12_; have NB225_200 := n13_; clear n0_ n1_ n2_ n3_ n4_ n5_ n6_ n7_ n8_ n9_ n10_ n11_ n12_ n13_; clear hb hbox hg; have hnb69 := NB225_178.out; have hnc69 := NB178_225.out; have hnb70 := NB225_189.out; have hnc70 := NB189_225.out; have hnb71 := NB225_200.out; have hnc71 := NB200_225.out; have hcz72_0 : w68.cell? ⟨gb225, 0, none⟩ = some (.int .i64 0) := (blk_cell BK225.out 0).trans rfl; have hcz72_1 : w68.cell? ⟨gb225, 1, none⟩ = some (.int .i64 0) := (blk_cell BK225.out 1).trans rfl; have hcz72_2 : w68.cell? ⟨gb225, 2, none⟩ = some (.string (⟨#[]⟩ : ByteArray)) := (blk_cell BK225.out 2).trans rfl; have hfz72_0 := blk_frozen BK225.out 0; have hfz72_1 := blk_frozen BK225.out 1; have hfz72_2 := blk_frozen BK225.out 2) | ((with_reducible refine gate_callee (f := 22) rfl ?_); refine goesL_ (some 51) rfl rfl Try.func22 (by kernel_rfl) rfl #[.int .i64 (-1)] rfl (by (try simp only [List.map_toArray, List.map_cons, List.map_nil]); first | done | rfl | (simp only [List.length_drop, List.length_take]; rfl)) ?_; (with_reducible refine (augurylaw04_num.calls (-1) t226 t227 t228 _ A17.out).mono ?_); rintro e w73 ⟨rfl, hb⟩; refine ⟨_, rfl, ?_⟩; have n0_ := Aside0.mk (Kd.R_below (by (with_reducible repeat (first | apply Kd.R_alloc | apply Kd.R_drewN | apply Kd.R_drew)); exact (Kd.R_mono (Kd.R_far (p := ⟨gb225, 2, none⟩) (Kd.R_far (p := ⟨gb225, 1, none⟩) (Kd.R_far (p := ⟨gb225, 0, none⟩) (Kd.R_types HO219.out BK225.out (by decide)) (fun _ hk => hk.2) (.int .i64 t220)) (fun _ hk => hk.2) (.int .i64 t221)) (fun _ hk => hk.2) (.string t222)) (fun _ h_ => h_.1))) hb); have n1_ := Aside0.mk (blk_below (g := gb178) (o := .cells #[.int .i64 t174, .int .i64 t175, .string t176] 23 (0, 0)) (by (with_reducible repeat (first | refine blk_drewN ?_ _ | refine blk_drew ?_ | refine blk_alloc ?_ _)); refine blk_far ?_ NB178_225.out _; (with_reducible repeat (first | refine blk_drewN ?_ _ | refine blk_drew ?_ | refine blk_alloc ?_ _)); refine blk_far ?_ NB178_225.out _; (with_reducible repeat (first | refine blk_drewN ?_ _ | refine blk_drew ?_ | refine blk_alloc ?_ _)); refine blk_far ?_ NB178_225.out _; (with_reducible repeat (first | refine blk_drewN ?_ _ | refine blk_drew ?_ | refine blk_alloc ?_ _)); exact BK178.out) hb); have n2_ := Aside0.mk (blk_below (g := gb189) (o := .cells #[.int .i64 t185, .int .i64 t186, .string t187] 23 (0, 0)) (by (with_reducible repeat (first | refine blk_drewN ?_ _ | refine blk_drew ?_ | refine blk_alloc ?_ _)); refine blk_far ?_ NB189_225.out _; (with_reducible repeat (first | refine blk_drewN ?_ _ | refine blk_drew ?_ | refine blk_alloc ?_ _)); refine blk_far ?_ NB189_225.out _; (with_reducible repeat (first | refine blk_drewN ?_ _ | refine blk_drew ?_ | refine blk_alloc ?_ _)); refine blk_far ?_ NB189_225.out _; (with_reducible repeat (first | refine blk_drewN ?_ _ | refine blk_drew ?_ | refine blk_alloc ?_ _)); exact BK189.out) hb); have n3_ := Aside0.mk (blk_below (g := gb200) (o := .cells #[.int .i64 t196, .int .i64 t197, .string t198] 23 (0, 0)) (by (with_reducible repeat (first | refine blk_drewN ?_ _ | refine blk_drew ?_ | refine blk_alloc ?_ _)); refine blk_far ?_ NB200_225.out _; (with_reducible repeat (first | refine blk_drewN ?_ _ | refine blk_drew ?_ | refine blk_alloc ?_ _)); refine blk_far ?_ NB200_225.out _; (with_reducible repeat (first | refine blk_drewN ?_ _ | refine blk_drew ?_ | refine blk_alloc ?_ _)); refine blk_far ?_ NB200_225.out _; (with_reducible repeat (first | refine blk_drewN ?_ _ | refine blk_drew ?_ | refine blk_alloc ?_ _)); exact BK200.out) hb); have n4_ := Aside0.mk (blk_below (g := gb225) (o := .cells #[.int .i64 t220, .int .i64 t221, .string t222] 23 (0, 0)) (by (with_reducible repeat (first | refine blk_drewN ?_ _ | refine blk_drew ?_ | refine blk_alloc ?_ _)); refine blk_put (cs := #[.int .i64 t220, .int .i64 t221, .string (⟨#[]⟩ : ByteArray)]) ?_ 2 _ rfl; (with_reducible repeat (first | refine blk_drewN ?_ _ | refine blk_drew ?_ | refine blk_alloc ?_ _)); refine blk_put (cs := #[.int .i64 t220, .int .i64 0, .string (⟨#[]⟩ : ByteArray)]) ?_ 1 _ rfl; (with_reducible repeat (first | refine blk_drewN ?_ _ | refine blk_drew ?_ | refine blk_alloc ?_ _)); refine blk_put (cs := #[.int .i64 0, .int .i64 0, .string (⟨#[]⟩ : ByteArray)]) ?_ 0 _ rfl; (with_reducible repeat (first | refine blk_drewN ?_ _ | refine blk_drew ?_ | refine blk_alloc ?_ _)); exact BK225.out) hb); have n5_ := Aside0.mk (below_step (by repeat (first | (with_reducible first | exact HB.out | apply below_alloc | apply pw_below_drewN | apply below_drew1 | refine below_set ?_ GE178.out | refine below_set ?_ GE189.out | refine below_set ?_ GE200.out | refine below_set ?_ GE225.out) | exact HB.out)) hb); clear HO219; clear BK178; clear BK189; clear BK200; clear BK225; clear HB; have HO219 := n0_; have BK178 := n1_; have BK189 := n2_; have BK200 := n3_; have BK225 := n4_; have HB := n5_; clear n0_ n1_ n2_ n3_ n4_ n5_; (try clear hb); (try clear hb2); (try clear hk); (try clear hi)) | ((with_reducible refine gate_callee (f := 18) rfl ?_); refine goesL_ (some 52) rfl rfl Try.func18 (by kernel_rfl) rfl #[.agg #[.int .i64 t226, .int .i64 t227, .string t228]] rfl (by (try simp only [List.map_toArray, List.map_cons, List.map_nil]); first | done | rfl | (simp only [List.length_drop, List.length_take]; rfl)) ?_; (with_reducible refine (value_Put.calls k t226 t227 t228 t229 _ A18.out).mono ?_); rintro e w74 ⟨v230, rfl, ho0, hb⟩; refine ⟨_, rfl, ?_⟩; have n0_ := Aside0.mk (Kd.R_elder' (by (with_reducible repeat (first | apply Kd.R_alloc | apply Kd.R_drewN | apply Kd.R_drew)); exact HO219.out) (Kd.R_base ho0) hb); have n1_ := Aside0.mk (Kd.R_lower (Kd.R_new' ho0 (Kd.R_lt (by (with_reducible repeat (first | apply Kd.R_alloc | apply Kd.R_drewN | apply Kd.R_drew)); exact HO219.out))) (below_size (by repeat (first | (with_reducible first | exact HB.out | apply below_alloc | apply pw_below_drewN | apply below_drew1 | refine below_set ?_ GE178.out | refine below_set ?_ GE189.out | refine below_set ?_ GE200.out | refine below_set ?_ GE225.out) | exact HB.out)))); have n2_ := Aside0.mk (blk_below (g := gb178) (o := .cells #[.int .i64 t174, .int .i64 t175, .string t176] 23 (0, 0)) (by (with_reducible repeat (first | refine blk_drewN ?_ _ | refine blk_drew ?_ | refine blk_alloc ?_ _)); exact BK178.out) hb); have n3_ := Aside0.mk (blk_below (g := gb189) (o := .cells #[.int .i64 t185, .int .i64 t186, .string t187] 23 (0, 0)) (by (with_reducible repeat (first | refine blk_drewN ?_ _ | refine blk_drew ?_ | refine blk_alloc ?_ _)); exact BK189.out) hb); have n4_ := Aside0.mk (blk_below (g := gb200) (o := .cells #[.int .i64 t196, .int .i64 t197, .string t198] 23 (0, 0)) (by (with_reducible repeat (first | refine blk_drewN ?_ _ | refine blk_drew ?_ | refine blk_alloc ?_ _)); exact BK200.out) hb); have n5_ := Aside0.mk (blk_below (g := gb225) (o := .cells #[.int .i64 t220, .int .i64 t221, .string t222] 23 (0, 0)) (by (with_reducible repeat (first | refine blk_drewN ?_ _ | refine blk_drew ?_ | refine blk_alloc ?_ _)); exact BK225.out) hb); have n6_ := Aside0.mk (below_step (by repeat (first | (with_reducible first | exact HB.out | apply below_alloc | apply pw_below_drewN | apply below_drew1 | refine below_set ?_ GE178.out | refine below_set ?_ GE189.out | refine below_set ?_ GE200.out | refine below_set ?_ GE225.out) | exact HB.out)) hb); clear HO219; clear BK178; clear BK189; clear BK200; clear BK225; clear HB; have HO219 := n0_; have HO231 := n1_; have BK178 := n2_; have BK189 := n3_; have BK200 := n4_; have BK225 := n5_; have HB := n6_; clear n0_ n1_ n2_ n3_ n4_ n5_ n6_; (try clear hb); (try clear hb2); (try clear hk); (try clear hi); (try clear ho0); obtain ⟨Ao75, co75, eo75⟩ := Kd.R_slice HO231.out; subst eo75))
                                    have n0_ := Aside0.mk (Kd.R_drew HO219.out)
                                    have n1_ := Aside0.mk (Kd.R_drew HO231.out)
                                    have n2_ := Aside0.mk (blk_drew BK178.out)
                                    have n3_ := Aside0.mk (blk_drew BK189.out)
                                    have n4_ := Aside0.mk (blk_drew BK200.out)
                                    have n5_ := Aside0.mk (blk_drew BK225.out)
                                    have n6_ := Aside0.mk (below_drew1 HB.out)
                                    clear HO219
                                    clear HO231
                                    clear BK178
                                    clear BK189
                                    clear BK200
                                    clear BK225
                                    clear HB
                                    have HO219 := n0_
                                    have HO231 := n1_
                                    have BK178 := n2_
                                    have BK189 := n3_
                                    have BK200 := n4_
                                    have BK225 := n5_
                                    have HB := n6_
                                    clear n0_ n1_ n2_ n3_ n4_ n5_ n6_
                                    have p238 : 0 ≤ (0 : Int) := (by omega)
                                    have q238 : 0 < (t229.length : Int) := of_decide_eq_true (by first | (with_reducible assumption) | assumption)
                                    obtain ⟨ad238, e238, hx238_0⟩ := Kd.at_int (Kd.R_reads' HO231.out).2.2 0 p238 q238
                                    cases e238
                                    have qi238 : (0 < t229.length) = True := eq_true (by omega)
                                    (try rw [show ((0 : Int)).toNat = 0 from rfl] at hx238_0)
                                    (try rw [Addr.add_zero'] at hx238_0)
                                    replace p238 := eq_true p238
                                    replace q238 := eq_true q238
                                    have p239 : 0 ≤ (1 : Int) := (by omega)
                                    have q239 : 1 < (t229.length : Int) := of_decide_eq_true (by first | (with_reducible assumption) | assumption)
                                    obtain ⟨ad239, e239, hx239_0⟩ := Kd.at_int (Kd.R_reads' HO231.out).2.2 1 p239 q239
                                    obtain rfl : ad238 = ad239 := (by injection e239)
                                    (try simp only [show (1 : Int).toNat = 1 from rfl, Nat.reduceMul, Nat.reduceEqDiff, Go.Addr.add, ↓reduceIte] at hx239_0)
                                    have qi239 : (1 < t229.length) = True := eq_true (by omega)
                                    (try rw [show ((1 : Int)).toNat = 1 from rfl] at hx239_0)
                                    replace p239 := eq_true p239
                                    replace q239 := eq_true q239
                                    refine start_ (n := 65) (S := fun w' => w'.cell? ⟨gb178, 0, none⟩ = some (.int .i64 t174) ∧ w'.cell? ⟨gb178, 1, none⟩ = some (.int .i64 t175) ∧ w'.cell? ⟨gb178, 2, none⟩ = some (.string t176) ∧ w'.cell? ⟨gb225, 0, none⟩ = some (.int .i64 t220) ∧ w'.cell? ⟨gb225, 1, none⟩ = some (.int .i64 t221) ∧ w'.cell? ⟨gb225, 2, none⟩ = some (.string t222) ∧ w'.cell? ad238 = some (.int .u8 (rd t229 0)) ∧ w'.cell? ⟨ad238.block, ad238.off + 1, none⟩ = some (.int .u8 (rd t229 1))) (ds := []) #[false, false, false, false, false, false, false, false, false, false, false, false, false, false, false, false, false, false, false, false, false, false, false, false, false, false, false, false, false, false, false, false, false, false, false, false, false, false, false, false, false, false, false, false, false, false, false, false, false, false, false, false, false, false, false, false, false, false, false, false, false, false, false, false, false] (by kernel_rfl) rfl rfl ⟨(blk_cell BK178.out 0).trans rfl, (blk_cell BK178.out 1).trans rfl, (blk_cell BK178.out 2).trans rfl, (blk_cell BK225.out 0).trans rfl, (blk_cell BK225.out 1).trans rfl, (blk_cell BK225.out 2).trans rfl, hx238_0, hx239_0⟩ (fun hHeld => ?_); refine with_tabW augurylaw04_head.tab8 augurylaw04_head.bits8 (fun HT_ HW_ => ?_)
                                    generalize w74.drew = w76 at HO219 HO231 BK178 BK189 BK200 BK225 HB hx238_0 hx239_0 hHeld ⊢
                                    refine take_ (i := 0) (N := some 53) (v := ?_) (a' := ?_) #[true, false, false, false, false, false, false, false, false, false, false, false, false, false, false, false, false, false, false, false, false, false, false, false, false, false, false, false, false, false, false, false, false, false, false, false, false, false, false, false, false, false, false, false, false, false, false, false, false, false, false, false, false, false, false, false, false, false, false, false, false, false, false, false, false] rfl rfl (take_ofW HT_.out HW_.out (by kernel_rfl)) (fun _ _ _ h => h) (Or.inl ⟨by rfl, ?_⟩) hHeld ?_ ?_
                                    rotate_left
                                    · rintro w' ⟨s0, s1, s2, s3, s4, s5, s6, s7⟩
                                      go_simp
                                      with_reducible rfl
                                    rotate_left
                                    · simp only [Act.put, List.setIfInBounds_toArray, List.set_cons_zero, List.set_cons_succ, i64_w, i32_w]
                                      rfl
                                    refine one_ (i := 1) (N := some 54) #[true, true, false, false, false, false, false, false, false, false, false, false, false, false, false, false, false, false, false, false, false, false, false, false, false, false, false, false, false, false, false, false, false, false, false, false, false, false, false, false, false, false, false, false, false, false, false, false, false, false, false, false, false, false, false, false, false, false, false, false, false, false, false, false, false] rfl rfl (one_of HT_.out (by kernel_rfl)) (by decide) (fun K hK => ?_)
                                    refine goes_ Try.func22 (by kernel_rfl) rfl #[.int .i64 5] (by rfl) rfl rfl (by (try simp only [List.map_toArray, List.map_cons, List.map_nil]); first | done | rfl | (simp only [List.length_drop, List.length_take]; rfl)) ?_
                                    with_reducible refine (augurylaw04_num.calls 5 t232 t233 t234 _ A19.out).mono ?_
                                    rintro e w77 ⟨rfl, hb⟩
                                    have HS6_ := (hb.cell (World.block_lt_of_cell? _ _ (hHeld.2.2.2.2.2.2.1))).trans (hHeld.2.2.2.2.2.2.1)
                                    have HS7_ := (hb.cell (World.block_lt_of_cell? _ _ (hHeld.2.2.2.2.2.2.2))).trans (hHeld.2.2.2.2.2.2.2)
                                    refine ⟨_, rfl, ?_⟩
                                    have n0_ := Aside0.mk (Kd.R_below (by (with_reducible repeat (first | apply Kd.R_alloc | apply Kd.R_drewN | apply Kd.R_drew)); exact HO219.out) hb)
                                    have n1_ := Aside0.mk (Kd.R_below (by (with_reducible repeat (first | apply Kd.R_alloc | apply Kd.R_drewN | apply Kd.R_drew)); exact HO231.out) hb)
                                    have n2_ := Aside0.mk (blk_below (g := gb178) (o := .cells #[.int .i64 t174, .int .i64 t175, .string t176] 23 (0, 0)) (by (with_reducible repeat (first | refine blk_drewN ?_ _ | refine blk_drew ?_ | refine blk_alloc ?_ _)); exact BK178.out) hb)
                                    have n3_ := Aside0.mk (blk_below (g := gb189) (o := .cells #[.int .i64 t185, .int .i64 t186, .string t187] 23 (0, 0)) (by (with_reducible repeat (first | refine blk_drewN ?_ _ | refine blk_drew ?_ | refine blk_alloc ?_ _)); exact BK189.out) hb)
                                    have n4_ := Aside0.mk (blk_below (g := gb200) (o := .cells #[.int .i64 t196, .int .i64 t197, .string t198] 23 (0, 0)) (by (with_reducible repeat (first | refine blk_drewN ?_ _ | refine blk_drew ?_ | refine blk_alloc ?_ _)); exact BK200.out) hb)
                                    have n5_ := Aside0.mk (blk_below (g := gb225) (o := .cells #[.int .i64 t220, .int .i64 t221, .string t222] 23 (0, 0)) (by (with_reducible repeat (first | refine blk_drewN ?_ _ | refine blk_drew ?_ | refine blk_alloc ?_ _)); exact BK225.out) hb)
                                    have n6_ := Aside0.mk (below_step (by repeat (first | (with_reducible first | exact HB.out | apply below_alloc | apply pw_below_drewN | apply below_drew1 | refine below_set ?_ GE178.out | refine below_set ?_ GE189.out | refine below_set ?_ GE200.out | refine below_set ?_ GE225.out) | exact HB.out)) hb)
                                    clear HO219
                                    clear HO231
                                    clear BK178
                                    clear BK189
                                    clear BK200
                                    clear BK225
                                    clear HB
                                    have HO219 := n0_
                                    have HO231 := n1_
                                    have BK178 := n2_
                                    have BK189 := n3_
                                    have BK200 := n4_
                                    have BK225 := n5_
                                    have HB := n6_
                                    clear n0_ n1_ n2_ n3_ n4_ n5_ n6_
                                    (try clear hb)
                                    (try clear hb2)
                                    (try clear hk)
                                    (try clear hi)
                                    refine hK.out _ _ ⟨(blk_cell BK178.out 0).trans rfl, (blk_cell BK178.out 1).trans rfl, (blk_cell BK178.out 2).trans rfl, (blk_cell BK225.out 0).trans rfl, (blk_cell BK225.out 1).trans rfl, (blk_cell BK225.out 2).trans rfl, HS6_, HS7_⟩ (fun hHeld => ?_)
                                    clear hK K
                                    refine norm_ (a' := ?_) ?_ ?_
                                    rotate_left
                                    · show Act.put _ (some 54) _ = _
                                      simp only [Act.put, List.setIfInBounds_toArray, List.set_cons_zero, List.set_cons_succ, i64_w, i32_w]
                                      rfl
                                    refine pure_ (i := 2) (N := some 55) (v := ?_) (a' := ?_) #[true, true, true, false, false, false, false, false, false, false, false, false, false, false, false, false, false, false, false, false, false, false, false, false, false, false, false, false, false, false, false, false, false, false, false, false, false, false, false, false, false, false, false, false, false, false, false, false, false, false, false, false, false, false, false, false, false, false, false, false, false, false, false, false, false] rfl rfl (any_of HT_.out (by kernel_rfl)) (fun _ _ _ h => h) (Or.inl ⟨by rfl, ?_⟩) ?_ ?_
                                    rotate_left
                                    · intro w'
                                      go_simp
                                      with_reducible rfl
                                    rotate_left
                                    · simp only [Act.put, List.setIfInBounds_toArray, List.set_cons_zero, List.set_cons_succ, i64_w, i32_w]
                                      rfl
                                    refine pure_ (i := 3) (N := some 56) (v := ?_) (a' := ?_) #[true, true, true, true, false, false, false, false, false, false, false, false, false, false, false, false, false, false, false, false, false, false, false, false, false, false, false, false, false, false, false, false, false, false, false, false, false, false, false, false, false, false, false, false, false, false, false, false, false, false, false, false, false, false, false, false, false, false, false, false, false, false, false, false, false] rfl rfl (any_of HT_.out (by kernel_rfl)) (fun _ _ _ h => h) (Or.inl ⟨by rfl, ?_⟩) ?_ ?_
                                    rotate_left
                                    · intro w'
                                      go_simp
                                      with_reducible rfl
                                    rotate_left
                                    · simp only [Act.put, List.setIfInBounds_toArray, List.set_cons_zero, List.set_cons_succ, i64_w, i32_w]
                                      rfl
                                    refine pure_ (i := 4) (N := some 57) (v := ?_) (a' := ?_) #[true, true, true, true, true, false, false, false, false, false, false, false, false, false, false, false, false, false, false, false, false, false, false, false, false, false, false, false, false, false, false, false, false, false, false, false, false, false, false, false, false, false, false, false, false, false, false, false, false, false, false, false, false, false, false, false, false, false, false, false, false, false, false, false, false] rfl rfl (any_of HT_.out (by kernel_rfl)) (fun _ _ _ h => h) (Or.inl ⟨by rfl, ?_⟩) ?_ ?_
                                    rotate_left
                                    · intro w'
                                      go_simp
                                      with_reducible rfl
                                    rotate_left
                                    · simp only [Act.put, List.setIfInBounds_toArray, List.set_cons_zero, List.set_cons_succ, i64_w, i32_w]
                                      rfl
                                    refine pure_ (i := 5) (N := some 58) (v := ?_) (a' := ?_) #[true, true, true, true, true, true, false, false, false, false, false, false, false, false, false, false, false, false, false, false, false, false, false, false, false, false, false, false, false, false, false, false, false, false, false, false, false, false, false, false, false, false, false, false, false, false, false, false, false, false, false, false, false, false, false, false, false, false, false, false, false, false, false, false, false] rfl rfl (any_of HT_.out (by kernel_rfl)) (fun _ _ _ h => h) (Or.inl ⟨by rfl, ?_⟩) ?_ ?_
                                    rotate_left
                                    · intro w'
                                      go_simp
                                      with_reducible rfl
                                    rotate_left
                                    · simp only [Act.put, List.setIfInBounds_toArray, List.set_cons_zero, List.set_cons_succ, i64_w, i32_w]
                                      rfl
                                    refine pure_ (i := 6) (N := some 59) (v := ?_) (a' := ?_) #[true, true, true, true, true, true, true, false, false, false, false, false, false, false, false, false, false, false, false, false, false, false, false, false, false, false, false, false, false, false, false, false, false, false, false, false, false, false, false, false, false, false, false, false, false, false, false, false, false, false, false, false, false, false, false, false, false, false, false, false, false, false, false, false, false] rfl rfl (any_of HT_.out (by kernel_rfl)) (fun _ _ _ h => h) (Or.inl ⟨by rfl, ?_⟩) ?_ ?_
                                    rotate_left
                                    · intro w'
                                      go_simp
                                      with_reducible rfl
                                    rotate_left
                                    · simp only [Act.put, List.setIfInBounds_toArray, List.set_cons_zero, List.set_cons_succ, i64_w, i32_w]
                                      rfl
                                    refine pure_ (i := 7) (N := some 60) (v := ?_) (a' := ?_) #[true, true, true, true, true, true, true, true, false, false, false, false, false, false, false, false, false, false, false, false, false, false, false, false, false, false, false, false, false, false, false, false, false, false, false, false, false, false, false, false, false, false, false, false, false, false, false, false, false, false, false, false, false, false, false, false, false, false, false, false, false, false, false, false, false] rfl rfl (any_of HT_.out (by kernel_rfl)) (fun _ _ _ h => h) (Or.inl ⟨by rfl, ?_⟩) ?_ ?_
                                    rotate_left
                                    · intro w'
                                      go_simp
                                      with_reducible rfl
                                    rotate_left
                                    · simp only [Act.put, List.setIfInBounds_toArray, List.set_cons_zero, List.set_cons_succ, i64_w, i32_w]
                                      rfl
                                    refine pure_ (i := 8) (N := some 61) (v := ?_) (a' := ?_) #[true, true, true, true, true, true, true, true, true, false, false, false, false, false, false, false, false, false, false, false, false, false, false, false, false, false, false, false, false, false, false, false, false, false, false, false, false, false, false, false, false, false, false, false, false, false, false, false, false, false, false, false, false, false, false, false, false, false, false, false, false, false, false, false, false] rfl rfl (any_of HT_.out (by kernel_rfl)) (fun _ _ _ h => h) (Or.inl ⟨by rfl, ?_⟩) ?_ ?_
                                    rotate_left
                                    · intro w'
                                      go_simp
                                      with_reducible rfl
                                    rotate_left
                                    · simp only [Act.put, List.setIfInBounds_toArray, List.set_cons_zero, List.set_cons_succ, i64_w, i32_w]
                                      rfl
                                    refine pure_ (i := 9) (N := some 62) (v := ?_) (a' := ?_) #[true, true, true, true, true, true, true, true, true, true, false, false, false, false, false, false, false, false, false, false, false, false, false, false, false, false, false, false, false, false, false, false, false, false, false, false, false, false, false, false, false, false, false, false, false, false, false, false, false, false, false, false, false, false, false, false, false, false, false, false, false, false, false, false, false] rfl rfl (any_of HT_.out (by kernel_rfl)) (fun _ _ _ h => h) (Or.inl ⟨by rfl, ?_⟩) ?_ ?_
                                    rotate_left
                                    · intro w'
                                      go_simp
                                      with_reducible rfl
                                    rotate_left
                                    · simp only [Act.put, List.setIfInBounds_toArray, List.set_cons_zero, List.set_cons_succ, i64_w, i32_w]
                                      rfl
                                    refine pure_ (i := 10) (N := some 63) (v := ?_) (a' := ?_) #[true, true, true, true, true, true, true, true, true, true, true, false, false, false, false, false, false, false, false, false, false, false, false, false, false, false, false, false, false, false, false, false, false, false, false, false, false, false, false, false, false, false, false, false, false, false, false, false, false, false, false, false, false, false, false, false, false, false, false, false, false, false, false, false, false] rfl rfl (any_of HT_.out (by kernel_rfl)) (fun _ _ _ h => h) (Or.inl ⟨by rfl, ?_⟩) ?_ ?_
                                    rotate_left
                                    · intro w'
                                      go_simp
                                      with_reducible rfl
                                    rotate_left
                                    · simp only [Act.put, List.setIfInBounds_toArray, List.set_cons_zero, List.set_cons_succ, i64_w, i32_w]
                                      rfl
                                    refine pure_ (i := 11) (N := some 64) (v := ?_) (a' := ?_) #[true, true, true, true, true, true, true, true, true, true, true, true, false, false, false, false, false, false, false, false, false, false, false, false, false, false, false, false, false, false, false, false, false, false, false, false, false, false, false, false, false, false, false, false, false, false, false, false, false, false, false, false, false, false, false, false, false, false, false, false, false, false, false, false, false] rfl rfl (any_of HT_.out (by kernel_rfl)) (fun _ _ _ h => h) (Or.inl ⟨by rfl, ?_⟩) ?_ ?_
                                    rotate_left
                                    · intro w'
                                      go_simp
                                      with_reducible rfl
                                    rotate_left
                                    · simp only [Act.put, List.setIfInBounds_toArray, List.set_cons_zero, List.set_cons_succ, i64_w, i32_w]
                                      rfl
                                    refine pure_ (i := 12) (N := some 65) (v := ?_) (a' := ?_) #[true, true, true, true, true, true, true, true, true, true, true, true, true, false, false, false, false, false, false, false, false, false, false, false, false, false, false, false, false, false, false, false, false, false, false, false, false, false, false, false, false, false, false, false, false, false, false, false, false, false, false, false, false, false, false, false, false, false, false, false, false, false, false, false, false] rfl rfl (any_of HT_.out (by kernel_rfl)) (fun _ _ _ h => h) (Or.inl ⟨by rfl, ?_⟩) ?_ ?_
                                    rotate_left
                                    · intro w'
                                      go_simp
                                      with_reducible rfl
                                    rotate_left
                                    · simp only [Act.put, List.setIfInBounds_toArray, List.set_cons_zero, List.set_cons_succ, i64_w, i32_w]
                                      rfl
                                    refine pure_ (i := 13) (N := some 66) (v := ?_) (a' := ?_) #[true, true, true, true, true, true, true, true, true, true, true, true, true, true, false, false, false, false, false, false, false, false, false, false, false, false, false, false, false, false, false, false, false, false, false, false, false, false, false, false, false, false, false, false, false, false, false, false, false, false, false, false, false, false, false, false, false, false, false, false, false, false, false, false, false] rfl rfl (any_of HT_.out (by kernel_rfl)) (fun _ _ _ h => h) (Or.inl ⟨by rfl, ?_⟩) ?_ ?_
                                    rotate_left
                                    · intro w'
                                      go_simp
                                      with_reducible rfl
                                    rotate_left
                                    · simp only [Act.put, List.setIfInBounds_toArray, List.set_cons_zero, List.set_cons_succ, i64_w, i32_w]
                                      rfl
                                    refine pure_ (i := 14) (N := some 67) (v := ?_) (a' := ?_) #[true, true, true, true, true, true, true, true, true, true, true, true, true, true, true, false, false, false, false, false, false, false, false, false, false, false, false, false, false, false, false, false, false, false, false, false, false, false, false, false, false, false, false, false, false, false, false, false, false, false, false, false, false, false, false, false, false, false, false, false, false, false, false, false, false] rfl rfl (any_of HT_.out (by kernel_rfl)) (fun _ _ _ h => h) (Or.inl ⟨by rfl, ?_⟩) ?_ ?_
                                    rotate_left
                                    · intro w'
                                      go_simp
                                      with_reducible rfl
                                    rotate_left
                                    · simp only [Act.put, List.setIfInBounds_toArray, List.set_cons_zero, List.set_cons_succ, i64_w, i32_w]
                                      rfl
                                    refine pure_ (i := 15) (N := some 68) (v := ?_) (a' := ?_) #[true, true, true, true, true, true, true, true, true, true, true, true, true, true, true, true, false, false, false, false, false, false, false, false, false, false, false, false, false, false, false, false, false, false, false, false, false, false, false, false, false, false, false, false, false, false, false, false, false, false, false, false, false, false, false, false, false, false, false, false, false, false, false, false, false] rfl rfl (any_of HT_.out (by kernel_rfl)) (fun _ _ _ h => h) (Or.inl ⟨by rfl, ?_⟩) ?_ ?_
                                    rotate_left
                                    · intro w'
                                      go_simp
                                      with_reducible rfl
                                    rotate_left
                                    · simp only [Act.put, List.setIfInBounds_toArray, List.set_cons_zero, List.set_cons_succ, i64_w, i32_w]
                                      rfl
                                    refine pure_ (i := 16) (N := some 69) (v := ?_) (a' := ?_) #[true, true, true, true, true, true, true, true, true, true, true, true, true, true, true, true, true, false, false, false, false, false, false, false, false, false, false, false, false, false, false, false, false, false, false, false, false, false, false, false, false, false, false, false, false, false, false, false, false, false, false, false, false, false, false, false, false, false, false, false, false, false, false, false, false] rfl rfl (any_of HT_.out (by kernel_rfl)) (fun _ _ _ h => h) (Or.inl ⟨by rfl, ?_⟩) ?_ ?_
                                    rotate_left
                                    · intro w'
                                      go_simp
                                      with_reducible rfl
                                    rotate_left
                                    · simp only [Act.put, List.setIfInBounds_toArray, List.set_cons_zero, List.set_cons_succ, i64_w, i32_w]
                                      rfl
                                    refine pure_ (i := 17) (N := some 70) (v := ?_) (a' := ?_) #[true, true, true, true, true, true, true, true, true, true, true, true, true, true, true, true, true, true, false, false, false, false, false, false, false, false, false, false, false, false, false, false, false, false, false, false, false, false, false, false, false, false, false, false, false, false, false, false, false, false, false, false, false, false, false, false, false, false, false, false, false, false, false, false, false] rfl rfl (any_of HT_.out (by kernel_rfl)) (fun _ _ _ h => h) (Or.inl ⟨by rfl, ?_⟩) ?_ ?_
                                    rotate_left
                                    · intro w'
                                      go_simp
                                      with_reducible rfl
                                    rotate_left
                                    · simp only [Act.put, List.setIfInBounds_toArray, List.set_cons_zero, List.set_cons_succ, i64_w, i32_w]
                                      rfl
                                    refine pure_ (i := 18) (N := some 71) (v := ?_) (a' := ?_) #[true, true, true, true, true, true, true, true, true, true, true, true, true, true, true, true, true, true, true, false, false, false, false, false, false, false, false, false, false, false, false, false, false, false, false, false, false, false, false, false, false, false, false, false, false, false, false, false, false, false, false, false, false, false, false, false, false, false, false, false, false, false, false, false, false] rfl rfl (any_of HT_.out (by kernel_rfl)) (fun _ _ _ h => h) (Or.inl ⟨by rfl, ?_⟩) ?_ ?_
                                    rotate_left
                                    · intro w'
                                      go_simp
                                      with_reducible rfl
                                    rotate_left
                                    · simp only [Act.put, List.setIfInBounds_toArray, List.set_cons_zero, List.set_cons_succ, i64_w, i32_w]
                                      rfl
                                    refine pure_ (i := 19) (N := some 72) (v := ?_) (a' := ?_) #[true, true, true, true, true, true, true, true, true, true, true, true, true, true, true, true, true, true, true, true, false, false, false, false, false, false, false, false, false, false, false, false, false, false, false, false, false, false, false, false, false, false, false, false, false, false, false, false, false, false, false, false, false, false, false, false, false, false, false, false, false, false, false, false, false] rfl rfl (any_of HT_.out (by kernel_rfl)) (fun _ _ _ h => h) (Or.inl ⟨by rfl, ?_⟩) ?_ ?_
                                    rotate_left
                                    · intro w'
                                      go_simp
                                      with_reducible rfl
                                    rotate_left
                                    · simp only [Act.put, List.setIfInBounds_toArray, List.set_cons_zero, List.set_cons_succ, i64_w, i32_w]
                                      rfl
                                    refine pure_ (i := 20) (N := some 73) (v := ?_) (a' := ?_) #[true, true, true, true, true, true, true, true, true, true, true, true, true, true, true, true, true, true, true, true, true, false, false, false, false, false, false, false, false, false, false, false, false, false, false, false, false, false, false, false, false, false, false, false, false, false, false, false, false, false, false, false, false, false, false, false, false, false, false, false, false, false, false, false, false] rfl rfl (any_of HT_.out (by kernel_rfl)) (fun _ _ _ h => h) (Or.inl ⟨by rfl, ?_⟩) ?_ ?_
                                    rotate_left
                                    · intro w'
                                      go_simp
                                      with_reducible rfl
                                    rotate_left
                                    · simp only [Act.put, List.setIfInBounds_toArray, List.set_cons_zero, List.set_cons_succ, i64_w, i32_w]
                                      rfl
                                    refine pure_ (i := 21) (N := some 74) (v := ?_) (a' := ?_) #[true, true, true, true, true, true, true, true, true, true, true, true, true, true, true, true, true, true, true, true, true, true, false, false, false, false, false, false, false, false, false, false, false, false, false, false, false, false, false, false, false, false, false, false, false, false, false, false, false, false, false, false, false, false, false, false, false, false, false, false, false, false, false, false, false] rfl rfl (any_of HT_.out (by kernel_rfl)) (fun _ _ _ h => h) (Or.inl ⟨by rfl, ?_⟩) ?_ ?_
                                    rotate_left
                                    · intro w'
                                      go_simp
                                      with_reducible rfl
                                    rotate_left
                                    · simp only [Act.put, List.setIfInBounds_toArray, List.set_cons_zero, List.set_cons_succ, i64_w, i32_w]
                                      rfl
                                    refine pure_ (i := 22) (N := some 75) (v := ?_) (a' := ?_) #[true, true, true, true, true, true, true, true, true, true, true, true, true, true, true, true, true, true, true, true, true, true, true, false, false, false, false, false, false, false, false, false, false, false, false, false, false, false, false, false, false, false, false, false, false, false, false, false, false, false, false, false, false, false, false, false, false, false, false, false, false, false, false, false, false] rfl rfl (any_of HT_.out (by kernel_rfl)) (fun _ _ _ h => h) (Or.inl ⟨by rfl, ?_⟩) ?_ ?_
                                    rotate_left
                                    · intro w'
                                      go_simp
                                      with_reducible rfl
                                    rotate_left
                                    · simp only [Act.put, List.setIfInBounds_toArray, List.set_cons_zero, List.set_cons_succ, i64_w, i32_w]
                                      rfl
                                    refine pure_ (i := 23) (N := some 76) (v := ?_) (a' := ?_) #[true, true, true, true, true, true, true, true, true, true, true, true, true, true, true, true, true, true, true, true, true, true, true, true, false, false, false, false, false, false, false, false, false, false, false, false, false, false, false, false, false, false, false, false, false, false, false, false, false, false, false, false, false, false, false, false, false, false, false, false, false, false, false, false, false] rfl rfl (any_of HT_.out (by kernel_rfl)) (fun _ _ _ h => h) (Or.inl ⟨by rfl, ?_⟩) ?_ ?_
                                    rotate_left
                                    · intro w'
                                      go_simp
                                      with_reducible rfl
                                    rotate_left
                                    · simp only [Act.put, List.setIfInBounds_toArray, List.set_cons_zero, List.set_cons_succ, i64_w, i32_w]
                                      rfl
                                    refine pure_ (i := 24) (N := some 77) (v := ?_) (a' := ?_) #[true, true, true, true, true, true, true, true, true, true, true, true, true, true, true, true, true, true, true, true, true, true, true, true, true, false, false, false, false, false, false, false, false, false, false, false, false, false, false, false, false, false, false, false, false, false, false, false, false, false, false, false, false, false, false, false, false, false, false, false, false, false, false, false, false] rfl rfl (any_of HT_.out (by kernel_rfl)) (fun _ _ _ h => h) (Or.inl ⟨by rfl, ?_⟩) ?_ ?_
                                    rotate_left
                                    · intro w'
                                      go_simp
                                      with_reducible rfl
                                    rotate_left
                                    · simp only [Act.put, List.setIfInBounds_toArray, List.set_cons_zero, List.set_cons_succ, i64_w, i32_w]
                                      rfl
                                    refine pure_ (i := 25) (N := some 78) (v := ?_) (a' := ?_) #[true, true, true, true, true, true, true, true, true, true, true, true, true, true, true, true, true, true, true, true, true, true, true, true, true, true, false, false, false, false, false, false, false, false, false, false, false, false, false, false, false, false, false, false, false, false, false, false, false, false, false, false, false, false, false, false, false, false, false, false, false, false, false, false, false] rfl rfl (any_of HT_.out (by kernel_rfl)) (fun _ _ _ h => h) (Or.inl ⟨by rfl, ?_⟩) ?_ ?_
                                    rotate_left
                                    · intro w'
                                      go_simp
                                      with_reducible rfl
                                    rotate_left
                                    · simp only [Act.put, List.setIfInBounds_toArray, List.set_cons_zero, List.set_cons_succ, i64_w, i32_w]
                                      rfl
                                    refine pure_ (i := 26) (N := some 79) (v := ?_) (a' := ?_) #[true, true, true, true, true, true, true, true, true, true, true, true, true, true, true, true, true, true, true, true, true, true, true, true, true, true, true, false, false, false, false, false, false, false, false, false, false, false, false, false, false, false, false, false, false, false, false, false, false, false, false, false, false, false, false, false, false, false, false, false, false, false, false, false, false] rfl rfl (any_of HT_.out (by kernel_rfl)) (fun _ _ _ h => h) (Or.inl ⟨by rfl, ?_⟩) ?_ ?_
                                    rotate_left
                                    · intro w'
                                      go_simp
                                      with_reducible rfl
                                    rotate_left
                                    · simp only [Act.put, List.setIfInBounds_toArray, List.set_cons_zero, List.set_cons_succ, i64_w, i32_w]
                                      rfl
                                    refine take_ (i := 27) (N := some 80) (v := ?_) (a' := ?_) #[true, true, true, true, true, true, true, true, true, true, true, true, true, true, true, true, true, true, true, true, true, true, true, true, true, true, true, true, false, false, false, false, false, false, false, false, false, false, false, false, false, false, false, false, false, false, false, false, false, false, false, false, false, false, false, false, false, false, false, false, false, false, false, false, false] rfl rfl (take_ofW HT_.out HW_.out (by kernel_rfl)) (fun _ _ _ h => h) (Or.inl ⟨by rfl, ?_⟩) hHeld ?_ ?_
                                    rotate_left
                                    · rintro w' ⟨s0, s1, s2, s3, s4, s5, s6, s7⟩
                                      go_simp
                                      with_reducible rfl
                                    rotate_left
                                    · simp only [Act.put, List.setIfInBounds_toArray, List.set_cons_zero, List.set_cons_succ, i64_w, i32_w]
                                      rfl
                                    refine one_ (i := 28) (N := some 81) #[true, true, true, true, true, true, true, true, true, true, true, true, true, true, true, true, true, true, true, true, true, true, true, true, true, true, true, true, true, false, false, false, false, false, false, false, false, false, false, false, false, false, false, false, false, false, false, false, false, false, false, false, false, false, false, false, false, false, false, false, false, false, false, false, false] rfl rfl (one_of HT_.out (by kernel_rfl)) (by decide) (fun K hK => ?_)
                                    refine goes_ Try.func22 (by kernel_rfl) rfl #[.int .i64 (-1)] (by rfl) rfl rfl (by (try simp only [List.map_toArray, List.map_cons, List.map_nil]); first | done | rfl | (simp only [List.length_drop, List.length_take]; rfl)) ?_
                                    with_reducible refine (augurylaw04_num.calls (-1) t235 t236 t237 _ A27.out).mono ?_
                                    rintro e w78 ⟨rfl, hb⟩
                                    have HS6_ := (hb.cell (World.block_lt_of_cell? _ _ (hHeld.2.2.2.2.2.2.1))).trans (hHeld.2.2.2.2.2.2.1)
                                    have HS7_ := (hb.cell (World.block_lt_of_cell? _ _ (hHeld.2.2.2.2.2.2.2))).trans (hHeld.2.2.2.2.2.2.2)
                                    refine ⟨_, rfl, ?_⟩
                                    have n0_ := Aside0.mk (Kd.R_below (by (with_reducible repeat (first | apply Kd.R_alloc | apply Kd.R_drewN | apply Kd.R_drew)); exact HO219.out) hb)
                                    have n1_ := Aside0.mk (Kd.R_below (by (with_reducible repeat (first | apply Kd.R_alloc | apply Kd.R_drewN | apply Kd.R_drew)); exact HO231.out) hb)
                                    have n2_ := Aside0.mk (blk_below (g := gb178) (o := .cells #[.int .i64 t174, .int .i64 t175, .string t176] 23 (0, 0)) (by (with_reducible repeat (first | refine blk_drewN ?_ _ | refine blk_drew ?_ | refine blk_alloc ?_ _)); exact BK178.out) hb)
                                    have n3_ := Aside0.mk (blk_below (g := gb189) (o := .cells #[.int .i64 t185, .int .i64 t186, .string t187] 23 (0, 0)) (by (with_reducible repeat (first | refine blk_drewN ?_ _ | refine blk_drew ?_ | refine blk_alloc ?_ _)); exact BK189.out) hb)
                                    have n4_ := Aside0.mk (blk_below (g := gb200) (o := .cells #[.int .i64 t196, .int .i64 t197, .string t198] 23 (0, 0)) (by (with_reducible repeat (first | refine blk_drewN ?_ _ | refine blk_drew ?_ | refine blk_alloc ?_ _)); exact BK200.out) hb)
                                    have n5_ := Aside0.mk (blk_below (g := gb225) (o := .cells #[.int .i64 t220, .int .i64 t221, .string t222] 23 (0, 0)) (by (with_reducible repeat (first | refine blk_drewN ?_ _ | refine blk_drew ?_ | refine blk_alloc ?_ _)); exact BK225.out) hb)
                                    have n6_ := Aside0.mk (below_step (by repeat (first | (with_reducible first | exact HB.out | apply below_alloc | apply pw_below_drewN | apply below_drew1 | refine below_set ?_ GE178.out | refine below_set ?_ GE189.out | refine below_set ?_ GE200.out | refine below_set ?_ GE225.out) | exact HB.out)) hb)
                                    clear HO219
                                    clear HO231
                                    clear BK178
                                    clear BK189
                                    clear BK200
                                    clear BK225
                                    clear HB
                                    have HO219 := n0_
                                    have HO231 := n1_
                                    have BK178 := n2_
                                    have BK189 := n3_
                                    have BK200 := n4_
                                    have BK225 := n5_
                                    have HB := n6_
                                    clear n0_ n1_ n2_ n3_ n4_ n5_ n6_
                                    (try clear hb)
                                    (try clear hb2)
                                    (try clear hk)
                                    (try clear hi)
                                    refine hK.out _ _ ⟨(blk_cell BK178.out 0).trans rfl, (blk_cell BK178.out 1).trans rfl, (blk_cell BK178.out 2).trans rfl, (blk_cell BK225.out 0).trans rfl, (blk_cell BK225.out 1).trans rfl, (blk_cell BK225.out 2).trans rfl, HS6_, HS7_⟩ (fun hHeld => ?_)
                                    clear hK K
                                    refine norm_ (a' := ?_) ?_ ?_
                                    rotate_left
                                    · show Act.put _ (some 81) _ = _
                                      simp only [Act.put, List.setIfInBounds_toArray, List.set_cons_zero, List.set_cons_succ, i64_w, i32_w]
                                      rfl
                                    refine pure_ (i := 29) (N := some 82) (v := ?_) (a' := ?_) #[true, true, true, true, true, true, true, true, true, true, true, true, true, true, true, true, true, true, true, true, true, true, true, true, true, true, true, true, true, true, false, false, false, false, false, false, false, false, false, false, false, false, false, false, false, false, false, false, false, false, false, false, false, false, false, false, false, false, false, false, false, false, false, false, false] rfl rfl (any_of HT_.out (by kernel_rfl)) (fun _ _ _ h => h) (Or.inl ⟨by rfl, ?_⟩) ?_ ?_
                                    rotate_left
                                    · intro w'
                                      go_simp
                                      with_reducible rfl
                                    rotate_left
                                    · simp only [Act.put, List.setIfInBounds_toArray, List.set_cons_zero, List.set_cons_succ, i64_w, i32_w]
                                      rfl
                                    refine pure_ (i := 30) (N := some 83) (v := ?_) (a' := ?_) #[true, true, true, true, true, true, true, true, true, true, true, true, true, true, true, true, true, true, true, true, true, true, true, true, true, true, true, true, true, true, true, false, false, false, false, false, false, false, false, false, false, false, false, false, false, false, false, false, false, false, false, false, false, false, false, false, false, false, false, false, false, false, false, false, false] rfl rfl (any_of HT_.out (by kernel_rfl)) (fun _ _ _ h => h) (Or.inl ⟨by rfl, ?_⟩) ?_ ?_
                                    rotate_left
                                    · intro w'
                                      go_simp
                                      with_reducible rfl
                                    rotate_left
                                    · simp only [Act.put, List.setIfInBounds_toArray, List.set_cons_zero, List.set_cons_succ, i64_w, i32_w]
                                      rfl
                                    refine pure_ (i := 31) (N := some 84) (v := ?_) (a' := ?_) #[true, true, true, true, true, true, true, true, true, true, true, true, true, true, true, true, true, true, true, true, true, true, true, true, true, true, true, true, true, true, true, true, false, false, false, false, false, false, false, false, false, false, false, false, false, false, false, false, false, false, false, false, false, false, false, false, false, false, false, false, false, false, false, false, false] rfl rfl (any_of HT_.out (by kernel_rfl)) (fun _ _ _ h => h) (Or.inl ⟨by rfl, ?_⟩) ?_ ?_
                                    rotate_left
                                    · intro w'
                                      go_simp
                                      with_reducible rfl
                                    rotate_left
                                    · simp only [Act.put, List.setIfInBounds_toArray, List.set_cons_zero, List.set_cons_succ, i64_w, i32_w]
                                      rfl
                                    refine pure_ (i := 32) (N := some 85) (v := ?_) (a' := ?_) #[true, true, true, true, true, true, true, true, true, true, true, true, true, true, true, true, true, true, true, true, true, true, true, true, true, true, true, true, true, true, true, true, true, false, false, false, false, false, false, false, false, false, false, false, false, false, false, false, false, false, false, false, false, false, false, false, false, false, false, false, false, false, false, false, false] rfl rfl (any_of HT_.out (by kernel_rfl)) (fun _ _ _ h => h) (Or.inl ⟨by rfl, ?_⟩) ?_ ?_
                                    rotate_left
                                    · intro w'
                                      go_simp
                                      with_reducible rfl
                                    rotate_left
                                    · simp only [Act.put, List.setIfInBounds_toArray, List.set_cons_zero, List.set_cons_succ, i64_w, i32_w]
                                      rfl
                                    refine pure_ (i := 33) (N := some 86) (v := ?_) (a' := ?_) #[true, true, true, true, true, true, true, true, true, true, true, true, true, true, true, true, true, true, true, true, true, true, true, true, true, true, true, true, true, true, true, true, true, true, false, false, false, false, false, false, false, false, false, false, false, false, false, false, false, false, false, false, false, false, false, false, false, false, false, false, false, false, false, false, false] rfl rfl (any_of HT_.out (by kernel_rfl)) (fun _ _ _ h => h) (Or.inl ⟨by rfl, ?_⟩) ?_ ?_
                                    rotate_left
                                    · intro w'
                                      go_simp
                                      with_reducible rfl
                                    rotate_left
                                    · simp only [Act.put, List.setIfInBounds_toArray, List.set_cons_zero, List.set_cons_succ, i64_w, i32_w]
                                      rfl
                                    refine pure_ (i := 34) (N := some 87) (v := ?_) (a' := ?_) #[true, true, true, true, true, true, true, true, true, true, true, true, true, true, true, true, true, true, true, true, true, true, true, true, true, true, true, true, true, true, true, true, true, true, true, false, false, false, false, false, false, false, false, false, false, false, false, false, false, false, false, false, false, false, false, false, false, false, false, false, false, false, false, false, false] rfl rfl (any_of HT_.out (by kernel_rfl)) (fun _ _ _ h => h) (Or.inl ⟨by rfl, ?_⟩) ?_ ?_
                                    rotate_left
                                    · intro w'
                                      go_simp
                                      with_reducible rfl
                                    rotate_left
                                    · simp only [Act.put, List.setIfInBounds_toArray, List.set_cons_zero, List.set_cons_succ, i64_w, i32_w]
                                      rfl
                                    refine pure_ (i := 35) (N := some 88) (v := ?_) (a' := ?_) #[true, true, true, true, true, true, true, true, true, true, true, true, true, true, true, true, true, true, true, true, true, true, true, true, true, true, true, true, true, true, true, true, true, true, true, true, false, false, false, false, false, false, false, false, false, false, false, false, false, false, false, false, false, false, false, false, false, false, false, false, false, false, false, false, false] rfl rfl (any_of HT_.out (by kernel_rfl)) (fun _ _ _ h => h) (Or.inl ⟨by rfl, ?_⟩) ?_ ?_
                                    rotate_left
                                    · intro w'
                                      go_simp
                                      with_reducible rfl
                                    rotate_left
                                    · simp only [Act.put, List.setIfInBounds_toArray, List.set_cons_zero, List.set_cons_succ, i64_w, i32_w]
                                      rfl
                                    refine pure_ (i := 36) (N := some 89) (v := ?_) (a' := ?_) #[true, true, true, true, true, true, true, true, true, true, true, true, true, true, true, true, true, true, true, true, true, true, true, true, true, true, true, true, true, true, true, true, true, true, true, true, true, false, false, false, false, false, false, false, false, false, false, false, false, false, false, false, false, false, false, false, false, false, false, false, false, false, false, false, false] rfl rfl (any_of HT_.out (by kernel_rfl)) (fun _ _ _ h => h) (Or.inl ⟨by rfl, ?_⟩) ?_ ?_
                                    rotate_left
                                    · intro w'
                                      go_simp
                                      with_reducible rfl
                                    rotate_left
                                    · simp only [Act.put, List.setIfInBounds_toArray, List.set_cons_zero, List.set_cons_succ, i64_w, i32_w]
                                      rfl
                                    refine pure_ (i := 37) (N := some 90) (v := ?_) (a' := ?_) #[true, true, true, true, true, true, true, true, true, true, true, true, true, true, true, true, true, true, true, true, true, true, true, true, true, true, true, true, true, true, true, true, true, true, true, true, true, true, false, false, false, false, false, false, false, false, false, false, false, false, false, false, false, false, false, false, false, false, false, false, false, false, false, false, false] rfl rfl (any_of HT_.out (by kernel_rfl)) (fun _ _ _ h => h) (Or.inl ⟨by rfl, ?_⟩) ?_ ?_
                                    rotate_left
                                    · intro w'
                                      go_simp
                                      with_reducible rfl
                                    rotate_left
                                    · simp only [Act.put, List.setIfInBounds_toArray, List.set_cons_zero, List.set_cons_succ, i64_w, i32_w]
                                      rfl
                                    refine pure_ (i := 38) (N := some 91) (v := ?_) (a' := ?_) #[true, true, true, true, true, true, true, true, true, true, true, true, true, true, true, true, true, true, true, true, true, true, true, true, true, true, true, true, true, true, true, true, true, true, true, true, true, true, true, false, false, false, false, false, false, false, false, false, false, false, false, false, false, false, false, false, false, false, false, false, false, false, false, false, false] rfl rfl (any_of HT_.out (by kernel_rfl)) (fun _ _ _ h => h) (Or.inl ⟨by rfl, ?_⟩) ?_ ?_
                                    rotate_left
                                    · intro w'
                                      go_simp
                                      with_reducible rfl
                                    rotate_left
                                    · simp only [Act.put, List.setIfInBounds_toArray, List.set_cons_zero, List.set_cons_succ, i64_w, i32_w]
                                      rfl
                                    refine pure_ (i := 39) (N := some 92) (v := ?_) (a' := ?_) #[true, true, true, true, true, true, true, true, true, true, true, true, true, true, true, true, true, true, true, true, true, true, true, true, true, true, true, true, true, true, true, true, true, true, true, true, true, true, true, true, false, false, false, false, false, false, false, false, false, false, false, false, false, false, false, false, false, false, false, false, false, false, false, false, false] rfl rfl (any_of HT_.out (by kernel_rfl)) (fun _ _ _ h => h) (Or.inl ⟨by rfl, ?_⟩) ?_ ?_
                                    rotate_left
                                    · intro w'
                                      go_simp
                                      with_reducible rfl
                                    rotate_left
                                    · simp only [Act.put, List.setIfInBounds_toArray, List.set_cons_zero, List.set_cons_succ, i64_w, i32_w]
                                      rfl
                                    refine pure_ (i := 40) (N := some 93) (v := ?_) (a' := ?_) #[true, true, true, true, true, true, true, true, true, true, true, true, true, true, true, true, true, true, true, true, true, true, true, true, true, true, true, true, true, true, true, true, true, true, true, true, true, true, true, true, true, false, false, false, false, false, false, false, false, false, false, false, false, false, false, false, false, false, false, false, false, false, false, false, false] rfl rfl (any_of HT_.out (by kernel_rfl)) (fun _ _ _ h => h) (Or.inl ⟨by rfl, ?_⟩) ?_ ?_
                                    rotate_left
                                    · intro w'
                                      go_simp
                                      with_reducible rfl
                                    rotate_left
                                    · simp only [Act.put, List.setIfInBounds_toArray, List.set_cons_zero, List.set_cons_succ, i64_w, i32_w]
                                      rfl
                                    refine pure_ (i := 41) (N := some 94) (v := ?_) (a' := ?_) #[true, true, true, true, true, true, true, true, true, true, true, true, true, true, true, true, true, true, true, true, true, true, true, true, true, true, true, true, true, true, true, true, true, true, true, true, true, true, true, true, true, true, false, false, false, false, false, false, false, false, false, false, false, false, false, false, false, false, false, false, false, false, false, false, false] rfl rfl (any_of HT_.out (by kernel_rfl)) (fun _ _ _ h => h) (Or.inl ⟨by rfl, ?_⟩) ?_ ?_
                                    rotate_left
                                    · intro w'
                                      go_simp
                                      with_reducible rfl
                                    rotate_left
                                    · simp only [Act.put, List.setIfInBounds_toArray, List.set_cons_zero, List.set_cons_succ, i64_w, i32_w]
                                      rfl
                                    refine pure_ (i := 42) (N := some 95) (v := ?_) (a' := ?_) #[true, true, true, true, true, true, true, true, true, true, true, true, true, true, true, true, true, true, true, true, true, true, true, true, true, true, true, true, true, true, true, true, true, true, true, true, true, true, true, true, true, true, true, false, false, false, false, false, false, false, false, false, false, false, false, false, false, false, false, false, false, false, false, false, false] rfl rfl (any_of HT_.out (by kernel_rfl)) (fun _ _ _ h => h) (Or.inl ⟨by rfl, ?_⟩) ?_ ?_
                                    rotate_left
                                    · intro w'
                                      go_simp
                                      with_reducible rfl
                                    rotate_left
                                    · simp only [Act.put, List.setIfInBounds_toArray, List.set_cons_zero, List.set_cons_succ, i64_w, i32_w]
                                      rfl
                                    refine pure_ (i := 43) (N := some 96) (v := ?_) (a' := ?_) #[true, true, true, true, true, true, true, true, true, true, true, true, true, true, true, true, true, true, true, true, true, true, true, true, true, true, true, true, true, true, true, true, true, true, true, true, true, true, true, true, true, true, true, true, false, false, false, false, false, false, false, false, false, false, false, false, false, false, false, false, false, false, false, false, false] rfl rfl (any_of HT_.out (by kernel_rfl)) (fun _ _ _ h => h) (Or.inl ⟨by rfl, ?_⟩) ?_ ?_
                                    rotate_left
                                    · intro w'
                                      go_simp
                                      with_reducible rfl
                                    rotate_left
                                    · simp only [Act.put, List.setIfInBounds_toArray, List.set_cons_zero, List.set_cons_succ, i64_w, i32_w]
                                      rfl
                                    refine pure_ (i := 44) (N := some 97) (v := ?_) (a' := ?_) #[true, true, true, true, true, true, true, true, true, true, true, true, true, true, true, true, true, true, true, true, true, true, true, true, true, true, true, true, true, true, true, true, true, true, true, true, true, true, true, true, true, true, true, true, true, false, false, false, false, false, false, false, false, false, false, false, false, false, false, false, false, false, false, false, false] rfl rfl (any_of HT_.out (by kernel_rfl)) (fun _ _ _ h => h) (Or.inl ⟨by rfl, ?_⟩) ?_ ?_
                                    rotate_left
                                    · intro w'
                                      go_simp
                                      with_reducible rfl
                                    rotate_left
                                    · simp only [Act.put, List.setIfInBounds_toArray, List.set_cons_zero, List.set_cons_succ, i64_w, i32_w]
                                      rfl
                                    refine pure_ (i := 45) (N := some 98) (v := ?_) (a' := ?_) #[true, true, true, true, true, true, true, true, true, true, true, true, true, true, true, true, true, true, true, true, true, true, true, true, true, true, true, true, true, true, true, true, true, true, true, true, true, true, true, true, true, true, true, true, true, true, false, false, false, false, false, false, false, false, false, false, false, false, false, false, false, false, false, false, false] rfl rfl (any_of HT_.out (by kernel_rfl)) (fun _ _ _ h => h) (Or.inl ⟨by rfl, ?_⟩) ?_ ?_
                                    rotate_left
                                    · intro w'
                                      go_simp
                                      with_reducible rfl
                                    rotate_left
                                    · simp only [Act.put, List.setIfInBounds_toArray, List.set_cons_zero, List.set_cons_succ, i64_w, i32_w]
                                      rfl
                                    refine take_ (i := 46) (N := some 99) (v := ?_) (a' := ?_) #[true, true, true, true, true, true, true, true, true, true, true, true, true, true, true, true, true, true, true, true, true, true, true, true, true, true, true, true, true, true, true, true, true, true, true, true, true, true, true, true, true, true, true, true, true, true, true, false, false, false, false, false, false, false, false, false, false, false, false, false, false, false, false, false, false] rfl rfl (take_ofW HT_.out HW_.out (by kernel_rfl)) (fun _ _ _ h => h) (Or.inl ⟨by rfl, ?_⟩) hHeld ?_ ?_
                                    rotate_left
                                    · rintro w' ⟨s0, s1, s2, s3, s4, s5, s6, s7⟩
                                      go_simp
                                      with_reducible rfl
                                    rotate_left
                                    · simp only [Act.put, List.setIfInBounds_toArray, List.set_cons_zero, List.set_cons_succ, i64_w, i32_w]
                                      rfl
                                    refine pure_ (i := 47) (N := some 100) (v := ?_) (a' := ?_) #[true, true, true, true, true, true, true, true, true, true, true, true, true, true, true, true, true, true, true, true, true, true, true, true, true, true, true, true, true, true, true, true, true, true, true, true, true, true, true, true, true, true, true, true, true, true, true, true, false, false, false, false, false, false, false, false, false, false, false, false, false, false, false, false, false] rfl rfl (any_of HT_.out (by kernel_rfl)) (fun _ _ _ h => h) (Or.inl ⟨by rfl, ?_⟩) ?_ ?_
                                    rotate_left
                                    · intro w'
                                      go_simp
                                      with_reducible rfl
                                    rotate_left
                                    · simp only [Act.put, List.setIfInBounds_toArray, List.set_cons_zero, List.set_cons_succ, i64_w, i32_w]
                                      rfl
                                    refine pure_ (i := 48) (N := some 101) (v := ?_) (a' := ?_) #[true, true, true, true, true, true, true, true, true, true, true, true, true, true, true, true, true, true, true, true, true, true, true, true, true, true, true, true, true, true, true, true, true, true, true, true, true, true, true, true, true, true, true, true, true, true, true, true, true, false, false, false, false, false, false, false, false, false, false, false, false, false, false, false, false] rfl rfl (any_of HT_.out (by kernel_rfl)) (fun _ _ _ h => h) (Or.inl ⟨by rfl, ?_⟩) ?_ ?_
                                    rotate_left
                                    · intro w'
                                      go_simp
                                      with_reducible rfl
                                    rotate_left
                                    · simp only [Act.put, List.setIfInBounds_toArray, List.set_cons_zero, List.set_cons_succ, i64_w, i32_w]
                                      rfl
                                    refine pure_ (i := 49) (N := some 102) (v := ?_) (a' := ?_) #[true, true, true, true, true, true, true, true, true, true, true, true, true, true, true, true, true, true, true, true, true, true, true, true, true, true, true, true, true, true, true, true, true, true, true, true, true, true, true, true, true, true, true, true, true, true, true, true, true, true, false, false, false, false, false, false, false, false, false, false, false, false, false, false, false] rfl rfl (any_of HT_.out (by kernel_rfl)) (fun _ _ _ h => h) (Or.inl ⟨by rfl, ?_⟩) ?_ ?_
                                    rotate_left
                                    · intro w'
                                      go_simp
                                      with_reducible rfl
                                    rotate_left
                                    · simp only [Act.put, List.setIfInBounds_toArray, List.set_cons_zero, List.set_cons_succ, i64_w, i32_w]
                                      rfl
                                    refine pure_ (i := 50) (N := some 103) (v := ?_) (a' := ?_) #[true, true, true, true, true, true, true, true, true, true, true, true, true, true, true, true, true, true, true, true, true, true, true, true, true, true, true, true, true, true, true, true, true, true, true, true, true, true, true, true, true, true, true, true, true, true, true, true, true, true, true, false, false, false, false, false, false, false, false, false, false, false, false, false, false] rfl rfl (any_of HT_.out (by kernel_rfl)) (fun _ _ _ h => h) (Or.inl ⟨by rfl, ?_⟩) ?_ ?_
                                    rotate_left
                                    · intro w'
                                      go_simp
                                      with_reducible rfl
                                    rotate_left
                                    · simp only [Act.put, List.setIfInBounds_toArray, List.set_cons_zero, List.set_cons_succ, i64_w, i32_w]
                                      rfl
                                    refine pure_ (i := 51) (N := some 104) (v := ?_) (a' := ?_) #[true, true, true, true, true, true, true, true, true, true, true, true, true, true, true, true, true, true, true, true, true, true, true, true, true, true, true, true, true, true, true, true, true, true, true, true, true, true, true, true, true, true, true, true, true, true, true, true, true, true, true, true, false, false, false, false, false, false, false, false, false, false, false, false, false] rfl rfl (any_of HT_.out (by kernel_rfl)) (fun _ _ _ h => h) (Or.inl ⟨by rfl, ?_⟩) ?_ ?_
                                    rotate_left
                                    · intro w'
                                      go_simp
                                      with_reducible rfl
                                    rotate_left
                                    · simp only [Act.put, List.setIfInBounds_toArray, List.set_cons_zero, List.set_cons_succ, i64_w, i32_w]
                                      rfl
                                    refine take_ (i := 52) (N := some 105) (v := ?_) (a' := ?_) #[true, true, true, true, true, true, true, true, true, true, true, true, true, true, true, true, true, true, true, true, true, true, true, true, true, true, true, true, true, true, true, true, true, true, true, true, true, true, true, true, true, true, true, true, true, true, true, true, true, true, true, true, true, false, false, false, false, false, false, false, false, false, false, false, false] rfl rfl (take_ofW HT_.out HW_.out (by kernel_rfl)) (fun _ _ _ h => h) (Or.inl ⟨by rfl, ?_⟩) hHeld ?_ ?_
                                    rotate_left
                                    · rintro w' ⟨s0, s1, s2, s3, s4, s5, s6, s7⟩
                                      go_simp
                                      with_reducible rfl
                                    rotate_left
                                    · simp only [Act.put, List.setIfInBounds_toArray, List.set_cons_zero, List.set_cons_succ, i64_w, i32_w]
                                      rfl
                                    refine pure_ (i := 53) (N := some 106) (v := ?_) (a' := ?_) #[true, true, true, true, true, true, true, true, true, true, true, true, true, true, true, true, true, true, true, true, true, true, true, true, true, true, true, true, true, true, true, true, true, true, true, true, true, true, true, true, true, true, true, true, true, true, true, true, true, true, true, true, true, true, false, false, false, false, false, false, false, false, false, false, false] rfl rfl (any_of HT_.out (by kernel_rfl)) (fun _ _ _ h => h) (Or.inl ⟨by rfl, ?_⟩) ?_ ?_
                                    rotate_left
                                    · intro w'
                                      go_simp
                                      with_reducible rfl
                                    rotate_left
                                    · simp only [Act.put, List.setIfInBounds_toArray, List.set_cons_zero, List.set_cons_succ, i64_w, i32_w]
                                      rfl
                                    refine pure_ (i := 54) (N := some 107) (v := ?_) (a' := ?_) #[true, true, true, true, true, true, true, true, true, true, true, true, true, true, true, true, true, true, true, true, true, true, true, true, true, true, true, true, true, true, true, true, true, true, true, true, true, true, true, true, true, true, true, true, true, true, true, true, true, true, true, true, true, true, true, false, false, false, false, false, false, false, false, false, false] rfl rfl (any_of HT_.out (by kernel_rfl)) (fun _ _ _ h => h) (Or.inl ⟨by rfl, ?_⟩) ?_ ?_
                                    rotate_left
                                    · intro w'
                                      go_simp
                                      with_reducible rfl
                                    rotate_left
                                    · simp only [Act.put, List.setIfInBounds_toArray, List.set_cons_zero, List.set_cons_succ, i64_w, i32_w]
                                      rfl
                                    refine pure_ (i := 55) (N := some 108) (v := ?_) (a' := ?_) #[true, true, true, true, true, true, true, true, true, true, true, true, true, true, true, true, true, true, true, true, true, true, true, true, true, true, true, true, true, true, true, true, true, true, true, true, true, true, true, true, true, true, true, true, true, true, true, true, true, true, true, true, true, true, true, true, false, false, false, false, false, false, false, false, false] rfl rfl (any_of HT_.out (by kernel_rfl)) (fun _ _ _ h => h) (Or.inl ⟨by rfl, ?_⟩) ?_ ?_
                                    rotate_left
                                    · intro w'
                                      go_simp
                                      with_reducible rfl
                                    rotate_left
                                    · simp only [Act.put, List.setIfInBounds_toArray, List.set_cons_zero, List.set_cons_succ, i64_w, i32_w]
                                      rfl
                                    refine take_ (i := 56) (N := some 109) (v := ?_) (a' := ?_) #[true, true, true, true, true, true, true, true, true, true, true, true, true, true, true, true, true, true, true, true, true, true, true, true, true, true, true, true, true, true, true, true, true, true, true, true, true, true, true, true, true, true, true, true, true, true, true, true, true, true, true, true, true, true, true, true, true, false, false, false, false, false, false, false, false] rfl rfl (take_ofW HT_.out HW_.out (by kernel_rfl)) (fun _ _ _ h => h) (Or.inl ⟨by rfl, ?_⟩) hHeld ?_ ?_
                                    rotate_left
                                    · rintro w' ⟨s0, s1, s2, s3, s4, s5, s6, s7⟩
                                      go_simp
                                      with_reducible rfl
                                    rotate_left
                                    · simp only [Act.put, List.setIfInBounds_toArray, List.set_cons_zero, List.set_cons_succ, i64_w, i32_w]
                                      rfl
                                    refine one_ (i := 57) (N := some 110) #[true, true, true, true, true, true, true, true, true, true, true, true, true, true, true, true, true, true, true, true, true, true, true, true, true, true, true, true, true, true, true, true, true, true, true, true, true, true, true, true, true, true, true, true, true, true, true, true, true, true, true, true, true, true, true, true, true, true, false, false, false, false, false, false, false] rfl rfl (one_of HT_.out (by kernel_rfl)) (by decide) (fun K hK => ?_)
                                    refine goes_ Try.func16 (by kernel_rfl) rfl #[.agg #[.int .i64 t174, .int .i64 t175, .string t176]] (by rfl) rfl rfl (by (try simp only [List.map_toArray, List.map_cons, List.map_nil]); first | done | rfl | (simp only [List.length_drop, List.length_take]; rfl)) ?_
                                    with_reducible refine (value_Right.calls t174 t175 t176 true _ A36.out).mono ?_
                                    rintro e w79 ⟨rfl, hb⟩
                                    have HS6_ := (hb.cell (World.block_lt_of_cell? _ _ (hHeld.2.2.2.2.2.2.1))).trans (hHeld.2.2.2.2.2.2.1)
                                    have HS7_ := (hb.cell (World.block_lt_of_cell? _ _ (hHeld.2.2.2.2.2.2.2))).trans (hHeld.2.2.2.2.2.2.2)
                                    refine ⟨_, rfl, ?_⟩
                                    have n0_ := Aside0.mk (Kd.R_below (by (with_reducible repeat (first | apply Kd.R_alloc | apply Kd.R_drewN | apply Kd.R_drew)); exact HO219.out) hb)
                                    have n1_ := Aside0.mk (Kd.R_below (by (with_reducible repeat (first | apply Kd.R_alloc | apply Kd.R_drewN | apply Kd.R_drew)); exact HO231.out) hb)
                                    have n2_ := Aside0.mk (blk_below (g := gb178) (o := .cells #[.int .i64 t174, .int .i64 t175, .string t176] 23 (0, 0)) (by (with_reducible repeat (first | refine blk_drewN ?_ _ | refine blk_drew ?_ | refine blk_alloc ?_ _)); exact BK178.out) hb)
                                    have n3_ := Aside0.mk (blk_below (g := gb189) (o := .cells #[.int .i64 t185, .int .i64 t186, .string t187] 23 (0, 0)) (by (with_reducible repeat (first | refine blk_drewN ?_ _ | refine blk_drew ?_ | refine blk_alloc ?_ _)); exact BK189.out) hb)
                                    have n4_ := Aside0.mk (blk_below (g := gb200) (o := .cells #[.int .i64 t196, .int .i64 t197, .string t198] 23 (0, 0)) (by (with_reducible repeat (first | refine blk_drewN ?_ _ | refine blk_drew ?_ | refine blk_alloc ?_ _)); exact BK200.out) hb)
                                    have n5_ := Aside0.mk (blk_below (g := gb225) (o := .cells #[.int .i64 t220, .int .i64 t221, .string t222] 23 (0, 0)) (by (with_reducible repeat (first | refine blk_drewN ?_ _ | refine blk_drew ?_ | refine blk_alloc ?_ _)); exact BK225.out) hb)
                                    have n6_ := Aside0.mk (below_step (by repeat (first | (with_reducible first | exact HB.out | apply below_alloc | apply pw_below_drewN | apply below_drew1 | refine below_set ?_ GE178.out | refine below_set ?_ GE189.out | refine below_set ?_ GE200.out | refine below_set ?_ GE225.out) | exact HB.out)) hb)
                                    clear HO219
                                    clear HO231
                                    clear BK178
                                    clear BK189
                                    clear BK200
                                    clear BK225
                                    clear HB
                                    have HO219 := n0_
                                    have HO231 := n1_
                                    have BK178 := n2_
                                    have BK189 := n3_
                                    have BK200 := n4_
                                    have BK225 := n5_
                                    have HB := n6_
                                    clear n0_ n1_ n2_ n3_ n4_ n5_ n6_
                                    (try clear hb)
                                    (try clear hb2)
                                    (try clear hk)
                                    (try clear hi)
                                    refine hK.out _ _ ⟨(blk_cell BK178.out 0).trans rfl, (blk_cell BK178.out 1).trans rfl, (blk_cell BK178.out 2).trans rfl, (blk_cell BK225.out 0).trans rfl, (blk_cell BK225.out 1).trans rfl, (blk_cell BK225.out 2).trans rfl, HS6_, HS7_⟩ (fun hHeld => ?_)
                                    clear hK K
                                    refine norm_ (a' := ?_) ?_ ?_
                                    rotate_left
                                    · show Act.put _ (some 110) _ = _
                                      simp only [Act.put, List.setIfInBounds_toArray, List.set_cons_zero, List.set_cons_succ, i64_w, i32_w]
                                      rfl
                                    refine pure_ (i := 58) (N := some 111) (v := ?_) (a' := ?_) #[true, true, true, true, true, true, true, true, true, true, true, true, true, true, true, true, true, true, true, true, true, true, true, true, true, true, true, true, true, true, true, true, true, true, true, true, true, true, true, true, true, true, true, true, true, true, true, true, true, true, true, true, true, true, true, true, true, true, true, false, false, false, false, false, false] rfl rfl (any_of HT_.out (by kernel_rfl)) (fun _ _ _ h => h) (Or.inl ⟨by rfl, ?_⟩) ?_ ?_
                                    rotate_left
                                    · intro w'
                                      go_simp
                                      with_reducible rfl
                                    rotate_left
                                    · simp only [Act.put, List.setIfInBounds_toArray, List.set_cons_zero, List.set_cons_succ, i64_w, i32_w]
                                      rfl
                                    refine pure_ (i := 59) (N := some 112) (v := ?_) (a' := ?_) #[true, true, true, true, true, true, true, true, true, true, true, true, true, true, true, true, true, true, true, true, true, true, true, true, true, true, true, true, true, true, true, true, true, true, true, true, true, true, true, true, true, true, true, true, true, true, true, true, true, true, true, true, true, true, true, true, true, true, true, true, false, false, false, false, false] rfl rfl (any_of HT_.out (by kernel_rfl)) (fun _ _ _ h => h) (Or.inl ⟨by rfl, ?_⟩) ?_ ?_
                                    rotate_left
                                    · intro w'
                                      go_simp
                                      with_reducible rfl
                                    rotate_left
                                    · simp only [Act.put, List.setIfInBounds_toArray, List.set_cons_zero, List.set_cons_succ, i64_w, i32_w]
                                      rfl
                                    refine pure_ (i := 60) (N := some 113) (v := ?_) (a' := ?_) #[true, true, true, true, true, true, true, true, true, true, true, true, true, true, true, true, true, true, true, true, true, true, true, true, true, true, true, true, true, true, true, true, true, true, true, true, true, true, true, true, true, true, true, true, true, true, true, true, true, true, true, true, true, true, true, true, true, true, true, true, true, false, false, false, false] rfl rfl (any_of HT_.out (by kernel_rfl)) (fun _ _ _ h => h) (Or.inl ⟨by rfl, ?_⟩) ?_ ?_
                                    rotate_left
                                    · intro w'
                                      go_simp
                                      with_reducible rfl
                                    rotate_left
                                    · simp only [Act.put, List.setIfInBounds_toArray, List.set_cons_zero, List.set_cons_succ, i64_w, i32_w]
                                      rfl
                                    refine one_ (i := 61) (N := some 114) #[true, true, true, true, true, true, true, true, true, true, true, true, true, true, true, true, true, true, true, true, true, true, true, true, true, true, true, true, true, true, true, true, true, true, true, true, true, true, true, true, true, true, true, true, true, true, true, true, true, true, true, true, true, true, true, true, true, true, true, true, true, true, false, false, false] rfl rfl (one_of HT_.out (by kernel_rfl)) (by decide) (fun K hK => ?_)
                                    refine goes_ Try.func16 (by kernel_rfl) rfl #[.agg #[.int .i64 0, .int .i64 0, .string (⟨#[]⟩ : ByteArray)]] (by rfl) rfl rfl (by (try simp only [List.map_toArray, List.map_cons, List.map_nil]); first | done | rfl | (simp only [List.length_drop, List.length_take]; rfl)) ?_
                                    with_reducible refine (value_Right.calls 0 0 (⟨#[]⟩ : ByteArray) false _ A38.out).mono ?_
                                    rintro e w80 ⟨rfl, hb⟩
                                    have HS6_ := (hb.cell (World.block_lt_of_cell? _ _ (hHeld.2.2.2.2.2.2.1))).trans (hHeld.2.2.2.2.2.2.1)
                                    have HS7_ := (hb.cell (World.block_lt_of_cell? _ _ (hHeld.2.2.2.2.2.2.2))).trans (hHeld.2.2.2.2.2.2.2)
                                    refine ⟨_, rfl, ?_⟩
                                    have n0_ := Aside0.mk (Kd.R_below (by (with_reducible repeat (first | apply Kd.R_alloc | apply Kd.R_drewN | apply Kd.R_drew)); exact HO219.out) hb)
                                    have n1_ := Aside0.mk (Kd.R_below (by (with_reducible repeat (first | apply Kd.R_alloc | apply Kd.R_drewN | apply Kd.R_drew)); exact HO231.out) hb)
                                    have n2_ := Aside0.mk (blk_below (g := gb178) (o := .cells #[.int .i64 t174, .int .i64 t175, .string t176] 23 (0, 0)) (by (with_reducible repeat (first | refine blk_drewN ?_ _ | refine blk_drew ?_ | refine blk_alloc ?_ _)); exact BK178.out) hb)
                                    have n3_ := Aside0.mk (blk_below (g := gb189) (o := .cells #[.int .i64 t185, .int .i64 t186, .string t187] 23 (0, 0)) (by (with_reducible repeat (first | refine blk_drewN ?_ _ | refine blk_drew ?_ | refine blk_alloc ?_ _)); exact BK189.out) hb)
                                    have n4_ := Aside0.mk (blk_below (g := gb200) (o := .cells #[.int .i64 t196, .int .i64 t197, .string t198] 23 (0, 0)) (by (with_reducible repeat (first | refine blk_drewN ?_ _ | refine blk_drew ?_ | refine blk_alloc ?_ _)); exact BK200.out) hb)
                                    have n5_ := Aside0.mk (blk_below (g := gb225) (o := .cells #[.int .i64 t220, .int .i64 t221, .string t222] 23 (0, 0)) (by (with_reducible repeat (first | refine blk_drewN ?_ _ | refine blk_drew ?_ | refine blk_alloc ?_ _)); exact BK225.out) hb)
                                    have n6_ := Aside0.mk (below_step (by repeat (first | (with_reducible first | exact HB.out | apply below_alloc | apply pw_below_drewN | apply below_drew1 | refine below_set ?_ GE178.out | refine below_set ?_ GE189.out | refine below_set ?_ GE200.out | refine below_set ?_ GE225.out) | exact HB.out)) hb)
                                    clear HO219
                                    clear HO231
                                    clear BK178
                                    clear BK189
                                    clear BK200
                                    clear BK225
                                    clear HB
                                    have HO219 := n0_
                                    have HO231 := n1_
                                    have BK178 := n2_
                                    have BK189 := n3_
                                    have BK200 := n4_
                                    have BK225 := n5_
                                    have HB := n6_
                                    clear n0_ n1_ n2_ n3_ n4_ n5_ n6_
                                    (try clear hb)
                                    (try clear hb2)
                                    (try clear hk)
                                    (try clear hi)
                                    refine hK.out _ _ ⟨(blk_cell BK178.out 0).trans rfl, (blk_cell BK178.out 1).trans rfl, (blk_cell BK178.out 2).trans rfl, (blk_cell BK225.out 0).trans rfl, (blk_cell BK225.out 1).trans rfl, (blk_cell BK225.out 2).trans rfl, HS6_, HS7_⟩ (fun hHeld => ?_)
                                    clear hK K
                                    refine norm_ (a' := ?_) ?_ ?_
                                    rotate_left
                                    · show Act.put _ (some 114) _ = _
                                      simp only [Act.put, List.setIfInBounds_toArray, List.set_cons_zero, List.set_cons_succ, i64_w, i32_w]
                                      rfl
                                    refine pure_ (i := 62) (N := some 115) (v := ?_) (a' := ?_) #[true, true, true, true, true, true, true, true, true, true, true, true, true, true, true, true, true, true, true, true, true, true, true, true, true, true, true, true, true, true, true, true, true, true, true, true, true, true, true, true, true, true, true, true, true, true, true, true, true, true, true, true, true, true, true, true, true, true, true, true, true, true, true, false, false] rfl rfl (any_of HT_.out (by kernel_rfl)) (fun _ _ _ h => h) (Or.inl ⟨by rfl, ?_⟩) ?_ ?_
                                    rotate_left
                                    · intro w'
                                      go_simp
                                      with_reducible rfl
                                    rotate_left
                                    · simp only [Act.put, List.setIfInBounds_toArray, List.set_cons_zero, List.set_cons_succ, i64_w, i32_w]
                                      rfl
                                    refine pure_ (i := 63) (N := some 116) (v := ?_) (a' := ?_) #[true, true, true, true, true, true, true, true, true, true, true, true, true, true, true, true, true, true, true, true, true, true, true, true, true, true, true, true, true, true, true, true, true, true, true, true, true, true, true, true, true, true, true, true, true, true, true, true, true, true, true, true, true, true, true, true, true, true, true, true, true, true, true, true, false] rfl rfl (any_of HT_.out (by kernel_rfl)) (fun _ _ _ h => h) (Or.inl ⟨by rfl, ?_⟩) ?_ ?_
                                    rotate_left
                                    · intro w'
                                      go_simp
                                      with_reducible rfl
                                    rotate_left
                                    · simp only [Act.put, List.setIfInBounds_toArray, List.set_cons_zero, List.set_cons_succ, i64_w, i32_w]
                                      rfl
                                    refine pure_ (i := 64) (N := some 0) (v := ?_) (a' := ?_) #[true, true, true, true, true, true, true, true, true, true, true, true, true, true, true, true, true, true, true, true, true, true, true, true, true, true, true, true, true, true, true, true, true, true, true, true, true, true, true, true, true, true, true, true, true, true, true, true, true, true, true, true, true, true, true, true, true, true, true, true, true, true, true, true, true] rfl rfl (any_of HT_.out (by kernel_rfl)) (fun _ _ _ h => h) (Or.inl ⟨by rfl, ?_⟩) ?_ ?_
                                    rotate_left
                                    · intro w'
                                      go_simp
                                      with_reducible rfl
                                    rotate_left
                                    · simp only [Act.put, List.setIfInBounds_toArray, List.set_cons_zero, List.set_cons_succ, i64_w, i32_w]
                                      rfl
                                    refine done_ (done_of HT_.out (by kernel_rfl)) ?_
                                    try go_wp2
                                    go_ret
                                    exact ⟨by first | rfl | (simp [errW_none, errW_some] <;> rfl) | (simp [*, errW_none, errW_some] <;> rfl), by repeat (first | (with_reducible first | exact HB.out | apply below_alloc | apply pw_below_drewN | apply below_drew1 | refine below_set ?_ GE178.out | refine below_set ?_ GE189.out | refine below_set ?_ GE200.out | refine below_set ?_ GE225.out) | exact HB.out)⟩
                                · replace c37 := Bool.eq_false_iff.mpr c37
                                  subst c37
                                  have H1 : (none) = some r := by rw [if_neg (show ¬ (false = true) by decide)] at H; exact H
                                  clear H
                                  have H := H1
                                  clear H1
                                  exact absurd H (by simp)
                              · rw [if_neg c35] at H
                                have c35b0 : ((rd t229 1) == 1) = false := beq_eq_false_iff_ne.mpr c35
                                have c35b1 : ((rd t229 1) != 1) = true := bne_iff_ne.mpr c35
                                exact absurd H (by simp)
                            · rw [if_neg c34] at H
                              exact absurd H (by simp)
                          · rw [if_neg c33] at H
                            have c33b0 : ((rd t229 0) == 1) = false := beq_eq_false_iff_ne.mpr c33
                            have c33b1 : ((rd t229 0) != 1) = true := bne_iff_ne.mpr c33
                            exact absurd H (by simp)
                        · rw [if_neg c32] at H
                          exact absurd H (by simp)
                      · rw [if_neg c31] at H
                        have c31b0 : ((t229.length : Int) == 2) = false := beq_eq_false_iff_ne.mpr c31
                        have c31b1 : ((t229.length : Int) != 2) = true := bne_iff_ne.mpr c31
                        exact absurd H (by simp)
                    · replace c30 := Bool.eq_false_iff.mpr c30
                      subst c30
                      have H1 : (none) = some r := by rw [if_neg (show ¬ (false = true) by decide)] at H; exact H
                      clear H
                      have H := H1
                      clear H1
                      exact absurd H (by simp)
                  · rw [if_neg c29] at H
                    have c29b0 : (t223 == 2) = false := beq_eq_false_iff_ne.mpr c29
                    have c29b1 : (t223 != 2) = true := bne_iff_ne.mpr c29
                    exact absurd H (by simp)
                · rw [if_neg c28] at H
                  have c28b0 : (t220 == t235 && (t221 == t236 && (t222.toList == t237.toList))) = false := by simpa using c28
                  (try (have c28b1 : decide (t220 = t235 && (t221 == t236 && (t222.toList == t237.toList))) = false := by simpa using c28))
                  (try (have c28b2 : (t220 == t235 && (t221 == t236 && (t222.toList == t237.toList))) = false := by simpa using c28))
                  (try (have c28b3 : ¬ (t220 = t235 && (t221 == t236 && (t222.toList == t237.toList))) := by simpa using c28))
                  clear c28
                  exact absurd H (by simp)
              · rw [if_neg c26] at H
                have c26b0 : (t216 == 42) = false := beq_eq_false_iff_ne.mpr c26
                have c26b1 : (t216 != 42) = true := bne_iff_ne.mpr c26
                exact absurd H (by simp)
            · rw [if_neg c25] at H
              have c25b0 : (t208 == 0) = false := beq_eq_false_iff_ne.mpr c25
              have c25b1 : (t208 != 0) = true := bne_iff_ne.mpr c25
              exact absurd H (by simp)
          · replace c24 := Bool.eq_false_iff.mpr c24
            subst c24
            have H1 : (none) = some r := by rw [if_neg (show ¬ (false = true) by decide)] at H; exact H
            clear H
            have H := H1
            clear H1
            exact absurd H (by simp)
        · rw [if_neg c23] at H
          have c23b0 : (t199 == 42) = false := beq_eq_false_iff_ne.mpr c23
          have c23b1 : (t199 != 42) = true := bne_iff_ne.mpr c23
          exact absurd H (by simp)
      · rw [if_neg c22] at H
        have c22b0 : (t188 == 41) = false := beq_eq_false_iff_ne.mpr c22
        have c22b1 : (t188 != 41) = true := bne_iff_ne.mpr c22
        exact absurd H (by simp)
    · rw [if_neg c21] at H
      have c21b0 : (t177 == 0) = false := beq_eq_false_iff_ne.mpr c21
      have c21b1 : (t177 != 0) = true := bne_iff_ne.mpr c21
      exact absurd H (by simp)
  · rw [if_neg c20] at H
    have c20b0 : (t174 == t232 && (t175 == t233 && (t176.toList == t234.toList))) = false := by simpa using c20
    (try (have c20b1 : decide (t174 = t232 && (t175 == t233 && (t176.toList == t234.toList))) = false := by simpa using c20))
    (try (have c20b2 : (t174 == t232 && (t175 == t233 && (t176.toList == t234.toList))) = false := by simpa using c20))
    (try (have c20b3 : ¬ (t174 = t232 && (t175 == t233 && (t176.toList == t234.toList))) := by simpa using c20))
    clear c20
    exact absurd H (by simp)

end Go.Proofs.Ytlbaoekmnfeogaa.PAll
