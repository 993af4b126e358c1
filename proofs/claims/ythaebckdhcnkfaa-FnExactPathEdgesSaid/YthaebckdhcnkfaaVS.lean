import Derived.Test.YthaebckdhcnkfaaT2
set_option linter.unusedSimpArgs false
set_option linter.unusedVariables false
namespace Cal
open Go Go.Proofs
set_option maxRecDepth 100000
/-- The code of spec.ValidGraph. -/
def k12 : Code1 :=
  (.seq
    (.region [1] false ([]) [
      ⟨some 1, Op.box 27 (Operand.tmp 0), none⟩,
      ⟨some 2, Op.assign (Operand.const (Value.bool false)), none⟩])
    (.seq
      (.region [] false ([]) [
        ⟨some 12, Op.fieldAddr 27 (Operand.tmp 1) 5, none⟩,
        ⟨some 13, Op.load 22 (Operand.tmp 12), none⟩,
        ⟨some 14, Op.call { callee := Callee.builtin Builtin.len, args := #[Operand.tmp 13], argTypes := #[22] }, none⟩,
        ⟨some 3, Op.assign (Operand.tmp 14), none⟩])
      (.seq
        (.region [] false ([]) [
          ⟨some 15, Op.fieldAddr 27 (Operand.tmp 1) 0, none⟩,
          ⟨some 16, Op.load 22 (Operand.tmp 15), none⟩,
          ⟨some 17, Op.call { callee := Callee.builtin Builtin.len, args := #[Operand.tmp 16], argTypes := #[22] }, none⟩,
          ⟨some 4, Op.assign (Operand.tmp 17), none⟩])
        (.seq
          (.seq
            (.region [] false ([]) [
              ⟨some 18, Op.move (Operand.tmp 3), none⟩,
              ⟨some 19, Op.binOp BinOp.gtr 2 (Operand.tmp 18) (Operand.const (Value.int IntKind.i64 4000)) 2, none⟩,
              ⟨some 20, Op.move (Operand.tmp 19), none⟩,
              ⟨some 21, Op.fieldAddr 27 (Operand.tmp 1) 6, some (20, false)⟩,
              ⟨some 22, Op.load 22 (Operand.tmp 21), some (20, false)⟩,
              ⟨some 23, Op.call { callee := Callee.builtin Builtin.len, args := #[Operand.tmp 22], argTypes := #[22] }, some (20, false)⟩,
              ⟨some 24, Op.move (Operand.tmp 3), some (20, false)⟩,
              ⟨some 25, Op.binOp BinOp.neq 2 (Operand.tmp 23) (Operand.tmp 24) 2, some (20, false)⟩,
              ⟨some 26, Op.pick (Operand.tmp 20) (Operand.const (Value.bool true)) (Operand.tmp 25), none⟩,
              ⟨some 27, Op.move (Operand.tmp 26), none⟩,
              ⟨some 28, Op.move (Operand.tmp 4), some (27, false)⟩,
              ⟨some 29, Op.binOp BinOp.gtr 2 (Operand.tmp 28) (Operand.const (Value.int IntKind.i64 6000)) 2, some (27, false)⟩,
              ⟨some 30, Op.pick (Operand.tmp 27) (Operand.const (Value.bool true)) (Operand.tmp 29), none⟩,
              ⟨some 31, Op.move (Operand.tmp 30), none⟩,
              ⟨some 32, Op.fieldAddr 27 (Operand.tmp 1) 1, some (31, false)⟩,
              ⟨some 33, Op.load 22 (Operand.tmp 32), some (31, false)⟩,
              ⟨some 34, Op.call { callee := Callee.builtin Builtin.len, args := #[Operand.tmp 33], argTypes := #[22] }, some (31, false)⟩,
              ⟨some 35, Op.move (Operand.tmp 4), some (31, false)⟩,
              ⟨some 36, Op.binOp BinOp.neq 2 (Operand.tmp 34) (Operand.tmp 35) 2, some (31, false)⟩,
              ⟨some 37, Op.pick (Operand.tmp 31) (Operand.const (Value.bool true)) (Operand.tmp 36), none⟩])
            (.cond (Operand.tmp 37)
              (.seq
                (.region [] false ([]) [
                  ⟨some 2, Op.assign (Operand.const (Value.bool false)), none⟩])
                .ret)
              .skip))
          (.seq
            (.seq
              (.region [] false ([]) [
                ⟨some 5, Op.assign (Operand.const (Value.int IntKind.i64 0)), none⟩])
              (.block 0
                (.loop
                  (.seq
                    (.seq
                      (.region [] false ([]) [
                        ⟨some 38, Op.move (Operand.tmp 5), none⟩,
                        ⟨some 39, Op.fieldAddr 27 (Operand.tmp 1) 6, none⟩,
                        ⟨some 40, Op.load 22 (Operand.tmp 39), none⟩,
                        ⟨some 41, Op.call { callee := Callee.builtin Builtin.len, args := #[Operand.tmp 40], argTypes := #[22] }, none⟩,
                        ⟨some 42, Op.binOp BinOp.lss 3 (Operand.tmp 38) (Operand.tmp 41) 3, none⟩])
                      (.cond (Operand.tmp 42)
                        .skip
                        (.exit 0)))
                    (.seq
                      (.block 1
                        (.seq
                          (.region [50] false ([]) [
                            ⟨some 45, Op.fieldAddr 27 (Operand.tmp 1) 6, none⟩,
                            ⟨some 46, Op.load 22 (Operand.tmp 45), none⟩,
                            ⟨some 47, Op.move (Operand.tmp 5), none⟩,
                            ⟨some 48, Op.indexAddr 22 (Operand.tmp 46) (Operand.tmp 47), none⟩,
                            ⟨some 49, Op.load 2 (Operand.tmp 48), none⟩,
                            ⟨some 50, Op.call { callee := Callee.value (Operand.func 42), args := #[Operand.tmp 49], argTypes := #[2] }, none⟩,
                            ⟨some 51, Op.unOp UnOp.not 4 (Operand.tmp 50), none⟩])
                          (.cond (Operand.tmp 51)
                            (.seq
                              (.region [] false ([]) [
                                ⟨some 2, Op.assign (Operand.const (Value.bool false)), none⟩])
                              .ret)
                            .skip)))
                      (.region [] false ([]) [
                        ⟨some 43, Op.move (Operand.tmp 5), none⟩,
                        ⟨some 44, Op.binOp BinOp.add 3 (Operand.tmp 43) (Operand.const (Value.int IntKind.i64 1)) 3, none⟩,
                        ⟨some 5, Op.assign (Operand.tmp 44), none⟩]))))))
            (.seq
              (.seq
                (.region [] false ([]) [
                  ⟨some 6, Op.assign (Operand.const (Value.int IntKind.i64 0)), none⟩])
                (.block 2
                  (.loop
                    (.seq
                      (.seq
                        (.region [] false ([]) [
                          ⟨some 52, Op.move (Operand.tmp 6), none⟩,
                          ⟨some 53, Op.fieldAddr 27 (Operand.tmp 1) 0, none⟩,
                          ⟨some 54, Op.load 22 (Operand.tmp 53), none⟩,
                          ⟨some 55, Op.call { callee := Callee.builtin Builtin.len, args := #[Operand.tmp 54], argTypes := #[22] }, none⟩,
                          ⟨some 56, Op.binOp BinOp.lss 3 (Operand.tmp 52) (Operand.tmp 55) 3, none⟩])
                        (.cond (Operand.tmp 56)
                          .skip
                          (.exit 2)))
                      (.seq
                        (.block 3
                          (.seq
                            (.seq
                              (.region [] false ([]) [
                                ⟨some 59, Op.fieldAddr 27 (Operand.tmp 1) 0, none⟩,
                                ⟨some 60, Op.load 22 (Operand.tmp 59), none⟩,
                                ⟨some 61, Op.move (Operand.tmp 6), none⟩,
                                ⟨some 62, Op.indexAddr 22 (Operand.tmp 60) (Operand.tmp 61), none⟩,
                                ⟨some 63, Op.load 2 (Operand.tmp 62), none⟩,
                                ⟨some 64, Op.binOp BinOp.lss 2 (Operand.tmp 63) (Operand.const (Value.int IntKind.i64 0)) 2, none⟩,
                                ⟨some 65, Op.move (Operand.tmp 64), none⟩,
                                ⟨some 66, Op.fieldAddr 27 (Operand.tmp 1) 0, some (65, false)⟩,
                                ⟨some 67, Op.load 22 (Operand.tmp 66), some (65, false)⟩,
                                ⟨some 68, Op.move (Operand.tmp 6), some (65, false)⟩,
                                ⟨some 69, Op.indexAddr 22 (Operand.tmp 67) (Operand.tmp 68), some (65, false)⟩,
                                ⟨some 70, Op.load 2 (Operand.tmp 69), some (65, false)⟩,
                                ⟨some 71, Op.move (Operand.tmp 3), some (65, false)⟩,
                                ⟨some 72, Op.binOp BinOp.geq 2 (Operand.tmp 70) (Operand.tmp 71) 2, some (65, false)⟩,
                                ⟨some 73, Op.pick (Operand.tmp 65) (Operand.const (Value.bool true)) (Operand.tmp 72), none⟩,
                                ⟨some 74, Op.move (Operand.tmp 73), none⟩,
                                ⟨some 75, Op.fieldAddr 27 (Operand.tmp 1) 1, some (74, false)⟩,
                                ⟨some 76, Op.load 22 (Operand.tmp 75), some (74, false)⟩,
                                ⟨some 77, Op.move (Operand.tmp 6), some (74, false)⟩,
                                ⟨some 78, Op.indexAddr 22 (Operand.tmp 76) (Operand.tmp 77), some (74, false)⟩,
                                ⟨some 79, Op.load 2 (Operand.tmp 78), some (74, false)⟩,
                                ⟨some 80, Op.binOp BinOp.lss 2 (Operand.tmp 79) (Operand.const (Value.int IntKind.i64 0)) 2, some (74, false)⟩,
                                ⟨some 81, Op.pick (Operand.tmp 74) (Operand.const (Value.bool true)) (Operand.tmp 80), none⟩,
                                ⟨some 82, Op.move (Operand.tmp 81), none⟩,
                                ⟨some 83, Op.fieldAddr 27 (Operand.tmp 1) 1, some (82, false)⟩,
                                ⟨some 84, Op.load 22 (Operand.tmp 83), some (82, false)⟩,
                                ⟨some 85, Op.move (Operand.tmp 6), some (82, false)⟩,
                                ⟨some 86, Op.indexAddr 22 (Operand.tmp 84) (Operand.tmp 85), some (82, false)⟩,
                                ⟨some 87, Op.load 2 (Operand.tmp 86), some (82, false)⟩,
                                ⟨some 88, Op.binOp BinOp.geq 2 (Operand.tmp 87) (Operand.const (Value.int IntKind.i64 2000)) 2, some (82, false)⟩,
                                ⟨some 89, Op.pick (Operand.tmp 82) (Operand.const (Value.bool true)) (Operand.tmp 88), none⟩])
                              (.cond (Operand.tmp 89)
                                (.seq
                                  (.region [] false ([]) [
                                    ⟨some 2, Op.assign (Operand.const (Value.bool false)), none⟩])
                                  .ret)
                                .skip))
                            (.seq
                              (.region [] true ([]) [
                                ⟨some 90, Op.move (Operand.tmp 6), none⟩,
                                ⟨some 91, Op.binOp BinOp.gtr 3 (Operand.tmp 90) (Operand.const (Value.int IntKind.i64 0)) 3, none⟩,
                                ⟨some 92, Op.move (Operand.tmp 91), none⟩,
                                ⟨some 93, Op.fieldAddr 27 (Operand.tmp 1) 0, some (92, true)⟩,
                                ⟨some 94, Op.load 22 (Operand.tmp 93), some (92, true)⟩,
                                ⟨some 95, Op.move (Operand.tmp 6), some (92, true)⟩,
                                ⟨some 96, Op.indexAddr 22 (Operand.tmp 94) (Operand.tmp 95), some (92, true)⟩,
                                ⟨some 97, Op.load 2 (Operand.tmp 96), some (92, true)⟩,
                                ⟨some 98, Op.fieldAddr 27 (Operand.tmp 1) 0, some (92, true)⟩,
                                ⟨some 99, Op.load 22 (Operand.tmp 98), some (92, true)⟩,
                                ⟨some 100, Op.move (Operand.tmp 6), some (92, true)⟩,
                                ⟨some 101, Op.binOp BinOp.sub 3 (Operand.tmp 100) (Operand.const (Value.int IntKind.i64 1)) 3, some (92, true)⟩,
                                ⟨some 102, Op.indexAddr 22 (Operand.tmp 99) (Operand.tmp 101), some (92, true)⟩,
                                ⟨some 103, Op.load 2 (Operand.tmp 102), some (92, true)⟩,
                                ⟨some 104, Op.binOp BinOp.lss 2 (Operand.tmp 97) (Operand.tmp 103) 2, some (92, true)⟩,
                                ⟨some 105, Op.move (Operand.tmp 104), some (92, true)⟩,
                                ⟨some 106, Op.fieldAddr 27 (Operand.tmp 1) 0, some (105, false)⟩,
                                ⟨some 107, Op.load 22 (Operand.tmp 106), some (105, false)⟩,
                                ⟨some 108, Op.move (Operand.tmp 6), some (105, false)⟩,
                                ⟨some 109, Op.indexAddr 22 (Operand.tmp 107) (Operand.tmp 108), some (105, false)⟩,
                                ⟨some 110, Op.load 2 (Operand.tmp 109), some (105, false)⟩,
                                ⟨some 111, Op.fieldAddr 27 (Operand.tmp 1) 0, some (105, false)⟩,
                                ⟨some 112, Op.load 22 (Operand.tmp 111), some (105, false)⟩,
                                ⟨some 113, Op.move (Operand.tmp 6), some (105, false)⟩,
                                ⟨some 114, Op.binOp BinOp.sub 3 (Operand.tmp 113) (Operand.const (Value.int IntKind.i64 1)) 3, some (105, false)⟩,
                                ⟨some 115, Op.indexAddr 22 (Operand.tmp 112) (Operand.tmp 114), some (105, false)⟩,
                                ⟨some 116, Op.load 2 (Operand.tmp 115), some (105, false)⟩,
                                ⟨some 117, Op.binOp BinOp.eql 2 (Operand.tmp 110) (Operand.tmp 116) 2, some (105, false)⟩,
                                ⟨some 118, Op.move (Operand.tmp 117), some (105, false)⟩,
                                ⟨some 119, Op.fieldAddr 27 (Operand.tmp 1) 1, some (118, true)⟩,
                                ⟨some 120, Op.load 22 (Operand.tmp 119), some (118, true)⟩,
                                ⟨some 121, Op.move (Operand.tmp 6), some (118, true)⟩,
                                ⟨some 122, Op.indexAddr 22 (Operand.tmp 120) (Operand.tmp 121), some (118, true)⟩,
                                ⟨some 123, Op.load 2 (Operand.tmp 122), some (118, true)⟩,
                                ⟨some 124, Op.fieldAddr 27 (Operand.tmp 1) 1, some (118, true)⟩,
                                ⟨some 125, Op.load 22 (Operand.tmp 124), some (118, true)⟩,
                                ⟨some 126, Op.move (Operand.tmp 6), some (118, true)⟩,
                                ⟨some 127, Op.binOp BinOp.sub 3 (Operand.tmp 126) (Operand.const (Value.int IntKind.i64 1)) 3, some (118, true)⟩,
                                ⟨some 128, Op.indexAddr 22 (Operand.tmp 125) (Operand.tmp 127), some (118, true)⟩,
                                ⟨some 129, Op.load 2 (Operand.tmp 128), some (118, true)⟩,
                                ⟨some 130, Op.binOp BinOp.leq 2 (Operand.tmp 123) (Operand.tmp 129) 2, some (118, true)⟩,
                                ⟨some 131, Op.pick (Operand.tmp 118) (Operand.tmp 130) (Operand.const (Value.bool false)), some (105, false)⟩,
                                ⟨some 132, Op.pick (Operand.tmp 105) (Operand.const (Value.bool true)) (Operand.tmp 131), some (92, true)⟩,
                                ⟨some 133, Op.pick (Operand.tmp 92) (Operand.tmp 132) (Operand.const (Value.bool false)), none⟩])
                              (.cond (Operand.tmp 133)
                                (.seq
                                  (.region [] false ([]) [
                                    ⟨some 2, Op.assign (Operand.const (Value.bool false)), none⟩])
                                  .ret)
                                .skip))))
                        (.region [] false ([]) [
                          ⟨some 57, Op.move (Operand.tmp 6), none⟩,
                          ⟨some 58, Op.binOp BinOp.add 3 (Operand.tmp 57) (Operand.const (Value.int IntKind.i64 1)) 3, none⟩,
                          ⟨some 6, Op.assign (Operand.tmp 58), none⟩]))))))
              (.seq
                (.seq
                  (.region [] false ([]) [
                    ⟨some 7, Op.assign (Operand.const (Value.int IntKind.i64 0)), none⟩])
                  (.block 4
                    (.loop
                      (.seq
                        (.seq
                          (.region [] false ([]) [
                            ⟨some 134, Op.move (Operand.tmp 7), none⟩,
                            ⟨some 135, Op.fieldAddr 27 (Operand.tmp 1) 5, none⟩,
                            ⟨some 136, Op.load 22 (Operand.tmp 135), none⟩,
                            ⟨some 137, Op.call { callee := Callee.builtin Builtin.len, args := #[Operand.tmp 136], argTypes := #[22] }, none⟩,
                            ⟨some 138, Op.binOp BinOp.lss 3 (Operand.tmp 134) (Operand.tmp 137) 3, none⟩])
                          (.cond (Operand.tmp 138)
                            .skip
                            (.exit 4)))
                        (.seq
                          (.block 5
                            (.seq
                              (.region [] true ([]) [
                                ⟨some 141, Op.fieldAddr 27 (Operand.tmp 1) 5, none⟩,
                                ⟨some 142, Op.load 22 (Operand.tmp 141), none⟩,
                                ⟨some 143, Op.move (Operand.tmp 7), none⟩,
                                ⟨some 144, Op.indexAddr 22 (Operand.tmp 142) (Operand.tmp 143), none⟩,
                                ⟨some 145, Op.load 2 (Operand.tmp 144), none⟩,
                                ⟨some 146, Op.binOp BinOp.lss 2 (Operand.tmp 145) (Operand.const (Value.int IntKind.i64 0)) 2, none⟩,
                                ⟨some 147, Op.move (Operand.tmp 146), none⟩,
                                ⟨some 148, Op.fieldAddr 27 (Operand.tmp 1) 5, some (147, false)⟩,
                                ⟨some 149, Op.load 22 (Operand.tmp 148), some (147, false)⟩,
                                ⟨some 150, Op.move (Operand.tmp 7), some (147, false)⟩,
                                ⟨some 151, Op.indexAddr 22 (Operand.tmp 149) (Operand.tmp 150), some (147, false)⟩,
                                ⟨some 152, Op.load 2 (Operand.tmp 151), some (147, false)⟩,
                                ⟨some 153, Op.move (Operand.tmp 4), some (147, false)⟩,
                                ⟨some 154, Op.binOp BinOp.geq 2 (Operand.tmp 152) (Operand.tmp 153) 2, some (147, false)⟩,
                                ⟨some 155, Op.pick (Operand.tmp 147) (Operand.const (Value.bool true)) (Operand.tmp 154), none⟩,
                                ⟨some 156, Op.move (Operand.tmp 155), none⟩,
                                ⟨some 157, Op.fieldAddr 27 (Operand.tmp 1) 0, some (156, false)⟩,
                                ⟨some 158, Op.load 22 (Operand.tmp 157), some (156, false)⟩,
                                ⟨some 159, Op.fieldAddr 27 (Operand.tmp 1) 5, some (156, false)⟩,
                                ⟨some 160, Op.load 22 (Operand.tmp 159), some (156, false)⟩,
                                ⟨some 161, Op.move (Operand.tmp 7), some (156, false)⟩,
                                ⟨some 162, Op.indexAddr 22 (Operand.tmp 160) (Operand.tmp 161), some (156, false)⟩,
                                ⟨some 163, Op.load 2 (Operand.tmp 162), some (156, false)⟩,
                                ⟨some 164, Op.indexAddr 22 (Operand.tmp 158) (Operand.tmp 163), some (156, false)⟩,
                                ⟨some 165, Op.load 2 (Operand.tmp 164), some (156, false)⟩,
                                ⟨some 166, Op.move (Operand.tmp 7), some (156, false)⟩,
                                ⟨some 167, Op.binOp BinOp.neq 2 (Operand.tmp 165) (Operand.tmp 166) 2, some (156, false)⟩,
                                ⟨some 168, Op.pick (Operand.tmp 156) (Operand.const (Value.bool true)) (Operand.tmp 167), none⟩])
                              (.cond (Operand.tmp 168)
                                (.seq
                                  (.region [] false ([]) [
                                    ⟨some 2, Op.assign (Operand.const (Value.bool false)), none⟩])
                                  .ret)
                                .skip)))
                          (.region [] false ([]) [
                            ⟨some 139, Op.move (Operand.tmp 7), none⟩,
                            ⟨some 140, Op.binOp BinOp.add 3 (Operand.tmp 139) (Operand.const (Value.int IntKind.i64 1)) 3, none⟩,
                            ⟨some 7, Op.assign (Operand.tmp 140), none⟩]))))))
                (.seq
                  (.seq
                    (.region [] true ([]) [
                      ⟨some 169, Op.fieldAddr 27 (Operand.tmp 1) 2, none⟩,
                      ⟨some 170, Op.load 22 (Operand.tmp 169), none⟩,
                      ⟨some 171, Op.call { callee := Callee.builtin Builtin.len, args := #[Operand.tmp 170], argTypes := #[22] }, none⟩,
                      ⟨some 172, Op.move (Operand.tmp 4), none⟩,
                      ⟨some 173, Op.binOp BinOp.add 2 (Operand.tmp 172) (Operand.const (Value.int IntKind.i64 1)) 2, none⟩,
                      ⟨some 174, Op.binOp BinOp.neq 2 (Operand.tmp 171) (Operand.tmp 173) 2, none⟩,
                      ⟨some 175, Op.move (Operand.tmp 174), none⟩,
                      ⟨some 176, Op.fieldAddr 27 (Operand.tmp 1) 2, some (175, false)⟩,
                      ⟨some 177, Op.load 22 (Operand.tmp 176), some (175, false)⟩,
                      ⟨some 178, Op.indexAddr 22 (Operand.tmp 177) (Operand.const (Value.int IntKind.i64 0)), some (175, false)⟩,
                      ⟨some 179, Op.load 2 (Operand.tmp 178), some (175, false)⟩,
                      ⟨some 180, Op.binOp BinOp.neq 2 (Operand.tmp 179) (Operand.const (Value.int IntKind.i64 0)) 2, some (175, false)⟩,
                      ⟨some 181, Op.pick (Operand.tmp 175) (Operand.const (Value.bool true)) (Operand.tmp 180), none⟩,
                      ⟨some 182, Op.move (Operand.tmp 181), none⟩,
                      ⟨some 183, Op.fieldAddr 27 (Operand.tmp 1) 2, some (182, false)⟩,
                      ⟨some 184, Op.load 22 (Operand.tmp 183), some (182, false)⟩,
                      ⟨some 185, Op.move (Operand.tmp 4), some (182, false)⟩,
                      ⟨some 186, Op.indexAddr 22 (Operand.tmp 184) (Operand.tmp 185), some (182, false)⟩,
                      ⟨some 187, Op.load 2 (Operand.tmp 186), some (182, false)⟩,
                      ⟨some 188, Op.fieldAddr 27 (Operand.tmp 1) 3, some (182, false)⟩,
                      ⟨some 189, Op.load 22 (Operand.tmp 188), some (182, false)⟩,
                      ⟨some 190, Op.call { callee := Callee.builtin Builtin.len, args := #[Operand.tmp 189], argTypes := #[22] }, some (182, false)⟩,
                      ⟨some 191, Op.binOp BinOp.neq 2 (Operand.tmp 187) (Operand.tmp 190) 2, some (182, false)⟩,
                      ⟨some 192, Op.pick (Operand.tmp 182) (Operand.const (Value.bool true)) (Operand.tmp 191), none⟩])
                    (.cond (Operand.tmp 192)
                      (.seq
                        (.region [] false ([]) [
                          ⟨some 2, Op.assign (Operand.const (Value.bool false)), none⟩])
                        .ret)
                      .skip))
                  (.seq
                    (.seq
                      (.region [] false ([]) [
                        ⟨some 8, Op.assign (Operand.const (Value.int IntKind.i64 0)), none⟩])
                      (.block 6
                        (.loop
                          (.seq
                            (.seq
                              (.region [] false ([]) [
                                ⟨some 193, Op.move (Operand.tmp 8), none⟩,
                                ⟨some 194, Op.move (Operand.tmp 4), none⟩,
                                ⟨some 195, Op.binOp BinOp.lss 2 (Operand.tmp 193) (Operand.tmp 194) 2, none⟩])
                              (.cond (Operand.tmp 195)
                                .skip
                                (.exit 6)))
                            (.seq
                              (.block 7
                                (.seq
                                  (.region [] true ([]) [
                                    ⟨some 198, Op.fieldAddr 27 (Operand.tmp 1) 2, none⟩,
                                    ⟨some 199, Op.load 22 (Operand.tmp 198), none⟩,
                                    ⟨some 200, Op.move (Operand.tmp 8), none⟩,
                                    ⟨some 201, Op.indexAddr 22 (Operand.tmp 199) (Operand.tmp 200), none⟩,
                                    ⟨some 202, Op.load 2 (Operand.tmp 201), none⟩,
                                    ⟨some 203, Op.fieldAddr 27 (Operand.tmp 1) 2, none⟩,
                                    ⟨some 204, Op.load 22 (Operand.tmp 203), none⟩,
                                    ⟨some 205, Op.move (Operand.tmp 8), none⟩,
                                    ⟨some 206, Op.binOp BinOp.add 2 (Operand.tmp 205) (Operand.const (Value.int IntKind.i64 1)) 2, none⟩,
                                    ⟨some 207, Op.indexAddr 22 (Operand.tmp 204) (Operand.tmp 206), none⟩,
                                    ⟨some 208, Op.load 2 (Operand.tmp 207), none⟩,
                                    ⟨some 209, Op.binOp BinOp.gtr 2 (Operand.tmp 202) (Operand.tmp 208) 2, none⟩])
                                  (.cond (Operand.tmp 209)
                                    (.seq
                                      (.region [] false ([]) [
                                        ⟨some 2, Op.assign (Operand.const (Value.bool false)), none⟩])
                                      .ret)
                                    .skip)))
                              (.region [] false ([]) [
                                ⟨some 196, Op.move (Operand.tmp 8), none⟩,
                                ⟨some 197, Op.binOp BinOp.add 2 (Operand.tmp 196) (Operand.const (Value.int IntKind.i64 1)) 2, none⟩,
                                ⟨some 8, Op.assign (Operand.tmp 197), none⟩]))))))
                    (.seq
                      (.seq
                        (.region [] false ([]) [
                          ⟨some 210, Op.fieldAddr 27 (Operand.tmp 1) 4, none⟩,
                          ⟨some 211, Op.load 22 (Operand.tmp 210), none⟩,
                          ⟨some 212, Op.call { callee := Callee.builtin Builtin.len, args := #[Operand.tmp 211], argTypes := #[22] }, none⟩,
                          ⟨some 213, Op.fieldAddr 27 (Operand.tmp 1) 3, none⟩,
                          ⟨some 214, Op.load 22 (Operand.tmp 213), none⟩,
                          ⟨some 215, Op.call { callee := Callee.builtin Builtin.len, args := #[Operand.tmp 214], argTypes := #[22] }, none⟩,
                          ⟨some 216, Op.binOp BinOp.neq 3 (Operand.tmp 212) (Operand.tmp 215) 3, none⟩,
                          ⟨some 217, Op.move (Operand.tmp 216), none⟩,
                          ⟨some 218, Op.fieldAddr 27 (Operand.tmp 1) 3, some (217, false)⟩,
                          ⟨some 219, Op.load 22 (Operand.tmp 218), some (217, false)⟩,
                          ⟨some 220, Op.call { callee := Callee.builtin Builtin.len, args := #[Operand.tmp 219], argTypes := #[22] }, some (217, false)⟩,
                          ⟨some 221, Op.binOp BinOp.gtr 3 (Operand.tmp 220) (Operand.const (Value.int IntKind.i64 40000)) 3, some (217, false)⟩,
                          ⟨some 222, Op.pick (Operand.tmp 217) (Operand.const (Value.bool true)) (Operand.tmp 221), none⟩])
                        (.cond (Operand.tmp 222)
                          (.seq
                            (.region [] false ([]) [
                              ⟨some 2, Op.assign (Operand.const (Value.bool false)), none⟩])
                            .ret)
                          .skip))
                      (.seq
                        (.seq
                          (.region [] false ([]) [
                            ⟨some 9, Op.assign (Operand.const (Value.int IntKind.i64 0)), none⟩])
                          (.block 8
                            (.loop
                              (.seq
                                (.seq
                                  (.region [] false ([]) [
                                    ⟨some 223, Op.move (Operand.tmp 9), none⟩,
                                    ⟨some 224, Op.fieldAddr 27 (Operand.tmp 1) 3, none⟩,
                                    ⟨some 225, Op.load 22 (Operand.tmp 224), none⟩,
                                    ⟨some 226, Op.call { callee := Callee.builtin Builtin.len, args := #[Operand.tmp 225], argTypes := #[22] }, none⟩,
                                    ⟨some 227, Op.binOp BinOp.lss 3 (Operand.tmp 223) (Operand.tmp 226) 3, none⟩])
                                  (.cond (Operand.tmp 227)
                                    .skip
                                    (.exit 8)))
                                (.seq
                                  (.block 9
                                    (.seq
                                      (.region [] false ([]) [
                                        ⟨some 230, Op.fieldAddr 27 (Operand.tmp 1) 3, none⟩,
                                        ⟨some 231, Op.load 22 (Operand.tmp 230), none⟩,
                                        ⟨some 232, Op.move (Operand.tmp 9), none⟩,
                                        ⟨some 233, Op.indexAddr 22 (Operand.tmp 231) (Operand.tmp 232), none⟩,
                                        ⟨some 234, Op.load 2 (Operand.tmp 233), none⟩,
                                        ⟨some 235, Op.binOp BinOp.lss 2 (Operand.tmp 234) (Operand.const (Value.int IntKind.i64 0)) 2, none⟩,
                                        ⟨some 236, Op.move (Operand.tmp 235), none⟩,
                                        ⟨some 237, Op.fieldAddr 27 (Operand.tmp 1) 3, some (236, false)⟩,
                                        ⟨some 238, Op.load 22 (Operand.tmp 237), some (236, false)⟩,
                                        ⟨some 239, Op.move (Operand.tmp 9), some (236, false)⟩,
                                        ⟨some 240, Op.indexAddr 22 (Operand.tmp 238) (Operand.tmp 239), some (236, false)⟩,
                                        ⟨some 241, Op.load 2 (Operand.tmp 240), some (236, false)⟩,
                                        ⟨some 242, Op.move (Operand.tmp 4), some (236, false)⟩,
                                        ⟨some 243, Op.binOp BinOp.geq 2 (Operand.tmp 241) (Operand.tmp 242) 2, some (236, false)⟩,
                                        ⟨some 244, Op.pick (Operand.tmp 236) (Operand.const (Value.bool true)) (Operand.tmp 243), none⟩,
                                        ⟨some 245, Op.move (Operand.tmp 244), none⟩,
                                        ⟨some 246, Op.fieldAddr 27 (Operand.tmp 1) 4, some (245, false)⟩,
                                        ⟨some 247, Op.load 22 (Operand.tmp 246), some (245, false)⟩,
                                        ⟨some 248, Op.move (Operand.tmp 9), some (245, false)⟩,
                                        ⟨some 249, Op.indexAddr 22 (Operand.tmp 247) (Operand.tmp 248), some (245, false)⟩,
                                        ⟨some 250, Op.load 2 (Operand.tmp 249), some (245, false)⟩,
                                        ⟨some 251, Op.binOp BinOp.lss 2 (Operand.tmp 250) (Operand.const (Value.int IntKind.i64 0)) 2, some (245, false)⟩,
                                        ⟨some 252, Op.pick (Operand.tmp 245) (Operand.const (Value.bool true)) (Operand.tmp 251), none⟩,
                                        ⟨some 253, Op.move (Operand.tmp 252), none⟩,
                                        ⟨some 254, Op.fieldAddr 27 (Operand.tmp 1) 4, some (253, false)⟩,
                                        ⟨some 255, Op.load 22 (Operand.tmp 254), some (253, false)⟩,
                                        ⟨some 256, Op.move (Operand.tmp 9), some (253, false)⟩,
                                        ⟨some 257, Op.indexAddr 22 (Operand.tmp 255) (Operand.tmp 256), some (253, false)⟩,
                                        ⟨some 258, Op.load 2 (Operand.tmp 257), some (253, false)⟩,
                                        ⟨some 259, Op.binOp BinOp.gtr 2 (Operand.tmp 258) (Operand.const (Value.int IntKind.i64 3145728)) 2, some (253, false)⟩,
                                        ⟨some 260, Op.pick (Operand.tmp 253) (Operand.const (Value.bool true)) (Operand.tmp 259), none⟩])
                                      (.cond (Operand.tmp 260)
                                        (.seq
                                          (.region [] false ([]) [
                                            ⟨some 2, Op.assign (Operand.const (Value.bool false)), none⟩])
                                          .ret)
                                        .skip)))
                                  (.region [] false ([]) [
                                    ⟨some 228, Op.move (Operand.tmp 9), none⟩,
                                    ⟨some 229, Op.binOp BinOp.add 3 (Operand.tmp 228) (Operand.const (Value.int IntKind.i64 1)) 3, none⟩,
                                    ⟨some 9, Op.assign (Operand.tmp 229), none⟩]))))))
                        (.seq
                          (.seq
                            (.region [] false ([]) [
                              ⟨some 10, Op.assign (Operand.const (Value.int IntKind.i64 0)), none⟩])
                            (.block 10
                              (.loop
                                (.seq
                                  (.seq
                                    (.region [] false ([]) [
                                      ⟨some 261, Op.move (Operand.tmp 10), none⟩,
                                      ⟨some 262, Op.move (Operand.tmp 4), none⟩,
                                      ⟨some 263, Op.binOp BinOp.lss 2 (Operand.tmp 261) (Operand.tmp 262) 2, none⟩])
                                    (.cond (Operand.tmp 263)
                                      .skip
                                      (.exit 10)))
                                  (.seq
                                    (.block 11
                                      (.seq
                                        (.region [] false ([]) [
                                          ⟨some 266, Op.fieldAddr 27 (Operand.tmp 1) 2, none⟩,
                                          ⟨some 267, Op.load 22 (Operand.tmp 266), none⟩,
                                          ⟨some 268, Op.move (Operand.tmp 10), none⟩,
                                          ⟨some 269, Op.indexAddr 22 (Operand.tmp 267) (Operand.tmp 268), none⟩,
                                          ⟨some 270, Op.load 2 (Operand.tmp 269), none⟩,
                                          ⟨some 271, Op.binOp BinOp.add 2 (Operand.tmp 270) (Operand.const (Value.int IntKind.i64 1)) 2, none⟩,
                                          ⟨some 11, Op.assign (Operand.tmp 271), none⟩])
                                        (.block 12
                                          (.loop
                                            (.seq
                                              (.seq
                                                (.region [] false ([]) [
                                                  ⟨some 272, Op.move (Operand.tmp 11), none⟩,
                                                  ⟨some 273, Op.fieldAddr 27 (Operand.tmp 1) 2, none⟩,
                                                  ⟨some 274, Op.load 22 (Operand.tmp 273), none⟩,
                                                  ⟨some 275, Op.move (Operand.tmp 10), none⟩,
                                                  ⟨some 276, Op.binOp BinOp.add 2 (Operand.tmp 275) (Operand.const (Value.int IntKind.i64 1)) 2, none⟩,
                                                  ⟨some 277, Op.indexAddr 22 (Operand.tmp 274) (Operand.tmp 276), none⟩,
                                                  ⟨some 278, Op.load 2 (Operand.tmp 277), none⟩,
                                                  ⟨some 279, Op.binOp BinOp.lss 2 (Operand.tmp 272) (Operand.tmp 278) 2, none⟩])
                                                (.cond (Operand.tmp 279)
                                                  .skip
                                                  (.exit 12)))
                                              (.seq
                                                (.block 13
                                                  (.seq
                                                    (.region [] true ([]) [
                                                      ⟨some 282, Op.fieldAddr 27 (Operand.tmp 1) 0, none⟩,
                                                      ⟨some 283, Op.load 22 (Operand.tmp 282), none⟩,
                                                      ⟨some 284, Op.fieldAddr 27 (Operand.tmp 1) 3, none⟩,
                                                      ⟨some 285, Op.load 22 (Operand.tmp 284), none⟩,
                                                      ⟨some 286, Op.move (Operand.tmp 11), none⟩,
                                                      ⟨some 287, Op.indexAddr 22 (Operand.tmp 285) (Operand.tmp 286), none⟩,
                                                      ⟨some 288, Op.load 2 (Operand.tmp 287), none⟩,
                                                      ⟨some 289, Op.indexAddr 22 (Operand.tmp 283) (Operand.tmp 288), none⟩,
                                                      ⟨some 290, Op.load 2 (Operand.tmp 289), none⟩,
                                                      ⟨some 291, Op.fieldAddr 27 (Operand.tmp 1) 0, none⟩,
                                                      ⟨some 292, Op.load 22 (Operand.tmp 291), none⟩,
                                                      ⟨some 293, Op.fieldAddr 27 (Operand.tmp 1) 3, none⟩,
                                                      ⟨some 294, Op.load 22 (Operand.tmp 293), none⟩,
                                                      ⟨some 295, Op.move (Operand.tmp 11), none⟩,
                                                      ⟨some 296, Op.binOp BinOp.sub 2 (Operand.tmp 295) (Operand.const (Value.int IntKind.i64 1)) 2, none⟩,
                                                      ⟨some 297, Op.indexAddr 22 (Operand.tmp 294) (Operand.tmp 296), none⟩,
                                                      ⟨some 298, Op.load 2 (Operand.tmp 297), none⟩,
                                                      ⟨some 299, Op.indexAddr 22 (Operand.tmp 292) (Operand.tmp 298), none⟩,
                                                      ⟨some 300, Op.load 2 (Operand.tmp 299), none⟩,
                                                      ⟨some 301, Op.binOp BinOp.leq 2 (Operand.tmp 290) (Operand.tmp 300) 2, none⟩])
                                                    (.cond (Operand.tmp 301)
                                                      (.seq
                                                        (.region [] false ([]) [
                                                          ⟨some 2, Op.assign (Operand.const (Value.bool false)), none⟩])
                                                        .ret)
                                                      .skip)))
                                                (.region [] false ([]) [
                                                  ⟨some 280, Op.move (Operand.tmp 11), none⟩,
                                                  ⟨some 281, Op.binOp BinOp.add 2 (Operand.tmp 280) (Operand.const (Value.int IntKind.i64 1)) 2, none⟩,
                                                  ⟨some 11, Op.assign (Operand.tmp 281), none⟩])))))))
                                    (.region [] false ([]) [
                                      ⟨some 264, Op.move (Operand.tmp 10), none⟩,
                                      ⟨some 265, Op.binOp BinOp.add 2 (Operand.tmp 264) (Operand.const (Value.int IntKind.i64 1)) 2, none⟩,
                                      ⟨some 10, Op.assign (Operand.tmp 265), none⟩]))))))
                          (.seq
                            (.region [] false ([]) [
                              ⟨some 2, Op.assign (Operand.const (Value.bool true)), none⟩])
                            .ret)))))))))))))
set_option maxHeartbeats 0 in
theorem vgS (g : Gr) (h1 : g.edgeOf.length ≤ 1048576) (h2 : g.stateOf.length ≤ 1048576) (h3 : g.first.length ≤ 1048576) (h4 : g.to.length ≤ 1048576) (h5 : g.cost.length ≤ 1048576) (h6 : g.start.length ≤ 1048576) (h7 : g.weight.length ≤ 1048576) :
    CallsF Try.prog 12 [.agg (encG g)] (.t (.v (.bool (decide (VG g))))) [] := by
  refine callsF_of_wp1 (fn := Try.f12) (k := k12) (fun _ => []) mixed (by kernel_rfl) rfl (by kernel_rfl) (by kernel_rfl) (by kernel_rfl) rfl (by simp [Try.f12]) (by simp [Arg.like]) ?_
  generalize hst : St.enter [.agg (encG g)] = st0
  have t0 : st0.tm 0 = .agg ((encG g) |>.map .t) := by rw [← hst]; rfl
  clear hst
  unfold k12
  simp [encG] at t0
  repeat' (first
    | (refine wp1_seq fun K hK => ?_)
    | (refine M_cons fun K hK => ?_)
    | (refine hK _ ?_; clear hK K)
    | (refine hX _ ?_; clear hX hY X Y)
    | (refine hY _ ?_; clear hX hY X Y)
    | (refine wp1_block ?_)
    | (refine wp1_region ?_)
    | (refine wp1_cond fun X Y hX hY => ?_)
    | (refine condK_of (fun c => ?_) (fun c => ?_) <;> (try simp at c))
    | (refine guard1_or (fun c => ?_) (fun c => ?_) <;> (have cc := c) <;> (try simp at cc) <;> (try simp (disch := omega) [t0, c]))
    | (simp (disch := omega) [t0]))
  all_goals try (simp [t0, Back]; done)
  all_goals try (simp [Back]; intro h; have e1 := h.l1; have e2 := h.l2; have e3 := h.l3; have e4 := h.l4; omega)
  have l1 : g.start.length ≤ 4000 := by omega
  have l2 : g.weight.length = g.start.length := by omega
  have l3 : g.edgeOf.length ≤ 6000 := by omega
  have l4 : g.stateOf.length = g.edgeOf.length := by omega
  have hJ : ∀ s, GI g s → (∀ i : Nat, i < g.weight.length → inR (rd g.weight i)) → K s := by
    rintro s ⟨s1, o, s3, s4⟩ hw
    repeat' (first
      | (refine wp1_seq fun K hK => ?_)
      | (refine M_cons fun K hK => ?_)
      | (refine hK _ ?_; clear hK K)
      | (refine hX _ ?_; clear hX hY X Y)
      | (refine hY _ ?_; clear hX hY X Y)
      | (refine wp1_block ?_)
      | (refine wp1_region ?_)
      | (refine wp1_cond fun X Y hX hY => ?_)
      | (refine condK_of (fun c => ?_) (fun c => ?_) <;> (try simp at c))
      | (refine guard1_or (fun c => ?_) (fun c => ?_) <;> (have cc := c) <;> (try simp at cc) <;> (try simp (disch := omega) [s1, o, s3, s4, c]))
      | (simp (disch := omega) [s1, o, s3, s4]))
    all_goals try (simp [s1, o, s3, s4, Back]; done)
    have hJ : ∀ s, GI g s → (∀ i : Nat, i < g.edgeOf.length → VOK g i) → K s := by
      rintro s ⟨s1, o, s3, s4⟩ hv
      repeat' (first
        | (refine wp1_seq fun K hK => ?_)
        | (refine M_cons fun K hK => ?_)
        | (refine hK _ ?_; clear hK K)
        | (refine hX _ ?_; clear hX hY X Y)
        | (refine hY _ ?_; clear hX hY X Y)
        | (refine wp1_block ?_)
        | (refine wp1_region ?_)
        | (refine wp1_cond fun X Y hX hY => ?_)
        | (refine condK_of (fun c => ?_) (fun c => ?_) <;> (try simp at c))
        | (refine guard1_or (fun c => ?_) (fun c => ?_) <;> (have cc := c) <;> (try simp at cc) <;> (try simp (disch := omega) [s1, o, s3, s4, c]))
        | (simp (disch := omega) [s1, o, s3, s4]))
      all_goals try (simp [s1, o, s3, s4, Back]; done)
      have hJ : ∀ s, GI g s → (∀ i : Nat, i < g.start.length → SOK g i) → K s := by
        rintro s ⟨s1, o, s3, s4⟩ hs
        repeat' (first
          | (refine wp1_seq fun K hK => ?_)
          | (refine M_cons fun K hK => ?_)
          | (refine hK _ ?_; clear hK K)
          | (refine hX _ ?_; clear hX hY X Y)
          | (refine hY _ ?_; clear hX hY X Y)
          | (refine wp1_block ?_)
          | (refine wp1_region ?_)
          | (refine wp1_cond fun X Y hX hY => ?_)
          | (refine condK_of (fun c => ?_) (fun c => ?_) <;> (try simp at c))
          | (refine guard1_or (fun c => ?_) (fun c => ?_) <;> (have cc := c) <;> (try simp at cc) <;> (try simp (disch := omega) [s1, o, s3, s4, c]))
          | (simp (disch := omega) [s1, o, s3, s4]))
        all_goals try (simp [s1, o, s3, s4, Back]; done)
        all_goals try (simp [Back]; intro h; have e1 := h.f0; have e2 := h.fv; have e3 := h.l5; omega)
        have l5 : g.first.length = g.edgeOf.length + 1 := by omega
        have f0 : rd g.first 0 = 0 := by omega
        have fv : rd g.first g.edgeOf.length = g.to.length := by omega
        have hJ : ∀ s, GI g s → (∀ i : Nat, i < g.edgeOf.length → rd g.first i ≤ rd g.first ((i : Int) + 1)) → K s := by
          rintro s ⟨s1, o, s3, s4⟩ hf
          repeat' (first
            | (refine wp1_seq fun K hK => ?_)
            | (refine M_cons fun K hK => ?_)
            | (refine hK _ ?_; clear hK K)
            | (refine hX _ ?_; clear hX hY X Y)
            | (refine hY _ ?_; clear hX hY X Y)
            | (refine wp1_block ?_)
            | (refine wp1_region ?_)
            | (refine wp1_cond fun X Y hX hY => ?_)
            | (refine condK_of (fun c => ?_) (fun c => ?_) <;> (try simp at c))
            | (refine guard1_or (fun c => ?_) (fun c => ?_) <;> (have cc := c) <;> (try simp at cc) <;> (try simp (disch := omega) [s1, o, s3, s4, c]))
            | (simp (disch := omega) [s1, o, s3, s4]))
          all_goals try (simp [s1, o, s3, s4, Back]; done)
          all_goals try (simp [Back]; intro h; have e1 := h.l6; have e2 := h.l7; omega)
          have l6 : g.to.length = g.cost.length := by omega
          have l7 : g.to.length ≤ 40000 := by omega
          have hJ : ∀ s, GI g s → (∀ i : Nat, i < g.to.length → TOK g i) → K s := by
            rintro s ⟨s1, o, s3, s4⟩ ht
            repeat' (first
              | (refine wp1_seq fun K hK => ?_)
              | (refine M_cons fun K hK => ?_)
              | (refine hK _ ?_; clear hK K)
              | (refine hX _ ?_; clear hX hY X Y)
              | (refine hY _ ?_; clear hX hY X Y)
              | (refine wp1_block ?_)
              | (refine wp1_region ?_)
              | (refine wp1_cond fun X Y hX hY => ?_)
              | (refine condK_of (fun c => ?_) (fun c => ?_) <;> (try simp at c))
              | (refine guard1_or (fun c => ?_) (fun c => ?_) <;> (have cc := c) <;> (try simp at cc) <;> (try simp (disch := omega) [s1, o, s3, s4, c]))
              | (simp (disch := omega) [s1, o, s3, s4]))
            all_goals try (simp [s1, o, s3, s4, Back]; done)
            have hJ : ∀ s, (∀ i : Nat, i < g.edgeOf.length → AOK g i) → K s := by
              intro s ha
              have : VG g := ⟨l1, l2, l3, l4, l5, l6, l7, hw, hv, hs, f0, fv, hf, ht, ha⟩
              repeat' (first
                | (refine wp1_seq fun K hK => ?_)
                | (refine M_cons fun K hK => ?_)
                | (refine hK _ ?_; clear hK K)
                | (refine hX _ ?_; clear hX hY X Y)
                | (refine hY _ ?_; clear hX hY X Y)
                | (refine wp1_block ?_)
                | (refine wp1_region ?_)
                | (refine wp1_cond fun X Y hX hY => ?_)
                | (refine condK_of (fun c => ?_) (fun c => ?_) <;> (try simp at c))
                | (refine guard1_or (fun c => ?_) (fun c => ?_) <;> (have cc := c) <;> (try simp at cc) <;> (try simp (disch := omega) [this, c]))
                | (simp (disch := omega) [this]))
              all_goals try (simp [this, Back]; done)
            clear hK
            have hmono := firsts f0 fv hf
            refine wp1_loop (fun n s => ∃ k : Nat, GI g s ∧ s.tm 10 = .t (.v (.int .i64 k)) ∧ k ≤ g.edgeOf.length ∧ n = g.edgeOf.length - k ∧ ∀ i < k, AOK g i) g.edgeOf.length ?_ ?_
            · exact ⟨0, by simp [GI, s1, o, s3, s4]⟩
            · rintro n s ⟨k, ⟨s1, o, s3, s4⟩, s12, hk, rfl, hq⟩ K' hK'
              have b1 := hmono k hk
              have b2 : k < g.edgeOf.length → 0 ≤ rd g.first ((k : Int) + 1) ∧ rd g.first ((k : Int) + 1) ≤ g.to.length := fun h => by have := hmono (k + 1) (by omega); simpa using this
              repeat' (first
                | (refine wp1_seq fun K hK => ?_)
                | (refine M_cons fun K hK => ?_)
                | (refine hK _ ?_; clear hK K)
                | (refine hX _ ?_; clear hX hY X Y)
                | (refine hY _ ?_; clear hX hY X Y)
                | (refine wp1_block ?_)
                | (refine wp1_region ?_)
                | (refine wp1_cond fun X Y hX hY => ?_)
                | (refine condK_of (fun c => ?_) (fun c => ?_) <;> (try simp at c))
                | (refine guard1_or (fun c => ?_) (fun c => ?_) <;> (have cc := c) <;> (try simp at cc) <;> (try simp (disch := omega) [s1, o, s3, s4, s12, c]))
                | (simp (disch := omega) [s1, o, s3, s4, s12]))
              all_goals try (simp [s1, o, s3, s4, s12, Back]; done)
              · have hk2 : k < g.edgeOf.length := by assumption
                have b2 := b2 hk2
                have hJ2 : ∀ s, GI g s → s.tm 10 = .t (.v (.int .i64 k)) → AOK g k → K s := by
                  rintro s ⟨s1, o, s3, s4⟩ s12 hak
                  repeat' (first
                    | (refine wp1_seq fun K hK => ?_)
                    | (refine M_cons fun K hK => ?_)
                    | (refine hK _ ?_; clear hK K)
                    | (refine hX _ ?_; clear hX hY X Y)
                    | (refine hY _ ?_; clear hX hY X Y)
                    | (refine wp1_block ?_)
                    | (refine wp1_region ?_)
                    | (refine wp1_cond fun X Y hX hY => ?_)
                    | (refine condK_of (fun c => ?_) (fun c => ?_) <;> (try simp at c))
                    | (refine guard1_or (fun c => ?_) (fun c => ?_) <;> (have cc := c) <;> (try simp at cc) <;> (try simp (disch := omega) [s1, o, s3, s4, s12, c]))
                    | (simp (disch := omega) [s1, o, s3, s4, s12]))
                  all_goals try (simp [s1, o, s3, s4, s12, Back]; done)
                  refine hK' (g.edgeOf.length - (k + 1)) _ (by omega) ⟨k + 1, ?_⟩
                  simp [GI, s1, o, s3, s4]
                  exact ⟨by omega, below_succ hq hak⟩
                clear hK
                refine wp1_loop (fun n s => ∃ j : Int, GI g s ∧ s.tm 10 = .t (.v (.int .i64 k)) ∧ s.tm 11 = .t (.v (.int .i64 j)) ∧ rd g.first k < j ∧ j ≤ g.to.length + 1 ∧ n = (g.to.length + 1 - j).toNat ∧ ∀ i : Int, rd g.first k < i → i < j → i < rd g.first ((k : Int) + 1) → rd g.edgeOf (rd g.to (i - 1)) < rd g.edgeOf (rd g.to i)) (g.to.length + 1 - (rd g.first k + 1)).toNat ?_ ?_
                · refine ⟨rd g.first k + 1, ?_⟩
                  simp [GI, s1, o, s3, s4, s12]
                  exact ⟨by omega, by omega, fun i h1 h2 => by omega⟩
                · rintro n s ⟨j, ⟨s1, o, s3, s4⟩, s12, s13, hj1, hj2, rfl, hq2⟩ K'' hK''
                  have b3 : j < rd g.first ((k : Int) + 1) → 0 ≤ rd g.to (j - 1) ∧ rd g.to (j - 1) < g.edgeOf.length ∧ 0 ≤ rd g.to j ∧ rd g.to j < g.edgeOf.length := fun h => by
                    have e1 := ht (j - 1).toNat (by omega)
                    have e2 := ht j.toNat (by omega)
                    unfold TOK at e1 e2
                    rw [Int.toNat_of_nonneg (by omega)] at e1 e2
                    omega
                  repeat' (first
                    | (refine wp1_seq fun K hK => ?_)
                    | (refine M_cons fun K hK => ?_)
                    | (refine hK _ ?_; clear hK K)
                    | (refine hX _ ?_; clear hX hY X Y)
                    | (refine hY _ ?_; clear hX hY X Y)
                    | (refine wp1_block ?_)
                    | (refine wp1_region ?_)
                    | (refine wp1_cond fun X Y hX hY => ?_)
                    | (refine condK_of (fun c => ?_) (fun c => ?_) <;> (try simp at c))
                    | (refine guard1_or (fun c => ?_) (fun c => ?_) <;> (have cc := c) <;> (try simp at cc) <;> (try simp (disch := omega) [s1, o, s3, s4, s12, s13, c]))
                    | (simp (disch := omega) [s1, o, s3, s4, s12, s13]))
                  all_goals try (simp [s1, o, s3, s4, s12, s13, Back]; done)
                  all_goals first
                    | (simp [Back]; intro h; have := h.a k hk2 j hj1 (by omega); omega)
                    | (refine hK'' (g.to.length + 1 - (j + 1)).toNat _ (by omega) ⟨j + 1, ?_⟩; simp [GI, s1, o, s3, s4, s12]; exact ⟨by omega, by omega, fun i h1 h2 h3 => (Classical.em (i = j)).elim (fun e => by subst e; omega) (fun e => hq2 i h1 (by omega) h3)⟩)
                    | (refine hJ2 _ (by simp [GI, s1, o, s3, s4]) (by simp [s12]) fun i h1 h2 => hq2 i h1 (by omega) h2)
                    | skip
              · exact hJ _ fun i hi => hq i (by omega)
          clear hK
          refine wp1_loop (fun n s => ∃ k : Nat, GI g s ∧ s.tm 9 = .t (.v (.int .i64 k)) ∧ k ≤ g.to.length ∧ n = g.to.length - k ∧ ∀ i < k, TOK g i) g.to.length ?_ ?_
          · exact ⟨0, by simp [GI, s1, o, s3, s4]⟩
          · rintro n s ⟨k, ⟨s1, o, s3, s4⟩, s9, hk, rfl, hq⟩ K' hK'
            repeat' (first
              | (refine wp1_seq fun K hK => ?_)
              | (refine M_cons fun K hK => ?_)
              | (refine hK _ ?_; clear hK K)
              | (refine hX _ ?_; clear hX hY X Y)
              | (refine hY _ ?_; clear hX hY X Y)
              | (refine wp1_block ?_)
              | (refine wp1_region ?_)
              | (refine wp1_cond fun X Y hX hY => ?_)
              | (refine condK_of (fun c => ?_) (fun c => ?_) <;> (try simp at c))
              | (refine guard1_or (fun c => ?_) (fun c => ?_) <;> (have cc := c) <;> (try simp at cc) <;> (try simp (disch := omega) [s1, o, s3, s4, s9, c]))
              | (simp (disch := omega) [s1, o, s3, s4, s9]))
            all_goals try (simp [s1, o, s3, s4, s9, Back]; done)
            all_goals first
              | (simp [Back]; intro h; have hv := h.t k (by omega); unfold TOK at hv; omega)
              | (refine hK' (g.to.length - (k + 1)) _ (by omega) ⟨k + 1, ?_⟩; simp [GI, s1, o, s3, s4]; exact ⟨by omega, below_succ hq (by unfold TOK; omega)⟩)
              | (refine hJ _ (by simp [GI, s1, o, s3, s4]) fun i hi => hq i (by omega))
              | skip
        clear hK
        refine wp1_loop (fun n s => ∃ k : Nat, GI g s ∧ s.tm 8 = .t (.v (.int .i64 k)) ∧ k ≤ g.edgeOf.length ∧ n = g.edgeOf.length - k ∧ ∀ i < k, rd g.first i ≤ rd g.first ((i : Int) + 1)) g.edgeOf.length ?_ ?_
        · exact ⟨0, by simp [GI, s1, o, s3, s4]⟩
        · rintro n s ⟨k, ⟨s1, o, s3, s4⟩, s10, hk, rfl, hq⟩ K' hK'
          repeat' (first
            | (refine wp1_seq fun K hK => ?_)
            | (refine M_cons fun K hK => ?_)
            | (refine hK _ ?_; clear hK K)
            | (refine hX _ ?_; clear hX hY X Y)
            | (refine hY _ ?_; clear hX hY X Y)
            | (refine wp1_block ?_)
            | (refine wp1_region ?_)
            | (refine wp1_cond fun X Y hX hY => ?_)
            | (refine condK_of (fun c => ?_) (fun c => ?_) <;> (try simp at c))
            | (refine guard1_or (fun c => ?_) (fun c => ?_) <;> (have cc := c) <;> (try simp at cc) <;> (try simp (disch := omega) [s1, o, s3, s4, s10, c]))
            | (simp (disch := omega) [s1, o, s3, s4, s10]))
          all_goals try (simp [s1, o, s3, s4, s10, Back]; done)
          all_goals first
            | (simp [Back]; intro h; have hv := h.f k (by omega); omega)
            | (refine hK' (g.edgeOf.length - (k + 1)) _ (by omega) ⟨k + 1, ?_⟩; simp [GI, s1, o, s3, s4]; exact ⟨by omega, below_succ hq (by omega)⟩)
            | (refine hJ _ (by simp [GI, s1, o, s3, s4]) fun i hi => hq i (by omega))
            | skip
      clear hK
      refine wp1_loop (fun n s => ∃ k : Nat, GI g s ∧ s.tm 7 = .t (.v (.int .i64 k)) ∧ k ≤ g.start.length ∧ n = g.start.length - k ∧ ∀ i < k, SOK g i) g.start.length ?_ ?_
      · exact ⟨0, by simp [GI, s1, o, s3, s4]⟩
      · rintro n s ⟨k, ⟨s1, o, s3, s4⟩, s7, hk, rfl, hq⟩ K' hK'
        repeat' (first
          | (refine wp1_seq fun K hK => ?_)
          | (refine M_cons fun K hK => ?_)
          | (refine hK _ ?_; clear hK K)
          | (refine hX _ ?_; clear hX hY X Y)
          | (refine hY _ ?_; clear hX hY X Y)
          | (refine wp1_block ?_)
          | (refine wp1_region ?_)
          | (refine wp1_cond fun X Y hX hY => ?_)
          | (refine condK_of (fun c => ?_) (fun c => ?_) <;> (try simp at c))
          | (refine guard1_or (fun c => ?_) (fun c => ?_) <;> (have cc := c) <;> (try simp at cc) <;> (try simp (disch := omega) [s1, o, s3, s4, s7, c]))
          | (simp (disch := omega) [s1, o, s3, s4, s7]))
        all_goals try (simp [s1, o, s3, s4, s7, Back]; done)
        all_goals first
          | (simp [Back]; intro h; have hv := h.s k (by omega); unfold SOK at hv; omega)
          | (refine hK' (g.start.length - (k + 1)) _ (by omega) ⟨k + 1, ?_⟩; simp [GI, s1, o, s3, s4]; exact ⟨by omega, below_succ hq (by unfold SOK; omega)⟩)
          | (refine hJ _ (by simp [GI, s1, o, s3, s4]) fun i hi => hq i (by omega))
          | skip
    clear hK
    refine wp1_loop (fun n s => ∃ k : Nat, GI g s ∧ s.tm 6 = .t (.v (.int .i64 k)) ∧ k ≤ g.edgeOf.length ∧ n = g.edgeOf.length - k ∧ ∀ i < k, VOK g i) g.edgeOf.length ?_ ?_
    · exact ⟨0, by simp [GI, s1, o, s3, s4]⟩
    · rintro n s ⟨k, ⟨s1, o, s3, s4⟩, s7, hk, rfl, hv⟩ K' hK'
      repeat' (first
        | (refine wp1_seq fun K hK => ?_)
        | (refine M_cons fun K hK => ?_)
        | (refine hK _ ?_; clear hK K)
        | (refine hX _ ?_; clear hX hY X Y)
        | (refine hY _ ?_; clear hX hY X Y)
        | (refine wp1_block ?_)
        | (refine wp1_region ?_)
        | (refine wp1_cond fun X Y hX hY => ?_)
        | (refine condK_of (fun c => ?_) (fun c => ?_) <;> (try simp at c))
        | (refine guard1_or (fun c => ?_) (fun c => ?_) <;> (have cc := c) <;> (try simp at cc) <;> (try simp (disch := omega) [s1, o, s3, s4, s7, c]))
        | (simp (disch := omega) [s1, o, s3, s4, s7]))
      all_goals try (simp [s1, o, s3, s4, s7, Back]; done)
      all_goals first
        | (simp [Back]; intro h; have hv := h.v k (by omega); unfold VOK at hv; omega)
        | (refine hK' (g.edgeOf.length - (k + 1)) _ (by omega) ⟨k + 1, ?_⟩; simp [GI, s1, o, s3, s4]; exact ⟨by omega, below_succ hv (by unfold VOK; omega)⟩)
        | (refine hJ _ (by simp [GI, s1, o, s3, s4]) fun i hi => hv i (by omega))
        | skip
  clear hK
  refine wp1_loop (fun n s => ∃ k : Nat, GI g s ∧ s.tm 5 = .t (.v (.int .i64 k)) ∧ k ≤ g.weight.length ∧ n = g.weight.length - k ∧ ∀ i < k, inR (rd g.weight i)) g.weight.length ?_ ?_
  · exact ⟨0, by simp [GI]⟩
  · rintro n s ⟨k, ⟨s1, o, s3, s4⟩, s66, hk, rfl, hw⟩ K' hK'
    repeat' (first
      | (refine wp1_seq fun K hK => ?_)
      | (refine M_cons fun K hK => ?_)
      | (refine hK _ ?_; clear hK K)
      | (refine hX _ ?_; clear hX hY X Y)
      | (refine hY _ ?_; clear hX hY X Y)
      | (refine wp1_block ?_)
      | (refine wp1_region ?_)
      | (refine wp1_cond fun X Y hX hY => ?_)
      | (refine condK_of (fun c => ?_) (fun c => ?_) <;> (try simp at c))
      | (refine guard1_or (fun c => ?_) (fun c => ?_) <;> (have cc := c) <;> (try simp at cc) <;> (try simp (disch := omega) [s1, o, s3, s4, s66, c]))
      | (refine callT_fl (l1In_c _) (by simp [St.args, St.arg, s1, o, s3, s4, s66] <;> first | rfl | exact ⟨rfl, rfl⟩ | exact ⟨rfl, rfl, rfl⟩) (by first | (simp [RV.flat, RV.flats, T.flat]; done) | (unfold RV.flat; exact flat_intRow _) | (repeat' first | exact flat_intRow _ | exact trivial | constructor | unfold RV.flat | unfold RV.flats)) (by simp [mutsOf]) ?_)
      | (simp (disch := omega) [s1, o, s3, s4, s66]))
    all_goals try (simp [s1, o, s3, s4, s66, Back]; done)
    · simp [Back]; intro h; exact c (h.w k (by omega))
    · refine hK' (g.weight.length - (k + 1)) _ (by omega) ⟨k + 1, ?_⟩
      simp [GI, s1, o, s3, s4]
      exact ⟨by omega, below_succ hw c⟩
    · refine hJ _ (by simp [GI, s1, o, s3, s4]) fun i hi => hw i (by omega)
end Cal
