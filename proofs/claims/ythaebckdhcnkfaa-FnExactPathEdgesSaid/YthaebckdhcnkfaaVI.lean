import Derived.Test.YthaebckdhcnkfaaT2
set_option linter.unusedSimpArgs false
set_option linter.unusedVariables false
namespace Cal
open Go Go.Proofs
set_option maxRecDepth 100000
/-- The code of impl.ValidGraph. -/
def k14 : Code1 :=
  (.seq
    (.region [1] false ([]) [
      ⟨some 1, Op.box 27 (Operand.tmp 0), none⟩,
      ⟨some 2, Op.assign (Operand.const (Value.bool false)), none⟩])
    (.seq
      (.region [] true ([]) [
        ⟨some 14, Op.fieldAddr 27 (Operand.tmp 1) 5, none⟩,
        ⟨some 15, Op.load 22 (Operand.tmp 14), none⟩,
        ⟨some 16, Op.call { callee := Callee.builtin Builtin.len, args := #[Operand.tmp 15], argTypes := #[22] }, none⟩,
        ⟨some 17, Op.fieldAddr 27 (Operand.tmp 1) 0, none⟩,
        ⟨some 18, Op.load 22 (Operand.tmp 17), none⟩,
        ⟨some 19, Op.call { callee := Callee.builtin Builtin.len, args := #[Operand.tmp 18], argTypes := #[22] }, none⟩,
        ⟨some 3, Op.assign (Operand.tmp 16), none⟩,
        ⟨some 4, Op.assign (Operand.tmp 19), none⟩])
      (.seq
        (.seq
          (.region [] false ([]) [
            ⟨some 20, Op.move (Operand.tmp 3), none⟩,
            ⟨some 21, Op.binOp BinOp.gtr 3 (Operand.tmp 20) (Operand.const (Value.int IntKind.i64 4000)) 3, none⟩,
            ⟨some 22, Op.move (Operand.tmp 21), none⟩,
            ⟨some 23, Op.fieldAddr 27 (Operand.tmp 1) 6, some (22, false)⟩,
            ⟨some 24, Op.load 22 (Operand.tmp 23), some (22, false)⟩,
            ⟨some 25, Op.call { callee := Callee.builtin Builtin.len, args := #[Operand.tmp 24], argTypes := #[22] }, some (22, false)⟩,
            ⟨some 26, Op.move (Operand.tmp 3), some (22, false)⟩,
            ⟨some 27, Op.binOp BinOp.neq 3 (Operand.tmp 25) (Operand.tmp 26) 3, some (22, false)⟩,
            ⟨some 28, Op.pick (Operand.tmp 22) (Operand.const (Value.bool true)) (Operand.tmp 27), none⟩,
            ⟨some 29, Op.move (Operand.tmp 28), none⟩,
            ⟨some 30, Op.move (Operand.tmp 4), some (29, false)⟩,
            ⟨some 31, Op.binOp BinOp.gtr 3 (Operand.tmp 30) (Operand.const (Value.int IntKind.i64 6000)) 3, some (29, false)⟩,
            ⟨some 32, Op.pick (Operand.tmp 29) (Operand.const (Value.bool true)) (Operand.tmp 31), none⟩,
            ⟨some 33, Op.move (Operand.tmp 32), none⟩,
            ⟨some 34, Op.fieldAddr 27 (Operand.tmp 1) 1, some (33, false)⟩,
            ⟨some 35, Op.load 22 (Operand.tmp 34), some (33, false)⟩,
            ⟨some 36, Op.call { callee := Callee.builtin Builtin.len, args := #[Operand.tmp 35], argTypes := #[22] }, some (33, false)⟩,
            ⟨some 37, Op.move (Operand.tmp 4), some (33, false)⟩,
            ⟨some 38, Op.binOp BinOp.neq 3 (Operand.tmp 36) (Operand.tmp 37) 3, some (33, false)⟩,
            ⟨some 39, Op.pick (Operand.tmp 33) (Operand.const (Value.bool true)) (Operand.tmp 38), none⟩,
            ⟨some 40, Op.move (Operand.tmp 39), none⟩,
            ⟨some 41, Op.fieldAddr 27 (Operand.tmp 1) 2, some (40, false)⟩,
            ⟨some 42, Op.load 22 (Operand.tmp 41), some (40, false)⟩,
            ⟨some 43, Op.call { callee := Callee.builtin Builtin.len, args := #[Operand.tmp 42], argTypes := #[22] }, some (40, false)⟩,
            ⟨some 44, Op.move (Operand.tmp 4), some (40, false)⟩,
            ⟨some 45, Op.binOp BinOp.add 3 (Operand.tmp 44) (Operand.const (Value.int IntKind.i64 1)) 3, some (40, false)⟩,
            ⟨some 46, Op.binOp BinOp.neq 3 (Operand.tmp 43) (Operand.tmp 45) 3, some (40, false)⟩,
            ⟨some 47, Op.pick (Operand.tmp 40) (Operand.const (Value.bool true)) (Operand.tmp 46), none⟩,
            ⟨some 48, Op.move (Operand.tmp 47), none⟩,
            ⟨some 49, Op.fieldAddr 27 (Operand.tmp 1) 3, some (48, false)⟩,
            ⟨some 50, Op.load 22 (Operand.tmp 49), some (48, false)⟩,
            ⟨some 51, Op.call { callee := Callee.builtin Builtin.len, args := #[Operand.tmp 50], argTypes := #[22] }, some (48, false)⟩,
            ⟨some 52, Op.fieldAddr 27 (Operand.tmp 1) 4, some (48, false)⟩,
            ⟨some 53, Op.load 22 (Operand.tmp 52), some (48, false)⟩,
            ⟨some 54, Op.call { callee := Callee.builtin Builtin.len, args := #[Operand.tmp 53], argTypes := #[22] }, some (48, false)⟩,
            ⟨some 55, Op.binOp BinOp.neq 3 (Operand.tmp 51) (Operand.tmp 54) 3, some (48, false)⟩,
            ⟨some 56, Op.pick (Operand.tmp 48) (Operand.const (Value.bool true)) (Operand.tmp 55), none⟩,
            ⟨some 57, Op.move (Operand.tmp 56), none⟩,
            ⟨some 58, Op.fieldAddr 27 (Operand.tmp 1) 3, some (57, false)⟩,
            ⟨some 59, Op.load 22 (Operand.tmp 58), some (57, false)⟩,
            ⟨some 60, Op.call { callee := Callee.builtin Builtin.len, args := #[Operand.tmp 59], argTypes := #[22] }, some (57, false)⟩,
            ⟨some 61, Op.binOp BinOp.gtr 3 (Operand.tmp 60) (Operand.const (Value.int IntKind.i64 40000)) 3, some (57, false)⟩,
            ⟨some 62, Op.pick (Operand.tmp 57) (Operand.const (Value.bool true)) (Operand.tmp 61), none⟩])
          (.cond (Operand.tmp 62)
            (.seq
              (.region [] false ([]) [
                ⟨some 2, Op.assign (Operand.const (Value.bool false)), none⟩])
              .ret)
            .skip))
        (.seq
          (.seq
            (.region [] false ([]) [
              ⟨some 63, Op.fieldAddr 27 (Operand.tmp 1) 6, none⟩,
              ⟨some 64, Op.load 22 (Operand.tmp 63), none⟩,
              ⟨some 65, Op.call { callee := Callee.builtin Builtin.len, args := #[Operand.tmp 64], argTypes := #[22] }, none⟩,
              ⟨some 66, Op.move (Operand.const (Value.int IntKind.i64 0)), none⟩])
            (.block 0
              (.loop
                (.seq
                  (.region [] false ([]) [
                    ⟨some 67, Op.binOp BinOp.lss 3 (Operand.tmp 66) (Operand.tmp 65) 3, none⟩])
                  (.seq
                    (.cond (Operand.tmp 67)
                      .skip
                      (.exit 0))
                    (.seq
                      (.block 1
                        (.seq
                          (.region [] false ([]) [
                            ⟨some 68, Op.indexAddr 22 (Operand.tmp 64) (Operand.tmp 66), none⟩,
                            ⟨some 69, Op.load 2 (Operand.tmp 68), none⟩,
                            ⟨some 6, Op.assign (Operand.tmp 69), none⟩])
                          (.seq
                            (.region [71] false ([]) [
                              ⟨some 70, Op.move (Operand.tmp 6), none⟩,
                              ⟨some 71, Op.call { callee := Callee.value (Operand.func 43), args := #[Operand.tmp 70], argTypes := #[2] }, none⟩,
                              ⟨some 72, Op.unOp UnOp.not 4 (Operand.tmp 71), none⟩])
                            (.cond (Operand.tmp 72)
                              (.seq
                                (.region [] false ([]) [
                                  ⟨some 2, Op.assign (Operand.const (Value.bool false)), none⟩])
                                .ret)
                              .skip))))
                      (.region [] false ([]) [
                        ⟨some 73, Op.binOp BinOp.add 3 (Operand.tmp 66) (Operand.const (Value.int IntKind.i64 1)) 3, none⟩,
                        ⟨some 66, Op.move (Operand.tmp 73), none⟩])))))))
          (.seq
            (.seq
              (.region [] false ([]) [
                ⟨some 7, Op.assign (Operand.const (Value.int IntKind.i64 0)), none⟩])
              (.block 2
                (.loop
                  (.seq
                    (.seq
                      (.region [] false ([]) [
                        ⟨some 74, Op.move (Operand.tmp 7), none⟩,
                        ⟨some 75, Op.move (Operand.tmp 4), none⟩,
                        ⟨some 76, Op.binOp BinOp.lss 3 (Operand.tmp 74) (Operand.tmp 75) 3, none⟩])
                      (.cond (Operand.tmp 76)
                        .skip
                        (.exit 2)))
                    (.seq
                      (.block 3
                        (.seq
                          (.seq
                            (.region [] false ([]) [
                              ⟨some 79, Op.fieldAddr 27 (Operand.tmp 1) 0, none⟩,
                              ⟨some 80, Op.load 22 (Operand.tmp 79), none⟩,
                              ⟨some 81, Op.move (Operand.tmp 7), none⟩,
                              ⟨some 82, Op.indexAddr 22 (Operand.tmp 80) (Operand.tmp 81), none⟩,
                              ⟨some 83, Op.load 2 (Operand.tmp 82), none⟩,
                              ⟨some 84, Op.binOp BinOp.lss 2 (Operand.tmp 83) (Operand.const (Value.int IntKind.i64 0)) 2, none⟩,
                              ⟨some 85, Op.move (Operand.tmp 84), none⟩,
                              ⟨some 86, Op.fieldAddr 27 (Operand.tmp 1) 0, some (85, false)⟩,
                              ⟨some 87, Op.load 22 (Operand.tmp 86), some (85, false)⟩,
                              ⟨some 88, Op.move (Operand.tmp 7), some (85, false)⟩,
                              ⟨some 89, Op.indexAddr 22 (Operand.tmp 87) (Operand.tmp 88), some (85, false)⟩,
                              ⟨some 90, Op.load 2 (Operand.tmp 89), some (85, false)⟩,
                              ⟨some 91, Op.move (Operand.tmp 3), some (85, false)⟩,
                              ⟨some 92, Op.binOp BinOp.geq 2 (Operand.tmp 90) (Operand.tmp 91) 2, some (85, false)⟩,
                              ⟨some 93, Op.pick (Operand.tmp 85) (Operand.const (Value.bool true)) (Operand.tmp 92), none⟩,
                              ⟨some 94, Op.move (Operand.tmp 93), none⟩,
                              ⟨some 95, Op.fieldAddr 27 (Operand.tmp 1) 1, some (94, false)⟩,
                              ⟨some 96, Op.load 22 (Operand.tmp 95), some (94, false)⟩,
                              ⟨some 97, Op.move (Operand.tmp 7), some (94, false)⟩,
                              ⟨some 98, Op.indexAddr 22 (Operand.tmp 96) (Operand.tmp 97), some (94, false)⟩,
                              ⟨some 99, Op.load 2 (Operand.tmp 98), some (94, false)⟩,
                              ⟨some 100, Op.binOp BinOp.lss 2 (Operand.tmp 99) (Operand.const (Value.int IntKind.i64 0)) 2, some (94, false)⟩,
                              ⟨some 101, Op.pick (Operand.tmp 94) (Operand.const (Value.bool true)) (Operand.tmp 100), none⟩,
                              ⟨some 102, Op.move (Operand.tmp 101), none⟩,
                              ⟨some 103, Op.fieldAddr 27 (Operand.tmp 1) 1, some (102, false)⟩,
                              ⟨some 104, Op.load 22 (Operand.tmp 103), some (102, false)⟩,
                              ⟨some 105, Op.move (Operand.tmp 7), some (102, false)⟩,
                              ⟨some 106, Op.indexAddr 22 (Operand.tmp 104) (Operand.tmp 105), some (102, false)⟩,
                              ⟨some 107, Op.load 2 (Operand.tmp 106), some (102, false)⟩,
                              ⟨some 108, Op.binOp BinOp.geq 2 (Operand.tmp 107) (Operand.const (Value.int IntKind.i64 2000)) 2, some (102, false)⟩,
                              ⟨some 109, Op.pick (Operand.tmp 102) (Operand.const (Value.bool true)) (Operand.tmp 108), none⟩])
                            (.cond (Operand.tmp 109)
                              (.seq
                                (.region [] false ([]) [
                                  ⟨some 2, Op.assign (Operand.const (Value.bool false)), none⟩])
                                .ret)
                              .skip))
                          (.seq
                            (.region [] true ([]) [
                              ⟨some 110, Op.move (Operand.tmp 7), none⟩,
                              ⟨some 111, Op.binOp BinOp.gtr 3 (Operand.tmp 110) (Operand.const (Value.int IntKind.i64 0)) 3, none⟩,
                              ⟨some 112, Op.move (Operand.tmp 111), none⟩,
                              ⟨some 113, Op.fieldAddr 27 (Operand.tmp 1) 0, some (112, true)⟩,
                              ⟨some 114, Op.load 22 (Operand.tmp 113), some (112, true)⟩,
                              ⟨some 115, Op.move (Operand.tmp 7), some (112, true)⟩,
                              ⟨some 116, Op.binOp BinOp.sub 3 (Operand.tmp 115) (Operand.const (Value.int IntKind.i64 1)) 3, some (112, true)⟩,
                              ⟨some 117, Op.indexAddr 22 (Operand.tmp 114) (Operand.tmp 116), some (112, true)⟩,
                              ⟨some 118, Op.load 2 (Operand.tmp 117), some (112, true)⟩,
                              ⟨some 119, Op.fieldAddr 27 (Operand.tmp 1) 0, some (112, true)⟩,
                              ⟨some 120, Op.load 22 (Operand.tmp 119), some (112, true)⟩,
                              ⟨some 121, Op.move (Operand.tmp 7), some (112, true)⟩,
                              ⟨some 122, Op.indexAddr 22 (Operand.tmp 120) (Operand.tmp 121), some (112, true)⟩,
                              ⟨some 123, Op.load 2 (Operand.tmp 122), some (112, true)⟩,
                              ⟨some 124, Op.binOp BinOp.gtr 2 (Operand.tmp 118) (Operand.tmp 123) 2, some (112, true)⟩,
                              ⟨some 125, Op.move (Operand.tmp 124), some (112, true)⟩,
                              ⟨some 126, Op.fieldAddr 27 (Operand.tmp 1) 0, some (125, false)⟩,
                              ⟨some 127, Op.load 22 (Operand.tmp 126), some (125, false)⟩,
                              ⟨some 128, Op.move (Operand.tmp 7), some (125, false)⟩,
                              ⟨some 129, Op.binOp BinOp.sub 3 (Operand.tmp 128) (Operand.const (Value.int IntKind.i64 1)) 3, some (125, false)⟩,
                              ⟨some 130, Op.indexAddr 22 (Operand.tmp 127) (Operand.tmp 129), some (125, false)⟩,
                              ⟨some 131, Op.load 2 (Operand.tmp 130), some (125, false)⟩,
                              ⟨some 132, Op.fieldAddr 27 (Operand.tmp 1) 0, some (125, false)⟩,
                              ⟨some 133, Op.load 22 (Operand.tmp 132), some (125, false)⟩,
                              ⟨some 134, Op.move (Operand.tmp 7), some (125, false)⟩,
                              ⟨some 135, Op.indexAddr 22 (Operand.tmp 133) (Operand.tmp 134), some (125, false)⟩,
                              ⟨some 136, Op.load 2 (Operand.tmp 135), some (125, false)⟩,
                              ⟨some 137, Op.binOp BinOp.eql 2 (Operand.tmp 131) (Operand.tmp 136) 2, some (125, false)⟩,
                              ⟨some 138, Op.move (Operand.tmp 137), some (125, false)⟩,
                              ⟨some 139, Op.fieldAddr 27 (Operand.tmp 1) 1, some (138, true)⟩,
                              ⟨some 140, Op.load 22 (Operand.tmp 139), some (138, true)⟩,
                              ⟨some 141, Op.move (Operand.tmp 7), some (138, true)⟩,
                              ⟨some 142, Op.binOp BinOp.sub 3 (Operand.tmp 141) (Operand.const (Value.int IntKind.i64 1)) 3, some (138, true)⟩,
                              ⟨some 143, Op.indexAddr 22 (Operand.tmp 140) (Operand.tmp 142), some (138, true)⟩,
                              ⟨some 144, Op.load 2 (Operand.tmp 143), some (138, true)⟩,
                              ⟨some 145, Op.fieldAddr 27 (Operand.tmp 1) 1, some (138, true)⟩,
                              ⟨some 146, Op.load 22 (Operand.tmp 145), some (138, true)⟩,
                              ⟨some 147, Op.move (Operand.tmp 7), some (138, true)⟩,
                              ⟨some 148, Op.indexAddr 22 (Operand.tmp 146) (Operand.tmp 147), some (138, true)⟩,
                              ⟨some 149, Op.load 2 (Operand.tmp 148), some (138, true)⟩,
                              ⟨some 150, Op.binOp BinOp.geq 2 (Operand.tmp 144) (Operand.tmp 149) 2, some (138, true)⟩,
                              ⟨some 151, Op.pick (Operand.tmp 138) (Operand.tmp 150) (Operand.const (Value.bool false)), some (125, false)⟩,
                              ⟨some 152, Op.pick (Operand.tmp 125) (Operand.const (Value.bool true)) (Operand.tmp 151), some (112, true)⟩,
                              ⟨some 153, Op.pick (Operand.tmp 112) (Operand.tmp 152) (Operand.const (Value.bool false)), none⟩])
                            (.cond (Operand.tmp 153)
                              (.seq
                                (.region [] false ([]) [
                                  ⟨some 2, Op.assign (Operand.const (Value.bool false)), none⟩])
                                .ret)
                              .skip))))
                      (.region [] false ([]) [
                        ⟨some 77, Op.move (Operand.tmp 7), none⟩,
                        ⟨some 78, Op.binOp BinOp.add 3 (Operand.tmp 77) (Operand.const (Value.int IntKind.i64 1)) 3, none⟩,
                        ⟨some 7, Op.assign (Operand.tmp 78), none⟩]))))))
            (.seq
              (.seq
                (.region [] false ([]) [
                  ⟨some 154, Op.fieldAddr 27 (Operand.tmp 1) 5, none⟩,
                  ⟨some 155, Op.load 22 (Operand.tmp 154), none⟩,
                  ⟨some 156, Op.call { callee := Callee.builtin Builtin.len, args := #[Operand.tmp 155], argTypes := #[22] }, none⟩,
                  ⟨some 157, Op.move (Operand.const (Value.int IntKind.i64 0)), none⟩])
                (.block 4
                  (.loop
                    (.seq
                      (.region [] false ([]) [
                        ⟨some 158, Op.binOp BinOp.lss 3 (Operand.tmp 157) (Operand.tmp 156) 3, none⟩])
                      (.seq
                        (.cond (Operand.tmp 158)
                          .skip
                          (.exit 4))
                        (.seq
                          (.block 5
                            (.seq
                              (.region [] false ([]) [
                                ⟨some 159, Op.move (Operand.tmp 157), none⟩,
                                ⟨some 160, Op.indexAddr 22 (Operand.tmp 155) (Operand.tmp 157), none⟩,
                                ⟨some 161, Op.load 2 (Operand.tmp 160), none⟩,
                                ⟨some 8, Op.assign (Operand.tmp 159), none⟩,
                                ⟨some 9, Op.assign (Operand.tmp 161), none⟩])
                              (.seq
                                (.region [] false ([]) [
                                  ⟨some 162, Op.move (Operand.tmp 9), none⟩,
                                  ⟨some 163, Op.binOp BinOp.lss 2 (Operand.tmp 162) (Operand.const (Value.int IntKind.i64 0)) 2, none⟩,
                                  ⟨some 164, Op.move (Operand.tmp 163), none⟩,
                                  ⟨some 165, Op.move (Operand.tmp 9), some (164, false)⟩,
                                  ⟨some 166, Op.move (Operand.tmp 4), some (164, false)⟩,
                                  ⟨some 167, Op.binOp BinOp.geq 2 (Operand.tmp 165) (Operand.tmp 166) 2, some (164, false)⟩,
                                  ⟨some 168, Op.pick (Operand.tmp 164) (Operand.const (Value.bool true)) (Operand.tmp 167), none⟩,
                                  ⟨some 169, Op.move (Operand.tmp 168), none⟩,
                                  ⟨some 170, Op.fieldAddr 27 (Operand.tmp 1) 0, some (169, false)⟩,
                                  ⟨some 171, Op.load 22 (Operand.tmp 170), some (169, false)⟩,
                                  ⟨some 172, Op.move (Operand.tmp 9), some (169, false)⟩,
                                  ⟨some 173, Op.indexAddr 22 (Operand.tmp 171) (Operand.tmp 172), some (169, false)⟩,
                                  ⟨some 174, Op.load 2 (Operand.tmp 173), some (169, false)⟩,
                                  ⟨some 175, Op.move (Operand.tmp 8), some (169, false)⟩,
                                  ⟨some 176, Op.binOp BinOp.neq 2 (Operand.tmp 174) (Operand.tmp 175) 2, some (169, false)⟩,
                                  ⟨some 177, Op.pick (Operand.tmp 169) (Operand.const (Value.bool true)) (Operand.tmp 176), none⟩])
                                (.cond (Operand.tmp 177)
                                  (.seq
                                    (.region [] false ([]) [
                                      ⟨some 2, Op.assign (Operand.const (Value.bool false)), none⟩])
                                    .ret)
                                  .skip))))
                          (.region [] false ([]) [
                            ⟨some 178, Op.binOp BinOp.add 3 (Operand.tmp 157) (Operand.const (Value.int IntKind.i64 1)) 3, none⟩,
                            ⟨some 157, Op.move (Operand.tmp 178), none⟩])))))))
              (.seq
                (.seq
                  (.region [] true ([]) [
                    ⟨some 179, Op.fieldAddr 27 (Operand.tmp 1) 2, none⟩,
                    ⟨some 180, Op.load 22 (Operand.tmp 179), none⟩,
                    ⟨some 181, Op.indexAddr 22 (Operand.tmp 180) (Operand.const (Value.int IntKind.i64 0)), none⟩,
                    ⟨some 182, Op.load 2 (Operand.tmp 181), none⟩,
                    ⟨some 183, Op.binOp BinOp.neq 2 (Operand.tmp 182) (Operand.const (Value.int IntKind.i64 0)) 2, none⟩,
                    ⟨some 184, Op.move (Operand.tmp 183), none⟩,
                    ⟨some 185, Op.fieldAddr 27 (Operand.tmp 1) 2, some (184, false)⟩,
                    ⟨some 186, Op.load 22 (Operand.tmp 185), some (184, false)⟩,
                    ⟨some 187, Op.move (Operand.tmp 4), some (184, false)⟩,
                    ⟨some 188, Op.indexAddr 22 (Operand.tmp 186) (Operand.tmp 187), some (184, false)⟩,
                    ⟨some 189, Op.load 2 (Operand.tmp 188), some (184, false)⟩,
                    ⟨some 190, Op.fieldAddr 27 (Operand.tmp 1) 3, some (184, false)⟩,
                    ⟨some 191, Op.load 22 (Operand.tmp 190), some (184, false)⟩,
                    ⟨some 192, Op.call { callee := Callee.builtin Builtin.len, args := #[Operand.tmp 191], argTypes := #[22] }, some (184, false)⟩,
                    ⟨some 193, Op.binOp BinOp.neq 2 (Operand.tmp 189) (Operand.tmp 192) 2, some (184, false)⟩,
                    ⟨some 194, Op.pick (Operand.tmp 184) (Operand.const (Value.bool true)) (Operand.tmp 193), none⟩])
                  (.cond (Operand.tmp 194)
                    (.seq
                      (.region [] false ([]) [
                        ⟨some 2, Op.assign (Operand.const (Value.bool false)), none⟩])
                      .ret)
                    .skip))
                (.seq
                  (.seq
                    (.region [] false ([]) [
                      ⟨some 10, Op.assign (Operand.const (Value.int IntKind.i64 0)), none⟩])
                    (.block 6
                      (.loop
                        (.seq
                          (.seq
                            (.region [] false ([]) [
                              ⟨some 195, Op.move (Operand.tmp 10), none⟩,
                              ⟨some 196, Op.move (Operand.tmp 4), none⟩,
                              ⟨some 197, Op.binOp BinOp.lss 3 (Operand.tmp 195) (Operand.tmp 196) 3, none⟩])
                            (.cond (Operand.tmp 197)
                              .skip
                              (.exit 6)))
                          (.seq
                            (.block 7
                              (.seq
                                (.region [] true ([]) [
                                  ⟨some 200, Op.fieldAddr 27 (Operand.tmp 1) 2, none⟩,
                                  ⟨some 201, Op.load 22 (Operand.tmp 200), none⟩,
                                  ⟨some 202, Op.move (Operand.tmp 10), none⟩,
                                  ⟨some 203, Op.indexAddr 22 (Operand.tmp 201) (Operand.tmp 202), none⟩,
                                  ⟨some 204, Op.load 2 (Operand.tmp 203), none⟩,
                                  ⟨some 205, Op.fieldAddr 27 (Operand.tmp 1) 2, none⟩,
                                  ⟨some 206, Op.load 22 (Operand.tmp 205), none⟩,
                                  ⟨some 207, Op.move (Operand.tmp 10), none⟩,
                                  ⟨some 208, Op.binOp BinOp.add 3 (Operand.tmp 207) (Operand.const (Value.int IntKind.i64 1)) 3, none⟩,
                                  ⟨some 209, Op.indexAddr 22 (Operand.tmp 206) (Operand.tmp 208), none⟩,
                                  ⟨some 210, Op.load 2 (Operand.tmp 209), none⟩,
                                  ⟨some 211, Op.binOp BinOp.gtr 2 (Operand.tmp 204) (Operand.tmp 210) 2, none⟩])
                                (.cond (Operand.tmp 211)
                                  (.seq
                                    (.region [] false ([]) [
                                      ⟨some 2, Op.assign (Operand.const (Value.bool false)), none⟩])
                                    .ret)
                                  .skip)))
                            (.region [] false ([]) [
                              ⟨some 198, Op.move (Operand.tmp 10), none⟩,
                              ⟨some 199, Op.binOp BinOp.add 3 (Operand.tmp 198) (Operand.const (Value.int IntKind.i64 1)) 3, none⟩,
                              ⟨some 10, Op.assign (Operand.tmp 199), none⟩]))))))
                  (.seq
                    (.seq
                      (.region [] false ([]) [
                        ⟨some 212, Op.fieldAddr 27 (Operand.tmp 1) 3, none⟩,
                        ⟨some 213, Op.load 22 (Operand.tmp 212), none⟩,
                        ⟨some 214, Op.call { callee := Callee.builtin Builtin.len, args := #[Operand.tmp 213], argTypes := #[22] }, none⟩,
                        ⟨some 215, Op.move (Operand.const (Value.int IntKind.i64 0)), none⟩])
                      (.block 8
                        (.loop
                          (.seq
                            (.region [] false ([]) [
                              ⟨some 216, Op.binOp BinOp.lss 3 (Operand.tmp 215) (Operand.tmp 214) 3, none⟩])
                            (.seq
                              (.cond (Operand.tmp 216)
                                .skip
                                (.exit 8))
                              (.seq
                                (.block 9
                                  (.seq
                                    (.region [] false ([]) [
                                      ⟨some 217, Op.move (Operand.tmp 215), none⟩,
                                      ⟨some 11, Op.assign (Operand.tmp 217), none⟩])
                                    (.seq
                                      (.region [] false ([]) [
                                        ⟨some 218, Op.fieldAddr 27 (Operand.tmp 1) 3, none⟩,
                                        ⟨some 219, Op.load 22 (Operand.tmp 218), none⟩,
                                        ⟨some 220, Op.move (Operand.tmp 11), none⟩,
                                        ⟨some 221, Op.indexAddr 22 (Operand.tmp 219) (Operand.tmp 220), none⟩,
                                        ⟨some 222, Op.load 2 (Operand.tmp 221), none⟩,
                                        ⟨some 223, Op.binOp BinOp.lss 2 (Operand.tmp 222) (Operand.const (Value.int IntKind.i64 0)) 2, none⟩,
                                        ⟨some 224, Op.move (Operand.tmp 223), none⟩,
                                        ⟨some 225, Op.fieldAddr 27 (Operand.tmp 1) 3, some (224, false)⟩,
                                        ⟨some 226, Op.load 22 (Operand.tmp 225), some (224, false)⟩,
                                        ⟨some 227, Op.move (Operand.tmp 11), some (224, false)⟩,
                                        ⟨some 228, Op.indexAddr 22 (Operand.tmp 226) (Operand.tmp 227), some (224, false)⟩,
                                        ⟨some 229, Op.load 2 (Operand.tmp 228), some (224, false)⟩,
                                        ⟨some 230, Op.move (Operand.tmp 4), some (224, false)⟩,
                                        ⟨some 231, Op.binOp BinOp.geq 2 (Operand.tmp 229) (Operand.tmp 230) 2, some (224, false)⟩,
                                        ⟨some 232, Op.pick (Operand.tmp 224) (Operand.const (Value.bool true)) (Operand.tmp 231), none⟩,
                                        ⟨some 233, Op.move (Operand.tmp 232), none⟩,
                                        ⟨some 234, Op.fieldAddr 27 (Operand.tmp 1) 4, some (233, false)⟩,
                                        ⟨some 235, Op.load 22 (Operand.tmp 234), some (233, false)⟩,
                                        ⟨some 236, Op.move (Operand.tmp 11), some (233, false)⟩,
                                        ⟨some 237, Op.indexAddr 22 (Operand.tmp 235) (Operand.tmp 236), some (233, false)⟩,
                                        ⟨some 238, Op.load 2 (Operand.tmp 237), some (233, false)⟩,
                                        ⟨some 239, Op.binOp BinOp.lss 2 (Operand.tmp 238) (Operand.const (Value.int IntKind.i64 0)) 2, some (233, false)⟩,
                                        ⟨some 240, Op.pick (Operand.tmp 233) (Operand.const (Value.bool true)) (Operand.tmp 239), none⟩,
                                        ⟨some 241, Op.move (Operand.tmp 240), none⟩,
                                        ⟨some 242, Op.fieldAddr 27 (Operand.tmp 1) 4, some (241, false)⟩,
                                        ⟨some 243, Op.load 22 (Operand.tmp 242), some (241, false)⟩,
                                        ⟨some 244, Op.move (Operand.tmp 11), some (241, false)⟩,
                                        ⟨some 245, Op.indexAddr 22 (Operand.tmp 243) (Operand.tmp 244), some (241, false)⟩,
                                        ⟨some 246, Op.load 2 (Operand.tmp 245), some (241, false)⟩,
                                        ⟨some 247, Op.binOp BinOp.gtr 2 (Operand.tmp 246) (Operand.const (Value.int IntKind.i64 3145728)) 2, some (241, false)⟩,
                                        ⟨some 248, Op.pick (Operand.tmp 241) (Operand.const (Value.bool true)) (Operand.tmp 247), none⟩])
                                      (.cond (Operand.tmp 248)
                                        (.seq
                                          (.region [] false ([]) [
                                            ⟨some 2, Op.assign (Operand.const (Value.bool false)), none⟩])
                                          .ret)
                                        .skip))))
                                (.region [] false ([]) [
                                  ⟨some 249, Op.binOp BinOp.add 3 (Operand.tmp 215) (Operand.const (Value.int IntKind.i64 1)) 3, none⟩,
                                  ⟨some 215, Op.move (Operand.tmp 249), none⟩])))))))
                    (.seq
                      (.seq
                        (.region [] false ([]) [
                          ⟨some 12, Op.assign (Operand.const (Value.int IntKind.i64 0)), none⟩])
                        (.block 10
                          (.loop
                            (.seq
                              (.seq
                                (.region [] false ([]) [
                                  ⟨some 250, Op.move (Operand.tmp 12), none⟩,
                                  ⟨some 251, Op.move (Operand.tmp 4), none⟩,
                                  ⟨some 252, Op.binOp BinOp.lss 3 (Operand.tmp 250) (Operand.tmp 251) 3, none⟩])
                                (.cond (Operand.tmp 252)
                                  .skip
                                  (.exit 10)))
                              (.seq
                                (.block 11
                                  (.seq
                                    (.region [] false ([]) [
                                      ⟨some 255, Op.fieldAddr 27 (Operand.tmp 1) 2, none⟩,
                                      ⟨some 256, Op.load 22 (Operand.tmp 255), none⟩,
                                      ⟨some 257, Op.move (Operand.tmp 12), none⟩,
                                      ⟨some 258, Op.indexAddr 22 (Operand.tmp 256) (Operand.tmp 257), none⟩,
                                      ⟨some 259, Op.load 2 (Operand.tmp 258), none⟩,
                                      ⟨some 260, Op.binOp BinOp.add 2 (Operand.tmp 259) (Operand.const (Value.int IntKind.i64 1)) 2, none⟩,
                                      ⟨some 13, Op.assign (Operand.tmp 260), none⟩])
                                    (.block 12
                                      (.loop
                                        (.seq
                                          (.seq
                                            (.region [] false ([]) [
                                              ⟨some 261, Op.move (Operand.tmp 13), none⟩,
                                              ⟨some 262, Op.fieldAddr 27 (Operand.tmp 1) 2, none⟩,
                                              ⟨some 263, Op.load 22 (Operand.tmp 262), none⟩,
                                              ⟨some 264, Op.move (Operand.tmp 12), none⟩,
                                              ⟨some 265, Op.binOp BinOp.add 3 (Operand.tmp 264) (Operand.const (Value.int IntKind.i64 1)) 3, none⟩,
                                              ⟨some 266, Op.indexAddr 22 (Operand.tmp 263) (Operand.tmp 265), none⟩,
                                              ⟨some 267, Op.load 2 (Operand.tmp 266), none⟩,
                                              ⟨some 268, Op.binOp BinOp.lss 2 (Operand.tmp 261) (Operand.tmp 267) 2, none⟩])
                                            (.cond (Operand.tmp 268)
                                              .skip
                                              (.exit 12)))
                                          (.seq
                                            (.block 13
                                              (.seq
                                                (.region [] true ([]) [
                                                  ⟨some 271, Op.fieldAddr 27 (Operand.tmp 1) 0, none⟩,
                                                  ⟨some 272, Op.load 22 (Operand.tmp 271), none⟩,
                                                  ⟨some 273, Op.fieldAddr 27 (Operand.tmp 1) 3, none⟩,
                                                  ⟨some 274, Op.load 22 (Operand.tmp 273), none⟩,
                                                  ⟨some 275, Op.move (Operand.tmp 13), none⟩,
                                                  ⟨some 276, Op.binOp BinOp.sub 2 (Operand.tmp 275) (Operand.const (Value.int IntKind.i64 1)) 2, none⟩,
                                                  ⟨some 277, Op.indexAddr 22 (Operand.tmp 274) (Operand.tmp 276), none⟩,
                                                  ⟨some 278, Op.load 2 (Operand.tmp 277), none⟩,
                                                  ⟨some 279, Op.indexAddr 22 (Operand.tmp 272) (Operand.tmp 278), none⟩,
                                                  ⟨some 280, Op.load 2 (Operand.tmp 279), none⟩,
                                                  ⟨some 281, Op.fieldAddr 27 (Operand.tmp 1) 0, none⟩,
                                                  ⟨some 282, Op.load 22 (Operand.tmp 281), none⟩,
                                                  ⟨some 283, Op.fieldAddr 27 (Operand.tmp 1) 3, none⟩,
                                                  ⟨some 284, Op.load 22 (Operand.tmp 283), none⟩,
                                                  ⟨some 285, Op.move (Operand.tmp 13), none⟩,
                                                  ⟨some 286, Op.indexAddr 22 (Operand.tmp 284) (Operand.tmp 285), none⟩,
                                                  ⟨some 287, Op.load 2 (Operand.tmp 286), none⟩,
                                                  ⟨some 288, Op.indexAddr 22 (Operand.tmp 282) (Operand.tmp 287), none⟩,
                                                  ⟨some 289, Op.load 2 (Operand.tmp 288), none⟩,
                                                  ⟨some 290, Op.binOp BinOp.geq 2 (Operand.tmp 280) (Operand.tmp 289) 2, none⟩])
                                                (.cond (Operand.tmp 290)
                                                  (.seq
                                                    (.region [] false ([]) [
                                                      ⟨some 2, Op.assign (Operand.const (Value.bool false)), none⟩])
                                                    .ret)
                                                  .skip)))
                                            (.region [] false ([]) [
                                              ⟨some 269, Op.move (Operand.tmp 13), none⟩,
                                              ⟨some 270, Op.binOp BinOp.add 2 (Operand.tmp 269) (Operand.const (Value.int IntKind.i64 1)) 2, none⟩,
                                              ⟨some 13, Op.assign (Operand.tmp 270), none⟩])))))))
                                (.region [] false ([]) [
                                  ⟨some 253, Op.move (Operand.tmp 12), none⟩,
                                  ⟨some 254, Op.binOp BinOp.add 3 (Operand.tmp 253) (Operand.const (Value.int IntKind.i64 1)) 3, none⟩,
                                  ⟨some 12, Op.assign (Operand.tmp 254), none⟩]))))))
                      (.seq
                        (.region [] false ([]) [
                          ⟨some 2, Op.assign (Operand.const (Value.bool true)), none⟩])
                        .ret)))))))))))
set_option maxHeartbeats 0 in
theorem vgI (g : Gr) (h1 : g.edgeOf.length ≤ 1048576) (h2 : g.stateOf.length ≤ 1048576) (h3 : g.first.length ≤ 1048576) (h4 : g.to.length ≤ 1048576) (h5 : g.cost.length ≤ 1048576) (h6 : g.start.length ≤ 1048576) (h7 : g.weight.length ≤ 1048576) :
    CallsF Try.prog 14 [.agg (encG g)] (.t (.v (.bool (decide (VG g))))) [] := by
  refine callsF_of_wp1 (fn := Try.f14) (k := k14) (fun _ => []) mixed (by kernel_rfl) rfl (by kernel_rfl) (by kernel_rfl) (by kernel_rfl) rfl (by simp [Try.f14]) (by simp [Arg.like]) ?_
  generalize hst : St.enter [.agg (encG g)] = st0
  have t0 : st0.tm 0 = .agg ((encG g) |>.map .t) := by rw [← hst]; rfl
  clear hst
  unfold k14
  simp [encG] at t0
  repeat' (first
    | (refine wp1_seq fun K hK => ?_)
    | (refine M_cons fun K hK => ?_)
    | (refine hK _ ?_; clear hK K)
    | (refine hX _ ?_; clear hX hY X Y)
    | (refine hY _ ?_; clear hX hY X Y)
    | (refine wp1_block ?_)
    | (refine wp1_region ?_)
    | (refine wp1_cond fun X Y hX hY => ?_)
    | (refine condK_of (fun c => ?_) (fun c => ?_) <;> (try simp at c))
    | (refine guard1_or (fun c => ?_) (fun c => ?_) <;> (have cc := c) <;> (try simp at cc) <;> (try simp (disch := omega) [t0, c]))
    | (simp (disch := omega) [t0]))
  all_goals try (simp [t0, Back]; done)
  all_goals try (simp [Back]; intro h; have e1 := h.l1; have e2 := h.l2; have e3 := h.l3; have e4 := h.l4; have e5 := h.l5; have e6 := h.l6; have e7 := h.l7; omega)
  have l1 : g.start.length ≤ 4000 := by omega
  have l2 : g.weight.length = g.start.length := by omega
  have l3 : g.edgeOf.length ≤ 6000 := by omega
  have l4 : g.stateOf.length = g.edgeOf.length := by omega
  have l5 : g.first.length = g.edgeOf.length + 1 := by omega
  have l6 : g.to.length = g.cost.length := by omega
  have l7 : g.to.length ≤ 40000 := by omega
  have hJ : ∀ s, GI g s → (∀ i : Nat, i < g.weight.length → inR (rd g.weight i)) → K s := by
    rintro s ⟨s1, o, s3, s4⟩ hw
    repeat' (first
      | (refine wp1_seq fun K hK => ?_)
      | (refine M_cons fun K hK => ?_)
      | (refine hK _ ?_; clear hK K)
      | (refine hX _ ?_; clear hX hY X Y)
      | (refine hY _ ?_; clear hX hY X Y)
      | (refine wp1_block ?_)
      | (refine wp1_region ?_)
      | (refine wp1_cond fun X Y hX hY => ?_)
      | (refine condK_of (fun c => ?_) (fun c => ?_) <;> (try simp at c))
      | (refine guard1_or (fun c => ?_) (fun c => ?_) <;> (have cc := c) <;> (try simp at cc) <;> (try simp (disch := omega) [s1, o, s3, s4, c]))
      | (simp (disch := omega) [s1, o, s3, s4]))
    all_goals try (simp [s1, o, s3, s4, Back]; done)
    have hJ : ∀ s, GI g s → (∀ i : Nat, i < g.edgeOf.length → VOK g i) → K s := by
      rintro s ⟨s1, o, s3, s4⟩ hv
      repeat' (first
        | (refine wp1_seq fun K hK => ?_)
        | (refine M_cons fun K hK => ?_)
        | (refine hK _ ?_; clear hK K)
        | (refine hX _ ?_; clear hX hY X Y)
        | (refine hY _ ?_; clear hX hY X Y)
        | (refine wp1_block ?_)
        | (refine wp1_region ?_)
        | (refine wp1_cond fun X Y hX hY => ?_)
        | (refine condK_of (fun c => ?_) (fun c => ?_) <;> (try simp at c))
        | (refine guard1_or (fun c => ?_) (fun c => ?_) <;> (have cc := c) <;> (try simp at cc) <;> (try simp (disch := omega) [s1, o, s3, s4, c]))
        | (simp (disch := omega) [s1, o, s3, s4]))
      all_goals try (simp [s1, o, s3, s4, Back]; done)
      have hJ : ∀ s, GI g s → (∀ i : Nat, i < g.start.length → SOK g i) → K s := by
        rintro s ⟨s1, o, s3, s4⟩ hs
        repeat' (first
          | (refine wp1_seq fun K hK => ?_)
          | (refine M_cons fun K hK => ?_)
          | (refine hK _ ?_; clear hK K)
          | (refine hX _ ?_; clear hX hY X Y)
          | (refine hY _ ?_; clear hX hY X Y)
          | (refine wp1_block ?_)
          | (refine wp1_region ?_)
          | (refine wp1_cond fun X Y hX hY => ?_)
          | (refine condK_of (fun c => ?_) (fun c => ?_) <;> (try simp at c))
          | (refine guard1_or (fun c => ?_) (fun c => ?_) <;> (have cc := c) <;> (try simp at cc) <;> (try simp (disch := omega) [s1, o, s3, s4, c]))
          | (simp (disch := omega) [s1, o, s3, s4]))
        all_goals try (simp [s1, o, s3, s4, Back]; done)
        all_goals try (simp [Back]; intro h; have e1 := h.f0; have e2 := h.fv; omega)
        have f0 : rd g.first 0 = 0 := by omega
        have fv : rd g.first g.edgeOf.length = g.to.length := by omega
        have hJ : ∀ s, GI g s → (∀ i : Nat, i < g.edgeOf.length → rd g.first i ≤ rd g.first ((i : Int) + 1)) → K s := by
          rintro s ⟨s1, o, s3, s4⟩ hf
          repeat' (first
            | (refine wp1_seq fun K hK => ?_)
            | (refine M_cons fun K hK => ?_)
            | (refine hK _ ?_; clear hK K)
            | (refine hX _ ?_; clear hX hY X Y)
            | (refine hY _ ?_; clear hX hY X Y)
            | (refine wp1_block ?_)
            | (refine wp1_region ?_)
            | (refine wp1_cond fun X Y hX hY => ?_)
            | (refine condK_of (fun c => ?_) (fun c => ?_) <;> (try simp at c))
            | (refine guard1_or (fun c => ?_) (fun c => ?_) <;> (have cc := c) <;> (try simp at cc) <;> (try simp (disch := omega) [s1, o, s3, s4, c]))
            | (simp (disch := omega) [s1, o, s3, s4]))
          all_goals try (simp [s1, o, s3, s4, Back]; done)
          have hJ : ∀ s, GI g s → (∀ i : Nat, i < g.to.length → TOK g i) → K s := by
            rintro s ⟨s1, o, s3, s4⟩ ht
            repeat' (first
              | (refine wp1_seq fun K hK => ?_)
              | (refine M_cons fun K hK => ?_)
              | (refine hK _ ?_; clear hK K)
              | (refine hX _ ?_; clear hX hY X Y)
              | (refine hY _ ?_; clear hX hY X Y)
              | (refine wp1_block ?_)
              | (refine wp1_region ?_)
              | (refine wp1_cond fun X Y hX hY => ?_)
              | (refine condK_of (fun c => ?_) (fun c => ?_) <;> (try simp at c))
              | (refine guard1_or (fun c => ?_) (fun c => ?_) <;> (have cc := c) <;> (try simp at cc) <;> (try simp (disch := omega) [s1, o, s3, s4, c]))
              | (simp (disch := omega) [s1, o, s3, s4]))
            all_goals try (simp [s1, o, s3, s4, Back]; done)
            have hJ : ∀ s, (∀ i : Nat, i < g.edgeOf.length → AOK g i) → K s := by
              intro s ha
              have : VG g := ⟨l1, l2, l3, l4, l5, l6, l7, hw, hv, hs, f0, fv, hf, ht, ha⟩
              repeat' (first
                | (refine wp1_seq fun K hK => ?_)
                | (refine M_cons fun K hK => ?_)
                | (refine hK _ ?_; clear hK K)
                | (refine hX _ ?_; clear hX hY X Y)
                | (refine hY _ ?_; clear hX hY X Y)
                | (refine wp1_block ?_)
                | (refine wp1_region ?_)
                | (refine wp1_cond fun X Y hX hY => ?_)
                | (refine condK_of (fun c => ?_) (fun c => ?_) <;> (try simp at c))
                | (refine guard1_or (fun c => ?_) (fun c => ?_) <;> (have cc := c) <;> (try simp at cc) <;> (try simp (disch := omega) [this, c]))
                | (simp (disch := omega) [this]))
              all_goals try (simp [this, Back]; done)
            clear hK
            have hmono := firsts f0 fv hf
            refine wp1_loop (fun n s => ∃ k : Nat, GI g s ∧ s.tm 12 = .t (.v (.int .i64 k)) ∧ k ≤ g.edgeOf.length ∧ n = g.edgeOf.length - k ∧ ∀ i < k, AOK g i) g.edgeOf.length ?_ ?_
            · exact ⟨0, by simp [GI, s1, o, s3, s4]⟩
            · rintro n s ⟨k, ⟨s1, o, s3, s4⟩, s12, hk, rfl, hq⟩ K' hK'
              have b1 := hmono k hk
              have b2 : k < g.edgeOf.length → 0 ≤ rd g.first ((k : Int) + 1) ∧ rd g.first ((k : Int) + 1) ≤ g.to.length := fun h => by have := hmono (k + 1) (by omega); simpa using this
              repeat' (first
                | (refine wp1_seq fun K hK => ?_)
                | (refine M_cons fun K hK => ?_)
                | (refine hK _ ?_; clear hK K)
                | (refine hX _ ?_; clear hX hY X Y)
                | (refine hY _ ?_; clear hX hY X Y)
                | (refine wp1_block ?_)
                | (refine wp1_region ?_)
                | (refine wp1_cond fun X Y hX hY => ?_)
                | (refine condK_of (fun c => ?_) (fun c => ?_) <;> (try simp at c))
                | (refine guard1_or (fun c => ?_) (fun c => ?_) <;> (have cc := c) <;> (try simp at cc) <;> (try simp (disch := omega) [s1, o, s3, s4, s12, c]))
                | (simp (disch := omega) [s1, o, s3, s4, s12]))
              all_goals try (simp [s1, o, s3, s4, s12, Back]; done)
              · have hk2 : k < g.edgeOf.length := by assumption
                have b2 := b2 hk2
                have hJ2 : ∀ s, GI g s → s.tm 12 = .t (.v (.int .i64 k)) → AOK g k → K s := by
                  rintro s ⟨s1, o, s3, s4⟩ s12 hak
                  repeat' (first
                    | (refine wp1_seq fun K hK => ?_)
                    | (refine M_cons fun K hK => ?_)
                    | (refine hK _ ?_; clear hK K)
                    | (refine hX _ ?_; clear hX hY X Y)
                    | (refine hY _ ?_; clear hX hY X Y)
                    | (refine wp1_block ?_)
                    | (refine wp1_region ?_)
                    | (refine wp1_cond fun X Y hX hY => ?_)
                    | (refine condK_of (fun c => ?_) (fun c => ?_) <;> (try simp at c))
                    | (refine guard1_or (fun c => ?_) (fun c => ?_) <;> (have cc := c) <;> (try simp at cc) <;> (try simp (disch := omega) [s1, o, s3, s4, s12, c]))
                    | (simp (disch := omega) [s1, o, s3, s4, s12]))
                  all_goals try (simp [s1, o, s3, s4, s12, Back]; done)
                  refine hK' (g.edgeOf.length - (k + 1)) _ (by omega) ⟨k + 1, ?_⟩
                  simp [GI, s1, o, s3, s4]
                  exact ⟨by omega, below_succ hq hak⟩
                clear hK
                refine wp1_loop (fun n s => ∃ j : Int, GI g s ∧ s.tm 12 = .t (.v (.int .i64 k)) ∧ s.tm 13 = .t (.v (.int .i64 j)) ∧ rd g.first k < j ∧ j ≤ g.to.length + 1 ∧ n = (g.to.length + 1 - j).toNat ∧ ∀ i : Int, rd g.first k < i → i < j → i < rd g.first ((k : Int) + 1) → rd g.edgeOf (rd g.to (i - 1)) < rd g.edgeOf (rd g.to i)) (g.to.length + 1 - (rd g.first k + 1)).toNat ?_ ?_
                · refine ⟨rd g.first k + 1, ?_⟩
                  simp [GI, s1, o, s3, s4, s12]
                  exact ⟨by omega, by omega, fun i h1 h2 => by omega⟩
                · rintro n s ⟨j, ⟨s1, o, s3, s4⟩, s12, s13, hj1, hj2, rfl, hq2⟩ K'' hK''
                  have b3 : j < rd g.first ((k : Int) + 1) → 0 ≤ rd g.to (j - 1) ∧ rd g.to (j - 1) < g.edgeOf.length ∧ 0 ≤ rd g.to j ∧ rd g.to j < g.edgeOf.length := fun h => by
                    have e1 := ht (j - 1).toNat (by omega)
                    have e2 := ht j.toNat (by omega)
                    unfold TOK at e1 e2
                    rw [Int.toNat_of_nonneg (by omega)] at e1 e2
                    omega
                  repeat' (first
                    | (refine wp1_seq fun K hK => ?_)
                    | (refine M_cons fun K hK => ?_)
                    | (refine hK _ ?_; clear hK K)
                    | (refine hX _ ?_; clear hX hY X Y)
                    | (refine hY _ ?_; clear hX hY X Y)
                    | (refine wp1_block ?_)
                    | (refine wp1_region ?_)
                    | (refine wp1_cond fun X Y hX hY => ?_)
                    | (refine condK_of (fun c => ?_) (fun c => ?_) <;> (try simp at c))
                    | (refine guard1_or (fun c => ?_) (fun c => ?_) <;> (have cc := c) <;> (try simp at cc) <;> (try simp (disch := omega) [s1, o, s3, s4, s12, s13, c]))
                    | (simp (disch := omega) [s1, o, s3, s4, s12, s13]))
                  all_goals try (simp [s1, o, s3, s4, s12, s13, Back]; done)
                  all_goals first
                    | (simp [Back]; intro h; have := h.a k hk2 j hj1 (by omega); omega)
                    | (refine hK'' (g.to.length + 1 - (j + 1)).toNat _ (by omega) ⟨j + 1, ?_⟩; simp [GI, s1, o, s3, s4, s12]; exact ⟨by omega, by omega, fun i h1 h2 h3 => (Classical.em (i = j)).elim (fun e => by subst e; omega) (fun e => hq2 i h1 (by omega) h3)⟩)
                    | (refine hJ2 _ (by simp [GI, s1, o, s3, s4]) (by simp [s12]) fun i h1 h2 => hq2 i h1 (by omega) h2)
                    | skip
              · exact hJ _ fun i hi => hq i (by omega)
          clear hK
          refine wp1_loop (fun n s => ∃ k : Nat, GI g s ∧ s.tm 213 = .t (ints g.to) ∧ s.tm 214 = .t (.v (.int .i64 g.to.length)) ∧ s.tm 215 = .t (.v (.int .i64 k)) ∧ k ≤ g.to.length ∧ n = g.to.length - k ∧ ∀ i < k, TOK g i) g.to.length ?_ ?_
          · exact ⟨0, by simp [GI, s1, o, s3, s4]⟩
          · rintro n s ⟨k, ⟨s1, o, s3, s4⟩, s213, s214, s215, hk, rfl, hq⟩ K' hK'
            repeat' (first
              | (refine wp1_seq fun K hK => ?_)
              | (refine M_cons fun K hK => ?_)
              | (refine hK _ ?_; clear hK K)
              | (refine hX _ ?_; clear hX hY X Y)
              | (refine hY _ ?_; clear hX hY X Y)
              | (refine wp1_block ?_)
              | (refine wp1_region ?_)
              | (refine wp1_cond fun X Y hX hY => ?_)
              | (refine condK_of (fun c => ?_) (fun c => ?_) <;> (try simp at c))
              | (refine guard1_or (fun c => ?_) (fun c => ?_) <;> (have cc := c) <;> (try simp at cc) <;> (try simp (disch := omega) [s1, o, s3, s4, s213, s214, s215, c]))
              | (simp (disch := omega) [s1, o, s3, s4, s213, s214, s215]))
            all_goals try (simp [s1, o, s3, s4, s213, s214, s215, Back]; done)
            all_goals first
              | (simp [Back]; intro h; have hv := h.t k (by omega); unfold TOK at hv; omega)
              | (refine hK' (g.to.length - (k + 1)) _ (by omega) ⟨k + 1, ?_⟩; simp [GI, s1, o, s3, s4, s213, s214, s215]; exact ⟨by omega, below_succ hq (by unfold TOK; omega)⟩)
              | (refine hJ _ (by simp [GI, s1, o, s3, s4]) fun i hi => hq i (by omega))
              | skip
        clear hK
        refine wp1_loop (fun n s => ∃ k : Nat, GI g s ∧ s.tm 10 = .t (.v (.int .i64 k)) ∧ k ≤ g.edgeOf.length ∧ n = g.edgeOf.length - k ∧ ∀ i < k, rd g.first i ≤ rd g.first ((i : Int) + 1)) g.edgeOf.length ?_ ?_
        · exact ⟨0, by simp [GI, s1, o, s3, s4]⟩
        · rintro n s ⟨k, ⟨s1, o, s3, s4⟩, s10, hk, rfl, hq⟩ K' hK'
          repeat' (first
            | (refine wp1_seq fun K hK => ?_)
            | (refine M_cons fun K hK => ?_)
            | (refine hK _ ?_; clear hK K)
            | (refine hX _ ?_; clear hX hY X Y)
            | (refine hY _ ?_; clear hX hY X Y)
            | (refine wp1_block ?_)
            | (refine wp1_region ?_)
            | (refine wp1_cond fun X Y hX hY => ?_)
            | (refine condK_of (fun c => ?_) (fun c => ?_) <;> (try simp at c))
            | (refine guard1_or (fun c => ?_) (fun c => ?_) <;> (have cc := c) <;> (try simp at cc) <;> (try simp (disch := omega) [s1, o, s3, s4, s10, c]))
            | (simp (disch := omega) [s1, o, s3, s4, s10]))
          all_goals try (simp [s1, o, s3, s4, s10, Back]; done)
          all_goals first
            | (simp [Back]; intro h; have hv := h.f k (by omega); omega)
            | (refine hK' (g.edgeOf.length - (k + 1)) _ (by omega) ⟨k + 1, ?_⟩; simp [GI, s1, o, s3, s4]; exact ⟨by omega, below_succ hq (by omega)⟩)
            | (refine hJ _ (by simp [GI, s1, o, s3, s4]) fun i hi => hq i (by omega))
            | skip
      clear hK
      refine wp1_loop (fun n s => ∃ k : Nat, GI g s ∧ s.tm 155 = .t (ints g.start) ∧ s.tm 156 = .t (.v (.int .i64 g.start.length)) ∧ s.tm 157 = .t (.v (.int .i64 k)) ∧ k ≤ g.start.length ∧ n = g.start.length - k ∧ ∀ i < k, SOK g i) g.start.length ?_ ?_
      · exact ⟨0, by simp [GI, s1, o, s3, s4]⟩
      · rintro n s ⟨k, ⟨s1, o, s3, s4⟩, s155, s156, s157, hk, rfl, hq⟩ K' hK'
        repeat' (first
          | (refine wp1_seq fun K hK => ?_)
          | (refine M_cons fun K hK => ?_)
          | (refine hK _ ?_; clear hK K)
          | (refine hX _ ?_; clear hX hY X Y)
          | (refine hY _ ?_; clear hX hY X Y)
          | (refine wp1_block ?_)
          | (refine wp1_region ?_)
          | (refine wp1_cond fun X Y hX hY => ?_)
          | (refine condK_of (fun c => ?_) (fun c => ?_) <;> (try simp at c))
          | (refine guard1_or (fun c => ?_) (fun c => ?_) <;> (have cc := c) <;> (try simp at cc) <;> (try simp (disch := omega) [s1, o, s3, s4, s155, s156, s157, c]))
          | (simp (disch := omega) [s1, o, s3, s4, s155, s156, s157]))
        all_goals try (simp [s1, o, s3, s4, s155, s156, s157, Back]; done)
        all_goals first
          | (simp [Back]; intro h; have hv := h.s k (by omega); unfold SOK at hv; omega)
          | (refine hK' (g.start.length - (k + 1)) _ (by omega) ⟨k + 1, ?_⟩; simp [GI, s1, o, s3, s4, s155, s156, s157]; exact ⟨by omega, below_succ hq (by unfold SOK; omega)⟩)
          | (refine hJ _ (by simp [GI, s1, o, s3, s4]) fun i hi => hq i (by omega))
          | skip
    clear hK
    refine wp1_loop (fun n s => ∃ k : Nat, GI g s ∧ s.tm 7 = .t (.v (.int .i64 k)) ∧ k ≤ g.edgeOf.length ∧ n = g.edgeOf.length - k ∧ ∀ i < k, VOK g i) g.edgeOf.length ?_ ?_
    · exact ⟨0, by simp [GI, s1, o, s3, s4]⟩
    · rintro n s ⟨k, ⟨s1, o, s3, s4⟩, s7, hk, rfl, hv⟩ K' hK'
      repeat' (first
        | (refine wp1_seq fun K hK => ?_)
        | (refine M_cons fun K hK => ?_)
        | (refine hK _ ?_; clear hK K)
        | (refine hX _ ?_; clear hX hY X Y)
        | (refine hY _ ?_; clear hX hY X Y)
        | (refine wp1_block ?_)
        | (refine wp1_region ?_)
        | (refine wp1_cond fun X Y hX hY => ?_)
        | (refine condK_of (fun c => ?_) (fun c => ?_) <;> (try simp at c))
        | (refine guard1_or (fun c => ?_) (fun c => ?_) <;> (have cc := c) <;> (try simp at cc) <;> (try simp (disch := omega) [s1, o, s3, s4, s7, c]))
        | (simp (disch := omega) [s1, o, s3, s4, s7]))
      all_goals try (simp [s1, o, s3, s4, s7, Back]; done)
      all_goals first
        | (simp [Back]; intro h; have hv := h.v k (by omega); unfold VOK at hv; omega)
        | (refine hK' (g.edgeOf.length - (k + 1)) _ (by omega) ⟨k + 1, ?_⟩; simp [GI, s1, o, s3, s4]; exact ⟨by omega, below_succ hv (by unfold VOK; omega)⟩)
        | (refine hJ _ (by simp [GI, s1, o, s3, s4]) fun i hi => hv i (by omega))
        | skip
  clear hK
  refine wp1_loop (fun n s => ∃ k : Nat, GI g s ∧ s.tm 64 = .t (ints g.weight) ∧ s.tm 65 = .t (.v (.int .i64 g.weight.length)) ∧ s.tm 66 = .t (.v (.int .i64 k)) ∧ k ≤ g.weight.length ∧ n = g.weight.length - k ∧ ∀ i < k, inR (rd g.weight i)) g.weight.length ?_ ?_
  · exact ⟨0, by simp [GI]⟩
  · rintro n s ⟨k, ⟨s1, o, s3, s4⟩, s64, s65, s66, hk, rfl, hw⟩ K' hK'
    repeat' (first
      | (refine wp1_seq fun K hK => ?_)
      | (refine M_cons fun K hK => ?_)
      | (refine hK _ ?_; clear hK K)
      | (refine hX _ ?_; clear hX hY X Y)
      | (refine hY _ ?_; clear hX hY X Y)
      | (refine wp1_block ?_)
      | (refine wp1_region ?_)
      | (refine wp1_cond fun X Y hX hY => ?_)
      | (refine condK_of (fun c => ?_) (fun c => ?_) <;> (try simp at c))
      | (refine guard1_or (fun c => ?_) (fun c => ?_) <;> (have cc := c) <;> (try simp at cc) <;> (try simp (disch := omega) [s1, o, s3, s4, s64, s65, s66, c]))
      | (refine callT_fl (inRange_c _) (by simp [St.args, St.arg, s1, o, s3, s4, s64, s65, s66] <;> first | rfl | exact ⟨rfl, rfl⟩ | exact ⟨rfl, rfl, rfl⟩) (by first | (simp [RV.flat, RV.flats, T.flat]; done) | (unfold RV.flat; exact flat_intRow _) | (repeat' first | exact flat_intRow _ | exact trivial | constructor | unfold RV.flat | unfold RV.flats)) (by simp [mutsOf]) ?_)
      | (simp (disch := omega) [s1, o, s3, s4, s64, s65, s66]))
    all_goals try (simp [s1, o, s3, s4, s64, s65, s66, Back]; done)
    · simp [Back]; intro h; exact c (h.w k (by omega))
    · refine hK' (g.weight.length - (k + 1)) _ (by omega) ⟨k + 1, ?_⟩
      simp [GI, s1, o, s3, s4, s64, s65]
      exact ⟨by omega, below_succ hw c⟩
    · refine hJ _ (by simp [GI, s1, o, s3, s4]) fun i hi => hw i (by omega)
end Cal
