/- The abstract code of functions of the program, each held against the program. Printed by acode.py (own work). -/
import Derived.Test.YteelkalenpbmmaaAbs14
import Derived.Test.YteelkalenpbmmaaProg

set_option maxRecDepth 20000
namespace Go.Proofs.Yteelkalenpbmmaa.Ab

/-- plimsoll/plimsolllaw06.SaneTurned -/
def c3 : AC :=
 (.seq (.reg 0 [o 5 (.bx 7 (.t 0)), o 10 (.mv (kb false))])
 (.seq (.seq (.reg 0 [o 16 (.ld (.t 5) (some 7)), o 17 (.pc 8 [(.t 16)]), o 18 (.un .not (.t 17)), o 19 (.mv (.t 18)), og 20 19 false (.ld (.t 5) (some 7)), og 21 19 false (.pc 9 [(.t 20)]), og 22 19 false (.bin .neq (.t 21) (ki 0)), o 23 (.pk (.t 19) (kb true) (.t 22)), o 24 (.mv (.t 23)), og 25 24 false (.fa (.t 5) 3), og 26 24 false (.ld (.t 25) none), og 27 24 false (.ln (.t 26)), og 28 24 false (.bin .eql (.t 27) (ki 0)), o 29 (.pk (.t 24) (kb true) (.t 28))])
 (.cond (.t 29) (.seq (.reg 0 [o 30 (.pc 10 []), o 10 (.mv (.t 30))])
  .ret) .skip))
 (.seq (.reg 0 [o 31 (.fa (.t 5) 3), o 32 (.ld (.t 31) none), o 33 (.mv (.t 1)), o 34 (.cv .i64 (.t 33)), o 35 (.fa (.t 5) 3), o 36 (.ld (.t 35) none), o 37 (.ln (.t 36)), o 38 (.bin .rem (.t 34) (.t 37)), o 39 (.ia (.t 32) (.t 38) 8), o 11 (.mv (.t 39))])
 (.seq (.reg 0 [o 40 (.bs 3 0 [.int .i64 0, .int .i64 0, .int .i64 0] []), o 41 (.mv (.t 11)), o 42 (.nc (.t 41)), o 43 (.fa (.t 42) 4), o 44 (.ld (.t 43) none), o 45 (.ap 3 24 [.int .i64 0, .int .i64 0, .int .i64 0] (.t 40) (.t 44)), o 12 (.mv (.t 45))])
 (.seq (.reg 0 [o 46 (.mv (.t 12)), o 47 (.mv (.t 2)), o 48 (.cv .i64 (.t 47)), o 49 (.mv (.t 12)), o 50 (.ln (.t 49)), o 51 (.bin .rem (.t 48) (.t 50)), o 52 (.ia (.t 46) (.t 51) 3), o 13 (.mv (.t 52))])
 (.seq (.reg 0 [o 53 (.mv (.t 13)), o 54 (.mv (.t 13)), o 55 (.mv (.t 3)), o 56 (.cv .i64 (.t 55)), o 57 (.mv (.t 4)), o 58 (.cv .i64 (.t 57)), o 59 (.nc (.t 53)), o 60 (.fa (.t 59) 1), os (.st 1 (.t 60) (.t 56)), o 61 (.nc (.t 54)), o 62 (.fa (.t 61) 2), os (.st 1 (.t 62) (.t 58))])
 (.seq (.reg 0 [o 63 (.mv (.t 11)), o 64 (.nc (.t 63)), o 65 (.fa (.t 64) 4), o 66 (.ld (.t 65) none), o 14 (.mv (.t 66))])
 (.seq (.reg 0 [o 67 (.mv (.t 11)), o 68 (.mv (.t 12)), o 69 (.nc (.t 67)), o 70 (.fa (.t 69) 4), os (.st 1 (.t 70) (.t 68))])
 (.seq (.reg 0 [o 71 (.ld (.t 5) (some 7)), o 72 (.pc 11 [(.t 71)]), o 73 (.ld (.t 5) (some 7)), o 74 (.pc 9 [(.t 73)]), o 75 (.bin .eql (.t 72) (.t 74)), o 15 (.mv (.t 75))])
 (.seq (.reg 0 [o 76 (.mv (.t 11)), o 77 (.mv (.t 14)), o 78 (.nc (.t 76)), o 79 (.fa (.t 78) 4), os (.st 1 (.t 79) (.t 77))])
 (.seq (.reg 0 [o 80 (.pc 10 []), o 81 (.mv (.t 80)), og 82 81 true (.mv (.t 15)), o 83 (.pk (.t 81) (.t 82) (kb false)), o 10 (.mv (.t 83))])
 .ret)))))))))))
def F3 : AFn := ⟨c3, [0, 1, 2, 3, 4, 5, 10, 11, 12, 13, 14, 15, 29], [.tmp 10], 84⟩
theorem k3 : FnOk Try.prog 3 F3 := .of Try.f3 Try.func3 (by kernel_rfl) (by kernel_rfl) (by kernel_rfl) (by kernel_rfl)

/-- plimsoll/plimsolllaw05.ImageSames -/
def c4 : AC :=
 (.seq (.reg 0 [o 2 (.bx 7 (.t 0)), o 3 (.bx 7 (.t 1)), o 4 (.mv (kb false))])
 (.seq (.seq (.reg 0 [o 9 (.ld (.t 2) (some 7)), o 10 (.pc 12 [(.t 9)]), o 11 (.un .not (.t 10)), o 12 (.mv (.t 11)), og 13 12 false (.ld (.t 3) (some 7)), og 14 12 false (.pc 12 [(.t 13)]), og 15 12 false (.un .not (.t 14)), o 16 (.pk (.t 12) (kb true) (.t 15))])
 (.cond (.t 16) (.seq (.reg 0 [o 17 (.pc 13 []), o 4 (.mv (.t 17))])
  .ret) .skip))
 (.seq (.reg 0 [o 18 (.ld (.t 2) (some 7)), o 19 (.pc 14 [(.t 18)]), o 5 (.al [.nilsl, .nilsl, .nilsl, .nilsl, .nilsl, .int .i64 0, .int .i64 0]), os (.st 7 (.t 5) (.t 19))])
 (.seq (.reg 0 [o 20 (.ld (.t 2) (some 7)), o 21 (.ld (.t 3) (some 7)), o 22 (.pc 15 [(.t 20), (.t 21)]), o 6 (.mv (.t 22))])
 (.seq (.seq (.reg 0 [o 23 (.ld (.t 2) (some 7)), o 24 (.ld (.t 3) (some 7)), o 25 (.pc 16 [(.t 23), (.t 24)]), o 26 (.mv (.t 6)), o 27 (.beq true (.t 25) (.t 26)), o 28 (.mv (.t 27)), og 29 28 false (.ld (.t 2) (some 7)), og 30 28 false (.ld (.t 5) (some 7)), og 31 28 false (.pc 16 [(.t 29), (.t 30)]), og 32 28 false (.un .not (.t 31)), o 33 (.pk (.t 28) (kb true) (.t 32)), o 34 (.mv (.t 33)), og 35 34 false (.ld (.t 2) (some 7)), og 36 34 false (.ld (.t 5) (some 7)), og 37 34 false (.pc 15 [(.t 35), (.t 36)]), og 38 34 false (.un .not (.t 37)), o 39 (.pk (.t 34) (kb true) (.t 38))])
 (.cond (.t 39) (.seq (.reg 0 [o 4 (.mv (kb false))])
  .ret) .skip))
 (.seq (.seq (.reg 0 [o 7 (.mv (ki 0))])
 (.block 0 (.loop (.seq (.seq (.reg 0 [o 40 (.mv (.t 7)), o 41 (.fa (.t 5) 3), o 42 (.ld (.t 41) none), o 43 (.ln (.t 42)), o 44 (.bin .lss (.t 40) (.t 43))])
   (.cond (.t 44) .skip (.exit 0)))
   (.seq (.block 1 (.seq (.reg 0 [o 8 (.mv (ki 0))])
    (.block 2 (.loop (.seq (.seq (.reg 0 [o 47 (.mv (.t 8)), o 48 (.fa (.t 5) 3), o 49 (.ld (.t 48) none), o 50 (.mv (.t 7)), o 51 (.ia (.t 49) (.t 50) 8), o 52 (.fa (.t 51) 4), o 53 (.ld (.t 52) none), o 54 (.ln (.t 53)), o 55 (.bin .lss (.t 47) (.t 54))])
      (.cond (.t 55) .skip (.exit 2)))
      (.seq (.block 3 (.reg 0 [o 58 (.fa (.t 5) 3), o 59 (.ld (.t 58) none), o 60 (.mv (.t 7)), o 61 (.ia (.t 59) (.t 60) 8), o 62 (.fa (.t 61) 4), o 63 (.ld (.t 62) none), o 64 (.mv (.t 8)), o 65 (.ia (.t 63) (.t 64) 3), o 66 (.fa (.t 65) 0), o 67 (.ld (.t 66) none), o 68 (.bin .add (.t 67) (ki 1)), o 69 (.ia (.t 63) (.t 64) 3), o 70 (.fa (.t 69) 0), os (.st 1 (.t 70) (.t 68))]))
      (.reg 0 [o 56 (.mv (.t 8)), o 57 (.bin .add (.t 56) (ki 1)), o 8 (.mv (.t 57))])))))))
   (.reg 0 [o 45 (.mv (.t 7)), o 46 (.bin .add (.t 45) (ki 1)), o 7 (.mv (.t 46))]))))))
 (.seq (.reg 0 [o 71 (.pc 13 []), o 72 (.mv (.t 71)), og 73 72 true (.ld (.t 2) (some 7)), og 74 72 true (.ld (.t 3) (some 7)), og 75 72 true (.pc 15 [(.t 73), (.t 74)]), og 76 72 true (.mv (.t 6)), og 77 72 true (.beq false (.t 75) (.t 76)), o 78 (.pk (.t 72) (.t 77) (kb false)), o 4 (.mv (.t 78))])
 .ret)))))))
def F4 : AFn := ⟨c4, [0, 1, 2, 3, 4, 5, 6, 7, 8, 16, 39, 44, 55], [.tmp 4], 79⟩
theorem k4 : FnOk Try.prog 4 F4 := .of Try.f4 Try.func4 (by kernel_rfl) (by kernel_rfl) (by kernel_rfl) (by kernel_rfl)

/-- plimsoll/plimsolllaw13.DepthBounds -/
def c5 : AC :=
 (.seq (.reg 0 [o 1 (.bx 7 (.t 0)), o 2 (.mv (kb false))])
 (.seq (.seq (.reg 0 [o 10 (.ld (.t 1) (some 7)), o 11 (.pc 17 [(.t 10)]), o 12 (.un .not (.t 11))])
 (.cond (.t 12) (.seq (.reg 0 [o 13 (.pc 18 []), o 2 (.mv (.t 13))])
  .ret) .skip))
 (.seq (.reg 0 [o 15 (.ld (.t 1) (some 7)), o 16 (.pc 19 [(.t 15)]), o 14 (.mv (.t 16)), o 17 (.ex (.t 14) 0), o 18 (.ex (.t 14) 1), o 3 (.mv (.t 17)), o 4 (.mv (.t 18))])
 (.seq (.seq (.reg 0 [o 19 (.mv (.t 4)), o 20 (.bin .geq (.t 19) (ki 0))])
 (.cond (.t 20) (.seq (.reg 0 [o 21 (.pc 18 []), o 2 (.mv (.t 21))])
  .ret) .skip))
 (.seq (.reg 0 [o 23 (.ld (.t 1) (some 7)), o 24 (.mv (.t 3)), o 25 (.pc 20 [(.t 23), (.t 24)]), o 22 (.mv (.t 25)), o 26 (.ex (.t 22) 0), o 27 (.ex (.t 22) 1), o 5 (.mv (.t 26)), o 6 (.mv (.t 27))])
 (.seq (.reg 0 [o 29 (.ld (.t 1) (some 7)), o 30 (.mv (.t 3)), o 31 (.pc 21 [(.t 29), (.t 30)]), o 28 (.mv (.t 31)), o 32 (.ex (.t 28) 0), o 33 (.ex (.t 28) 1), o 7 (.mv (.t 32)), o 8 (.mv (.t 33))])
 (.seq (.seq (.reg 0 [o 34 (.mv (.t 8)), o 35 (.un .not (.t 34))])
 (.cond (.t 35) (.seq (.reg 0 [o 36 (.pc 18 []), o 37 (.mv (.t 36)), og 38 37 true (.mv (.t 6)), og 39 37 true (.bin .eql (.t 38) (ki 5)), o 40 (.pk (.t 37) (.t 39) (kb false)), o 41 (.mv (.t 40)), og 42 41 true (.mv (.t 5)), og 43 41 true (.ln (.t 42)), og 44 41 true (.bin .eql (.t 43) (ki 0)), o 45 (.pk (.t 41) (.t 44) (kb false)), o 2 (.mv (.t 45))])
  .ret) .skip))
 (.seq (.seq (.reg 0 [o 9 (.mv (ki (-1)))])
 (.block 0 (.loop (.seq (.seq (.reg 0 [o 46 (.mv (.t 9)), o 47 (.fa (.t 1) 3), o 48 (.ld (.t 47) none), o 49 (.ln (.t 48)), o 50 (.bin .leq (.t 46) (.t 49))])
   (.cond (.t 50) .skip (.exit 0)))
   (.seq (.block 1 (.seq (.reg 0 [o 53 (.ld (.t 1) (some 7)), o 54 (.mv (.t 3)), o 55 (.mv (.t 9)), o 56 (.pc 22 [(.t 53), (.t 54), (.t 55)]), o 57 (.ld (.t 1) (some 7)), o 58 (.mv (.t 3)), o 59 (.mv (.t 9)), o 60 (.pc 23 [(.t 57), (.t 58), (.t 59)]), o 61 (.bin .neq (.t 56) (.t 60))])
    (.cond (.t 61) (.seq (.reg 0 [o 2 (.mv (kb false))])
     .ret) .skip)))
   (.reg 0 [o 51 (.mv (.t 9)), o 52 (.bin .add (.t 51) (ki 1)), o 9 (.mv (.t 52))]))))))
 (.seq (.reg 0 [o 62 (.pc 18 []), o 63 (.mv (.t 62)), og 64 63 true (.mv (.t 6)), og 65 63 true (.bin .eql (.t 64) (ki 0)), o 66 (.pk (.t 63) (.t 65) (kb false)), o 67 (.mv (.t 66)), og 68 67 true (.mv (.t 5)), og 69 67 true (.mv (.t 7)), og 70 67 true (.pc 24 [(.t 68), (.t 69)]), o 71 (.pk (.t 67) (.t 70) (kb false)), o 2 (.mv (.t 71))])
 .ret)))))))))
def F5 : AFn := ⟨c5, [0, 1, 2, 3, 4, 5, 6, 7, 8, 9, 12, 20, 35, 50, 61], [.tmp 2], 72⟩
theorem k5 : FnOk Try.prog 5 F5 := .of Try.f5 Try.func5 (by kernel_rfl) (by kernel_rfl) (by kernel_rfl) (by kernel_rfl)

/-- plimsoll/plimsolllaw13.DepthCalls -/
def c6 : AC :=
 (.seq (.reg 0 [o 1 (.bx 7 (.t 0)), o 2 (.mv (kb false))])
 (.seq (.seq (.reg 0 [o 10 (.ld (.t 1) (some 7)), o 11 (.pc 17 [(.t 10)]), o 12 (.un .not (.t 11))])
 (.cond (.t 12) (.seq (.reg 0 [o 13 (.pc 18 []), o 2 (.mv (.t 13))])
  .ret) .skip))
 (.seq (.reg 0 [o 15 (.ld (.t 1) (some 7)), o 16 (.pc 19 [(.t 15)]), o 14 (.mv (.t 16)), o 17 (.ex (.t 14) 0), o 18 (.ex (.t 14) 1), o 3 (.mv (.t 17)), o 4 (.mv (.t 18))])
 (.seq (.seq (.reg 0 [o 19 (.mv (.t 4)), o 20 (.bin .geq (.t 19) (ki 0))])
 (.cond (.t 20) (.seq (.reg 0 [o 21 (.pc 18 []), o 2 (.mv (.t 21))])
  .ret) .skip))
 (.seq (.reg 0 [o 23 (.ld (.t 1) (some 7)), o 24 (.mv (.t 3)), o 25 (.pc 20 [(.t 23), (.t 24)]), o 22 (.mv (.t 25)), o 26 (.ex (.t 22) 0), o 27 (.ex (.t 22) 1), o 5 (.mv (.t 26)), o 6 (.mv (.t 27))])
 (.seq (.seq (.reg 0 [o 28 (.mv (.t 6)), o 29 (.bin .neq (.t 28) (ki 0))])
 (.cond (.t 29) (.seq (.reg 0 [o 30 (.pc 18 []), o 2 (.mv (.t 30))])
  .ret) .skip))
 (.seq (.seq (.reg 0 [o 31 (.mv (.t 5)), o 32 (.ln (.t 31)), o 33 (.fa (.t 1) 3), o 34 (.ld (.t 33) none), o 35 (.ln (.t 34)), o 36 (.bin .neq (.t 32) (.t 35))])
 (.cond (.t 36) (.seq (.reg 0 [o 2 (.mv (kb false))])
  .ret) .skip))
 (.seq (.reg 0 [o 37 (.ld (.t 1) (some 7)), o 38 (.pc 26 [(.t 37)]), o 39 (.pc 25 [(.t 38)]), o 7 (.mv (.t 39))])
 (.seq (.seq (.reg 0 [o 8 (.mv (ki 0))])
 (.block 0 (.loop (.seq (.seq (.reg 0 [o 40 (.mv (.t 8)), o 41 (.mv (.t 5)), o 42 (.ln (.t 41)), o 43 (.bin .lss (.t 40) (.t 42))])
   (.cond (.t 43) .skip (.exit 0)))
   (.seq (.block 1 (.seq (.seq (.reg 0 [o 46 (.mv (.t 5)), o 47 (.mv (.t 8)), o 48 (.ia (.t 46) (.t 47) 1), o 49 (.ld (.t 48) none), o 50 (.ld (.t 1) (some 7)), o 51 (.mv (.t 3)), o 52 (.mv (.t 8)), o 53 (.pc 22 [(.t 50), (.t 51), (.t 52)]), o 54 (.bin .lss (.t 49) (.t 53))])
    (.cond (.t 54) (.seq (.reg 0 [o 2 (.mv (kb false))])
     .ret) .skip))
    (.seq (.reg 0 [o 9 (.mv (ki 0))])
    (.block 2 (.loop (.seq (.seq (.reg 0 [o 55 (.mv (.t 9)), o 56 (.mv (.t 5)), o 57 (.ln (.t 56)), o 58 (.bin .lss (.t 55) (.t 57))])
      (.cond (.t 58) .skip (.exit 2)))
      (.seq (.block 3 (.seq (.reg 0 [o 61 (.ld (.t 1) (some 7)), o 62 (.mv (.t 8)), o 63 (.mv (.t 9)), o 64 (.pc 27 [(.t 61), (.t 62), (.t 63)]), o 65 (.mv (.t 64)), og 66 65 true (.mv (.t 7)), og 67 65 true (.mv (.t 9)), og 68 65 true (.ia (.t 66) (.t 67) 1), og 69 65 true (.ld (.t 68) none), og 70 65 true (.mv (.t 8)), og 71 65 true (.ia (.t 69) (.t 70) 1), og 72 65 true (.ld (.t 71) none), og 73 65 true (.un .not (.t 72)), o 74 (.pk (.t 65) (.t 73) (kb false)), o 75 (.mv (.t 74)), og 76 75 true (.mv (.t 5)), og 77 75 true (.mv (.t 8)), og 78 75 true (.ia (.t 76) (.t 77) 1), og 79 75 true (.ld (.t 78) none), og 80 75 true (.ld (.t 1) (some 7)), og 81 75 true (.mv (.t 3)), og 82 75 true (.mv (.t 8)), og 83 75 true (.pc 22 [(.t 80), (.t 81), (.t 82)]), og 84 75 true (.mv (.t 5)), og 85 75 true (.mv (.t 9)), og 86 75 true (.ia (.t 84) (.t 85) 1), og 87 75 true (.ld (.t 86) none), og 88 75 true (.bin .add (.t 83) (.t 87)), og 89 75 true (.bin .lss (.t 79) (.t 88)), o 90 (.pk (.t 75) (.t 89) (kb false))])
       (.cond (.t 90) (.seq (.reg 0 [o 2 (.mv (kb false))])
        .ret) .skip)))
      (.reg 0 [o 59 (.mv (.t 9)), o 60 (.bin .add (.t 59) (ki 1)), o 9 (.mv (.t 60))]))))))))
   (.reg 0 [o 44 (.mv (.t 8)), o 45 (.bin .add (.t 44) (ki 1)), o 8 (.mv (.t 45))]))))))
 (.seq (.reg 0 [o 91 (.pc 18 []), o 2 (.mv (.t 91))])
 .ret))))))))))
def F6 : AFn := ⟨c6, [0, 1, 2, 3, 4, 5, 6, 7, 8, 9, 12, 20, 29, 36, 43, 54, 58, 90], [.tmp 2], 92⟩
theorem k6 : FnOk Try.prog 6 F6 := .of Try.f6 Try.func6 (by kernel_rfl) (by kernel_rfl) (by kernel_rfl) (by kernel_rfl)

/-- plimsoll/plimsolllaw13.DepthRing -/
def c7 : AC :=
 (.seq (.reg 0 [o 1 (.bx 7 (.t 0)), o 2 (.mv (kb false))])
 (.seq (.seq (.reg 0 [o 10 (.ld (.t 1) (some 7)), o 11 (.pc 17 [(.t 10)]), o 12 (.un .not (.t 11))])
 (.cond (.t 12) (.seq (.reg 0 [o 13 (.pc 18 []), o 2 (.mv (.t 13))])
  .ret) .skip))
 (.seq (.reg 0 [o 15 (.ld (.t 1) (some 7)), o 16 (.pc 19 [(.t 15)]), o 14 (.mv (.t 16)), o 17 (.ex (.t 14) 0), o 18 (.ex (.t 14) 1), o 3 (.mv (.t 17)), o 4 (.mv (.t 18))])
 (.seq (.seq (.reg 0 [o 19 (.mv (.t 4)), o 20 (.bin .geq (.t 19) (ki 0))])
 (.cond (.t 20) (.seq (.reg 0 [o 21 (.pc 18 []), o 2 (.mv (.t 21))])
  .ret) .skip))
 (.seq (.reg 0 [o 23 (.ld (.t 1) (some 7)), o 24 (.mv (.t 3)), o 25 (.pc 20 [(.t 23), (.t 24)]), o 22 (.mv (.t 25)), o 26 (.ex (.t 22) 0), o 27 (.ex (.t 22) 1), o 5 (.mv (.t 26)), o 6 (.mv (.t 27))])
 (.seq (.seq (.reg 0 [o 28 (.mv (.t 6)), o 29 (.bin .neq (.t 28) (ki 0))])
 (.cond (.t 29) (.seq (.reg 0 [o 30 (.pc 18 []), o 2 (.mv (.t 30))])
  .ret) .skip))
 (.seq (.seq (.reg 0 [o 31 (.mv (.t 5)), o 32 (.ln (.t 31)), o 33 (.fa (.t 1) 3), o 34 (.ld (.t 33) none), o 35 (.ln (.t 34)), o 36 (.bin .neq (.t 32) (.t 35))])
 (.cond (.t 36) (.seq (.reg 0 [o 2 (.mv (kb false))])
  .ret) .skip))
 (.seq (.reg 0 [o 37 (.ld (.t 1) (some 7)), o 38 (.pc 26 [(.t 37)]), o 39 (.pc 25 [(.t 38)]), o 7 (.mv (.t 39))])
 (.seq (.seq (.reg 0 [o 8 (.mv (ki 0))])
 (.block 0 (.loop (.seq (.seq (.reg 0 [o 40 (.mv (.t 8)), o 41 (.mv (.t 5)), o 42 (.ln (.t 41)), o 43 (.bin .lss (.t 40) (.t 42))])
   (.cond (.t 43) .skip (.exit 0)))
   (.seq (.block 1 (.seq (.reg 0 [o 9 (.mv (ki 0))])
    (.block 2 (.loop (.seq (.seq (.reg 0 [o 46 (.mv (.t 9)), o 47 (.mv (.t 5)), o 48 (.ln (.t 47)), o 49 (.bin .lss (.t 46) (.t 48))])
      (.cond (.t 49) .skip (.exit 2)))
      (.seq (.block 3 (.seq (.reg 0 [o 52 (.mv (.t 7)), o 53 (.mv (.t 8)), o 54 (.ia (.t 52) (.t 53) 1), o 55 (.ld (.t 54) none), o 56 (.mv (.t 9)), o 57 (.ia (.t 55) (.t 56) 1), o 58 (.ld (.t 57) none), o 59 (.mv (.t 58)), og 60 59 true (.mv (.t 7)), og 61 59 true (.mv (.t 9)), og 62 59 true (.ia (.t 60) (.t 61) 1), og 63 59 true (.ld (.t 62) none), og 64 59 true (.mv (.t 8)), og 65 59 true (.ia (.t 63) (.t 64) 1), og 66 59 true (.ld (.t 65) none), o 67 (.pk (.t 59) (.t 66) (kb false)), o 68 (.mv (.t 67)), og 69 68 true (.mv (.t 5)), og 70 68 true (.mv (.t 8)), og 71 68 true (.ia (.t 69) (.t 70) 1), og 72 68 true (.ld (.t 71) none), og 73 68 true (.mv (.t 5)), og 74 68 true (.mv (.t 9)), og 75 68 true (.ia (.t 73) (.t 74) 1), og 76 68 true (.ld (.t 75) none), og 77 68 true (.bin .neq (.t 72) (.t 76)), o 78 (.pk (.t 68) (.t 77) (kb false)), o 79 (.mv (.t 78)), og 80 79 false (.mv (.t 7)), og 81 79 false (.mv (.t 8)), og 82 79 false (.ia (.t 80) (.t 81) 1), og 83 79 false (.ld (.t 82) none), og 84 79 false (.mv (.t 9)), og 85 79 false (.ia (.t 83) (.t 84) 1), og 86 79 false (.ld (.t 85) none), og 87 79 false (.mv (.t 86)), og 88 87 true (.mv (.t 5)), og 89 87 true (.mv (.t 8)), og 90 87 true (.ia (.t 88) (.t 89) 1), og 91 87 true (.ld (.t 90) none), og 92 87 true (.mv (.t 5)), og 93 87 true (.mv (.t 9)), og 94 87 true (.ia (.t 92) (.t 93) 1), og 95 87 true (.ld (.t 94) none), og 96 87 true (.bin .lss (.t 91) (.t 95)), og 97 79 false (.pk (.t 87) (.t 96) (kb false)), o 98 (.pk (.t 79) (kb true) (.t 97))])
       (.cond (.t 98) (.seq (.reg 0 [o 2 (.mv (kb false))])
        .ret) .skip)))
      (.reg 0 [o 50 (.mv (.t 9)), o 51 (.bin .add (.t 50) (ki 1)), o 9 (.mv (.t 51))])))))))
   (.reg 0 [o 44 (.mv (.t 8)), o 45 (.bin .add (.t 44) (ki 1)), o 8 (.mv (.t 45))]))))))
 (.seq (.reg 0 [o 99 (.pc 18 []), o 2 (.mv (.t 99))])
 .ret))))))))))
def F7 : AFn := ⟨c7, [0, 1, 2, 3, 4, 5, 6, 7, 8, 9, 12, 20, 29, 36, 43, 49, 98], [.tmp 2], 100⟩
theorem k7 : FnOk Try.prog 7 F7 := .of Try.f7 Try.func7 (by kernel_rfl) (by kernel_rfl) (by kernel_rfl) (by kernel_rfl)

/-- plimsoll/plimsolllaw06.small -/
def c8 : AC :=
 (.seq (.reg 0 [o 1 (.bx 7 (.t 0)), o 2 (.mv (kb false))])
 (.seq (.seq (.reg 0 [o 5 (.fa (.t 1) 0), o 6 (.ld (.t 5) none), o 7 (.ln (.t 6)), o 8 (.fa (.t 1) 1), o 9 (.ld (.t 8) none), o 10 (.ln (.t 9)), o 11 (.bin .add (.t 7) (.t 10)), o 12 (.fa (.t 1) 2), o 13 (.ld (.t 12) none), o 14 (.ln (.t 13)), o 15 (.bin .add (.t 11) (.t 14)), o 16 (.fa (.t 1) 3), o 17 (.ld (.t 16) none), o 18 (.ln (.t 17)), o 19 (.bin .add (.t 15) (.t 18)), o 20 (.fa (.t 1) 4), o 21 (.ld (.t 20) none), o 22 (.ln (.t 21)), o 23 (.bin .add (.t 19) (.t 22)), o 24 (.bin .gtr (.t 23) (ki 300))])
 (.cond (.t 24) (.seq (.reg 0 [o 2 (.mv (kb false))])
  .ret) .skip))
 (.seq (.seq (.reg 0 [o 3 (.mv (ki 0))])
 (.block 0 (.loop (.seq (.seq (.reg 0 [o 25 (.mv (.t 3)), o 26 (.fa (.t 1) 3), o 27 (.ld (.t 26) none), o 28 (.ln (.t 27)), o 29 (.bin .lss (.t 25) (.t 28))])
   (.cond (.t 29) .skip (.exit 0)))
   (.seq (.block 1 (.seq (.reg 0 [o 32 (.fa (.t 1) 3), o 33 (.ld (.t 32) none), o 34 (.mv (.t 3)), o 35 (.ia (.t 33) (.t 34) 8), o 36 (.ld (.t 35) (some 8)), o 4 (.al [.nilsl, .nilsl, .int .i64 0, .int .i64 0, .nilsl, .int .i64 0, .int .i64 0, .nilsl]), os (.st 8 (.t 4) (.t 36))])
    (.seq (.reg 0 [o 37 (.fa (.t 4) 0), o 38 (.ld (.t 37) none), o 39 (.ln (.t 38)), o 40 (.fa (.t 4) 1), o 41 (.ld (.t 40) none), o 42 (.ln (.t 41)), o 43 (.bin .add (.t 39) (.t 42)), o 44 (.fa (.t 4) 4), o 45 (.ld (.t 44) none), o 46 (.ln (.t 45)), o 47 (.bin .add (.t 43) (.t 46)), o 48 (.fa (.t 4) 7), o 49 (.ld (.t 48) none), o 50 (.ln (.t 49)), o 51 (.bin .add (.t 47) (.t 50)), o 52 (.bin .gtr (.t 51) (ki 1000))])
    (.cond (.t 52) (.seq (.reg 0 [o 2 (.mv (kb false))])
     .ret) .skip))))
   (.reg 0 [o 30 (.mv (.t 3)), o 31 (.bin .add (.t 30) (ki 1)), o 3 (.mv (.t 31))]))))))
 (.seq (.reg 0 [o 2 (.mv (kb true))])
 .ret))))
def F8 : AFn := ⟨c8, [0, 1, 2, 3, 4, 24, 29, 52], [.tmp 2], 53⟩
theorem k8 : FnOk Try.prog 8 F8 := .of Try.f8 Try.func8 (by kernel_rfl) (by kernel_rfl) (by kernel_rfl) (by kernel_rfl)

/-- plimsoll/plimsollref05.Sane -/
def c9 : AC :=
 (.seq (.reg 0 [o 1 (.bx 7 (.t 0)), o 2 (.mv (ki 0))])
 (.seq (.seq (.reg 0 [o 9 (.ld (.t 1) (some 7)), o 10 (.pc 28 [(.t 9)]), o 11 (.un .not (.t 10))])
 (.cond (.t 11) (.seq (.reg 0 [o 2 (.mv (ki 2))])
  .ret) .skip))
 (.seq (.reg 0 [o 12 (.ld (.t 1) (some 7)), o 13 (.fa (.t 1) 1), o 14 (.ld (.t 13) none), o 15 (.pc 29 [(.t 12), (.t 14)]), o 3 (.mv (.t 15))])
 (.seq (.seq (.reg 0 [o 4 (.mv (ki 0))])
 (.block 0 (.loop (.seq (.seq (.reg 0 [o 16 (.mv (.t 4)), o 17 (.fa (.t 1) 0), o 18 (.ld (.t 17) none), o 19 (.ln (.t 18)), o 20 (.bin .lss (.t 16) (.t 19)), o 21 (.mv (.t 20)), og 22 21 true (.mv (.t 3)), o 23 (.pk (.t 21) (.t 22) (kb false))])
   (.cond (.t 23) .skip (.exit 0)))
   (.seq (.block 1 (.reg 0 [o 26 (.ld (.t 1) (some 7)), o 27 (.mv (.t 4)), o 28 (.pc 30 [(.t 26), (.t 27)]), o 3 (.mv (.t 28))]))
   (.reg 0 [o 24 (.mv (.t 4)), o 25 (.bin .add (.t 24) (ki 1)), o 4 (.mv (.t 25))]))))))
 (.seq (.seq (.reg 0 [o 5 (.mv (ki 0))])
 (.block 2 (.loop (.seq (.seq (.reg 0 [o 29 (.mv (.t 5)), o 30 (.fa (.t 1) 3), o 31 (.ld (.t 30) none), o 32 (.ln (.t 31)), o 33 (.bin .lss (.t 29) (.t 32)), o 34 (.mv (.t 33)), og 35 34 true (.mv (.t 3)), o 36 (.pk (.t 34) (.t 35) (kb false))])
   (.cond (.t 36) .skip (.exit 2)))
   (.seq (.block 3 (.reg 0 [o 39 (.ld (.t 1) (some 7)), o 40 (.fa (.t 1) 3), o 41 (.ld (.t 40) none), o 42 (.mv (.t 5)), o 43 (.ia (.t 41) (.t 42) 8), o 44 (.ld (.t 43) (some 8)), o 45 (.pc 31 [(.t 39), (.t 44)]), o 3 (.mv (.t 45))]))
   (.reg 0 [o 37 (.mv (.t 5)), o 38 (.bin .add (.t 37) (ki 1)), o 5 (.mv (.t 38))]))))))
 (.seq (.seq (.reg 0 [o 6 (.mv (ki 0))])
 (.block 4 (.loop (.seq (.seq (.reg 0 [o 46 (.mv (.t 6)), o 47 (.fa (.t 1) 4), o 48 (.ld (.t 47) none), o 49 (.ln (.t 48)), o 50 (.bin .lss (.t 46) (.t 49)), o 51 (.mv (.t 50)), og 52 51 true (.mv (.t 3)), o 53 (.pk (.t 51) (.t 52) (kb false))])
   (.cond (.t 53) .skip (.exit 4)))
   (.seq (.block 5 (.seq (.reg 0 [o 56 (.fa (.t 1) 4), o 57 (.ld (.t 56) none), o 58 (.mv (.t 6)), o 59 (.ia (.t 57) (.t 58) 1), o 60 (.ld (.t 59) none), o 7 (.mv (.t 60))])
    (.seq (.seq (.reg 0 [o 61 (.mv (.t 7)), o 62 (.fa (.t 1) 3), o 63 (.ld (.t 62) none), o 64 (.ln (.t 63)), o 65 (.bin .geq (.t 61) (.t 64))])
    (.cond (.t 65) (.seq (.reg 0 [o 2 (.mv (ki 3))])
     .ret) .skip))
    (.seq (.reg 0 [o 66 (.fa (.t 1) 3), o 67 (.ld (.t 66) none), o 68 (.mv (.t 7)), o 69 (.ia (.t 67) (.t 68) 8), o 70 (.fa (.t 69) 2), o 71 (.fa (.t 70) 0), o 72 (.ld (.t 71) none), o 73 (.bin .eql (.t 72) (ki 1)), o 74 (.mv (.t 73)), og 75 74 false (.fa (.t 1) 3), og 76 74 false (.ld (.t 75) none), og 77 74 false (.mv (.t 7)), og 78 74 false (.ia (.t 76) (.t 77) 8), og 79 74 false (.fa (.t 78) 2), og 80 74 false (.fa (.t 79) 0), og 81 74 false (.ld (.t 80) none), og 82 74 false (.bin .eql (.t 81) (ki 5)), o 83 (.pk (.t 74) (kb true) (.t 82)), o 3 (.mv (.t 83))])
    (.seq (.reg 0 [o 8 (.mv (ki 0))])
    (.block 6 (.loop (.seq (.seq (.reg 0 [o 84 (.mv (.t 8)), o 85 (.fa (.t 1) 3), o 86 (.ld (.t 85) none), o 87 (.mv (.t 7)), o 88 (.ia (.t 86) (.t 87) 8), o 89 (.fa (.t 88) 0), o 90 (.ld (.t 89) none), o 91 (.ln (.t 90)), o 92 (.bin .lss (.t 84) (.t 91)), o 93 (.mv (.t 92)), og 94 93 true (.mv (.t 3)), o 95 (.pk (.t 93) (.t 94) (kb false))])
      (.cond (.t 95) .skip (.exit 6)))
      (.seq (.block 7 (.reg 0 [o 98 (.fa (.t 1) 3), o 99 (.ld (.t 98) none), o 100 (.mv (.t 7)), o 101 (.ia (.t 99) (.t 100) 8), o 102 (.fa (.t 101) 0), o 103 (.ld (.t 102) none), o 104 (.mv (.t 8)), o 105 (.ia (.t 103) (.t 104) 2), o 106 (.fa (.t 105) 0), o 107 (.ld (.t 106) none), o 108 (.bin .eql (.t 107) (ki 1)), o 3 (.mv (.t 108))]))
      (.reg 0 [o 96 (.mv (.t 8)), o 97 (.bin .add (.t 96) (ki 1)), o 8 (.mv (.t 97))]))))))))))
   (.reg 0 [o 54 (.mv (.t 6)), o 55 (.bin .add (.t 54) (ki 1)), o 6 (.mv (.t 55))]))))))
 (.seq (.seq (.reg 0 [o 109 (.mv (.t 3)), o 110 (.un .not (.t 109))])
 (.cond (.t 110) (.seq (.reg 0 [o 2 (.mv (ki 3))])
  .ret) .skip))
 (.seq (.reg 0 [o 2 (.mv (ki 0))])
 .ret))))))))
def F9 : AFn := ⟨c9, [0, 1, 2, 3, 4, 5, 6, 7, 8, 11, 23, 36, 53, 65, 95, 110], [.tmp 2], 111⟩
theorem k9 : FnOk Try.prog 9 F9 := .of Try.f9 Try.func9 (by kernel_rfl) (by kernel_rfl) (by kernel_rfl) (by kernel_rfl)

/-- plimsoll/plimsolllaw06.awake -/
def c10 : AC :=
 (.seq (.reg 0 [o 0 (.mv (kb false))])
 (.seq (.reg 0 [o 3 (.bd [.int .i64 0, .int .i64 0] [(0, 1, (ki 5))]), o 4 (.bd [.int .i64 0, .int .i64 0, .int .i64 0] [(0, 1, (ki 33))]), o 5 (.bs 3 1 [.int .i64 0, .int .i64 0, .int .i64 0] [(0, (.t 4))]), o 6 (.bs 1 1 [.int .i64 0] [(0, (ki 0))]), o 7 (.bd [.nilsl, .nilsl, .int .i64 0, .int .i64 0, .nilsl, .int .i64 0, .int .i64 0, .nilsl] [(2, 2, (.t 3)), (4, 1, (.t 5)), (7, 1, (.t 6))]), o 8 (.bs 8 1 [.nilsl, .nilsl, .int .i64 0, .int .i64 0, .nilsl, .int .i64 0, .int .i64 0, .nilsl] [(0, (.t 7))]), o 9 (.bs 1 1 [.int .i64 0] [(0, (ki 0))]), o 10 (.bd [.nilsl, .nilsl, .nilsl, .nilsl, .nilsl, .int .i64 0, .int .i64 0] [(3, 1, (.t 8)), (4, 1, (.t 9))]), o 1 (.al [.nilsl, .nilsl, .nilsl, .nilsl, .nilsl, .int .i64 0, .int .i64 0]), os (.st 7 (.t 1) (.t 10))])
 (.seq (.reg 0 [o 11 (.ld (.t 1) (some 7)), o 12 (.pc 11 [(.t 11)]), o 2 (.mv (.t 12))])
 (.seq (.reg 0 [o 13 (.bs 1 1 [.int .i64 0] [(0, (ki 1))]), o 14 (.fa (.t 1) 4), os (.st 1 (.t 14) (.t 13))])
 (.seq (.reg 0 [o 15 (.mv (.t 2)), o 16 (.bin .eql (.t 15) (ki 0)), o 17 (.mv (.t 16)), og 18 17 true (.ld (.t 1) (some 7)), og 19 17 true (.pc 11 [(.t 18)]), og 20 17 true (.bin .eql (.t 19) (ki 3)), o 21 (.pk (.t 17) (.t 20) (kb false)), o 22 (.mv (.t 21)), og 23 22 true (.bd [.nilsl, .nilsl, .nilsl, .nilsl, .nilsl, .int .i64 0, .int .i64 0] [(5, 1, (ki (-1)))]), og 24 22 true (.pc 11 [(.t 23)]), og 25 22 true (.bin .eql (.t 24) (ki 2)), o 26 (.pk (.t 22) (.t 25) (kb false)), o 27 (.mv (.t 26)), og 28 27 true (.ld (.t 1) (some 7)), og 29 27 true (.pc 28 [(.t 28)]), o 30 (.pk (.t 27) (.t 29) (kb false)), o 0 (.mv (.t 30))])
 .ret)))))
def F10 : AFn := ⟨c10, [0, 1, 2], [.tmp 0], 31⟩
theorem k10 : FnOk Try.prog 10 F10 := .of Try.f10 Try.func10 (by kernel_rfl) (by kernel_rfl) (by kernel_rfl) (by kernel_rfl)

/-- plimsoll/sane.Check -/
def c11 : AC :=
 (.seq (.reg 0 [o 1 (.bx 7 (.t 0)), o 2 (.mv (ki 0))])
 (.seq (.seq (.reg 0 [o 8 (.ld (.t 1) (some 7)), o 9 (.pc 32 [(.t 8)]), o 10 (.un .not (.t 9))])
 (.cond (.t 10) (.seq (.reg 0 [o 2 (.mv (ki 2))])
  .ret) .skip))
 (.seq (.seq (.reg 0 [o 11 (.ld (.t 1) (some 7)), o 12 (.fa (.t 1) 1), o 13 (.ld (.t 12) none), o 14 (.bs 1 1 [.nilsl] [(0, (.t 13))]), o 15 (.pc 33 [(.t 11), (.t 14)]), o 16 (.un .not (.t 15))])
 (.cond (.t 16) (.seq (.reg 0 [o 2 (.mv (ki 3))])
  .ret) .skip))
 (.seq (.seq (.reg 0 [o 17 (.fa (.t 1) 0), o 18 (.ld (.t 17) none), o 19 (.ln (.t 18)), o 20 (.mv (ki 0))])
 (.block 0 (.loop (.seq (.reg 0 [o 21 (.bin .lss (.t 20) (.t 19))])
   (.seq (.cond (.t 21) .skip (.exit 0))
   (.seq (.block 1 (.seq (.reg 0 [o 22 (.mv (.t 20)), o 3 (.mv (.t 22))])
    (.seq (.reg 0 [o 23 (.ld (.t 1) (some 7)), o 24 (.mv (.t 3)), o 25 (.pc 34 [(.t 23), (.t 24)]), o 26 (.un .not (.t 25))])
    (.cond (.t 26) (.seq (.reg 0 [o 2 (.mv (ki 3))])
     .ret) .skip))))
   (.reg 0 [o 27 (.bin .add (.t 20) (ki 1)), o 20 (.mv (.t 27))])))))))
 (.seq (.seq (.reg 0 [o 28 (.fa (.t 1) 3), o 29 (.ld (.t 28) none), o 30 (.ln (.t 29)), o 31 (.mv (ki 0))])
 (.block 2 (.loop (.seq (.reg 0 [o 32 (.bin .lss (.t 31) (.t 30))])
   (.seq (.cond (.t 32) .skip (.exit 2))
   (.seq (.block 3 (.seq (.reg 0 [o 33 (.ia (.t 29) (.t 31) 8), o 34 (.ld (.t 33) (some 8)), o 5 (.al [.nilsl, .nilsl, .int .i64 0, .int .i64 0, .nilsl, .int .i64 0, .int .i64 0, .nilsl]), os (.st 8 (.t 5) (.t 34))])
    (.seq (.reg 0 [o 35 (.ld (.t 1) (some 7)), o 36 (.ld (.t 5) (some 8)), o 37 (.pc 35 [(.t 35), (.t 36)]), o 38 (.un .not (.t 37))])
    (.cond (.t 38) (.seq (.reg 0 [o 2 (.mv (ki 3))])
     .ret) .skip))))
   (.reg 0 [o 39 (.bin .add (.t 31) (ki 1)), o 31 (.mv (.t 39))])))))))
 (.seq (.seq (.reg 0 [o 40 (.fa (.t 1) 4), o 41 (.ld (.t 40) none), o 42 (.ln (.t 41)), o 43 (.mv (ki 0))])
 (.block 4 (.loop (.seq (.reg 0 [o 44 (.bin .lss (.t 43) (.t 42))])
   (.seq (.cond (.t 44) .skip (.exit 4))
   (.seq (.block 5 (.seq (.reg 0 [o 45 (.ia (.t 41) (.t 43) 1), o 46 (.ld (.t 45) none), o 7 (.mv (.t 46))])
    (.seq (.reg 0 [o 47 (.ld (.t 1) (some 7)), o 48 (.mv (.t 7)), o 49 (.pc 36 [(.t 47), (.t 48)]), o 50 (.un .not (.t 49))])
    (.cond (.t 50) (.seq (.reg 0 [o 2 (.mv (ki 3))])
     .ret) .skip))))
   (.reg 0 [o 51 (.bin .add (.t 43) (ki 1)), o 43 (.mv (.t 51))])))))))
 (.seq (.reg 0 [o 2 (.mv (ki 0))])
 .ret)))))))
def F11 : AFn := ⟨c11, [0, 1, 2, 3, 5, 7, 10, 16, 19, 20, 21, 26, 29, 30, 31, 32, 38, 41, 42, 43, 44, 50], [.tmp 2], 52⟩
theorem k11 : FnOk Try.prog 11 F11 := .of Try.f11 Try.func11 (by kernel_rfl) (by kernel_rfl) (by kernel_rfl) (by kernel_rfl)

/-- plimsoll/plimsolllaw05.small -/
def c12 : AC :=
 (.seq (.reg 0 [o 1 (.bx 7 (.t 0)), o 2 (.mv (kb false))])
 (.seq (.seq (.reg 0 [o 6 (.fa (.t 1) 0), o 7 (.ld (.t 6) none), o 8 (.ln (.t 7)), o 9 (.fa (.t 1) 1), o 10 (.ld (.t 9) none), o 11 (.ln (.t 10)), o 12 (.bin .add (.t 8) (.t 11)), o 13 (.fa (.t 1) 2), o 14 (.ld (.t 13) none), o 15 (.ln (.t 14)), o 16 (.bin .add (.t 12) (.t 15)), o 17 (.fa (.t 1) 3), o 18 (.ld (.t 17) none), o 19 (.ln (.t 18)), o 20 (.bin .add (.t 16) (.t 19)), o 21 (.fa (.t 1) 4), o 22 (.ld (.t 21) none), o 23 (.ln (.t 22)), o 24 (.bin .add (.t 20) (.t 23)), o 25 (.bin .gtr (.t 24) (ki 300))])
 (.cond (.t 25) (.seq (.reg 0 [o 2 (.mv (kb false))])
  .ret) .skip))
 (.seq (.seq (.reg 0 [o 3 (.mv (ki 0))])
 (.block 0 (.loop (.seq (.seq (.reg 0 [o 26 (.mv (.t 3)), o 27 (.fa (.t 1) 3), o 28 (.ld (.t 27) none), o 29 (.ln (.t 28)), o 30 (.bin .lss (.t 26) (.t 29))])
   (.cond (.t 30) .skip (.exit 0)))
   (.seq (.block 1 (.seq (.reg 0 [o 33 (.fa (.t 1) 3), o 34 (.ld (.t 33) none), o 35 (.mv (.t 3)), o 36 (.ia (.t 34) (.t 35) 8), o 37 (.ld (.t 36) (some 8)), o 4 (.al [.nilsl, .nilsl, .int .i64 0, .int .i64 0, .nilsl, .int .i64 0, .int .i64 0, .nilsl]), os (.st 8 (.t 4) (.t 37))])
    (.seq (.reg 0 [o 38 (.fa (.t 4) 0), o 39 (.ld (.t 38) none), o 40 (.ln (.t 39)), o 41 (.fa (.t 4) 1), o 42 (.ld (.t 41) none), o 43 (.ln (.t 42)), o 44 (.bin .add (.t 40) (.t 43)), o 45 (.fa (.t 4) 4), o 46 (.ld (.t 45) none), o 47 (.ln (.t 46)), o 48 (.bin .add (.t 44) (.t 47)), o 49 (.fa (.t 4) 7), o 50 (.ld (.t 49) none), o 51 (.ln (.t 50)), o 52 (.bin .add (.t 48) (.t 51)), o 53 (.bin .gtr (.t 52) (ki 1000))])
    (.cond (.t 53) (.seq (.reg 0 [o 2 (.mv (kb false))])
     .ret) .skip))))
   (.reg 0 [o 31 (.mv (.t 3)), o 32 (.bin .add (.t 31) (ki 1)), o 3 (.mv (.t 32))]))))))
 (.seq (.seq (.reg 0 [o 5 (.mv (ki 0))])
 (.block 2 (.loop (.seq (.seq (.reg 0 [o 54 (.mv (.t 5)), o 55 (.fa (.t 1) 0), o 56 (.ld (.t 55) none), o 57 (.ln (.t 56)), o 58 (.bin .lss (.t 54) (.t 57))])
   (.cond (.t 58) .skip (.exit 2)))
   (.seq (.block 3 (.seq (.reg 0 [o 61 (.fa (.t 1) 0), o 62 (.ld (.t 61) none), o 63 (.mv (.t 5)), o 64 (.ia (.t 62) (.t 63) 3), o 65 (.fa (.t 64) 1), o 66 (.ld (.t 65) none), o 67 (.ln (.t 66)), o 68 (.fa (.t 1) 0), o 69 (.ld (.t 68) none), o 70 (.mv (.t 5)), o 71 (.ia (.t 69) (.t 70) 3), o 72 (.fa (.t 71) 2), o 73 (.ld (.t 72) none), o 74 (.ln (.t 73)), o 75 (.bin .add (.t 67) (.t 74)), o 76 (.bin .gtr (.t 75) (ki 300))])
    (.cond (.t 76) (.seq (.reg 0 [o 2 (.mv (kb false))])
     .ret) .skip)))
   (.reg 0 [o 59 (.mv (.t 5)), o 60 (.bin .add (.t 59) (ki 1)), o 5 (.mv (.t 60))]))))))
 (.seq (.reg 0 [o 2 (.mv (kb true))])
 .ret)))))
def F12 : AFn := ⟨c12, [0, 1, 2, 3, 4, 5, 25, 30, 53, 58, 76], [.tmp 2], 77⟩
theorem k12 : FnOk Try.prog 12 F12 := .of Try.f12 Try.func12 (by kernel_rfl) (by kernel_rfl) (by kernel_rfl) (by kernel_rfl)

/-- plimsoll/plimsollref05.Same -/
def c15 : AC :=
 (.seq (.reg 0 [o 2 (.bx 7 (.t 0)), o 3 (.bx 7 (.t 1)), o 4 (.mv (kb false))])
 (.seq (.seq (.reg 0 [o 13 (.fa (.t 2) 0), o 14 (.ld (.t 13) none), o 15 (.ln (.t 14)), o 16 (.fa (.t 3) 0), o 17 (.ld (.t 16) none), o 18 (.ln (.t 17)), o 19 (.bin .neq (.t 15) (.t 18)), o 20 (.mv (.t 19)), og 21 20 false (.fa (.t 2) 3), og 22 20 false (.ld (.t 21) none), og 23 20 false (.ln (.t 22)), og 24 20 false (.fa (.t 3) 3), og 25 20 false (.ld (.t 24) none), og 26 20 false (.ln (.t 25)), og 27 20 false (.bin .neq (.t 23) (.t 26)), o 28 (.pk (.t 20) (kb true) (.t 27)), o 29 (.mv (.t 28)), og 30 29 false (.fa (.t 2) 2), og 31 29 false (.ld (.t 30) none), og 32 29 false (.ln (.t 31)), og 33 29 false (.fa (.t 3) 2), og 34 29 false (.ld (.t 33) none), og 35 29 false (.ln (.t 34)), og 36 29 false (.bin .neq (.t 32) (.t 35)), o 37 (.pk (.t 29) (kb true) (.t 36)), o 38 (.mv (.t 37)), og 39 38 false (.fa (.t 2) 5), og 40 38 false (.ld (.t 39) none), og 41 38 false (.fa (.t 3) 5), og 42 38 false (.ld (.t 41) none), og 43 38 false (.bin .neq (.t 40) (.t 42)), o 44 (.pk (.t 38) (kb true) (.t 43)), o 45 (.mv (.t 44)), og 46 45 false (.fa (.t 2) 6), og 47 45 false (.ld (.t 46) none), og 48 45 false (.fa (.t 3) 6), og 49 45 false (.ld (.t 48) none), og 50 45 false (.bin .neq (.t 47) (.t 49)), o 51 (.pk (.t 45) (kb true) (.t 50)), o 52 (.mv (.t 51)), og 53 52 false (.fa (.t 2) 1), og 54 52 false (.ld (.t 53) none), og 55 52 false (.fa (.t 3) 1), og 56 52 false (.ld (.t 55) none), og 57 52 false (.pc 45 [(.t 54), (.t 56)]), og 58 52 false (.un .not (.t 57)), o 59 (.pk (.t 52) (kb true) (.t 58)), o 60 (.mv (.t 59)), og 61 60 false (.fa (.t 2) 4), og 62 60 false (.ld (.t 61) none), og 63 60 false (.fa (.t 3) 4), og 64 60 false (.ld (.t 63) none), og 65 60 false (.pc 24 [(.t 62), (.t 64)]), og 66 60 false (.un .not (.t 65)), o 67 (.pk (.t 60) (kb true) (.t 66))])
 (.cond (.t 67) (.seq (.reg 0 [o 4 (.mv (kb false))])
  .ret) .skip))
 (.seq (.seq (.reg 0 [o 5 (.mv (ki 0))])
 (.block 0 (.loop (.seq (.seq (.reg 0 [o 68 (.mv (.t 5)), o 69 (.fa (.t 2) 2), o 70 (.ld (.t 69) none), o 71 (.ln (.t 70)), o 72 (.bin .lss (.t 68) (.t 71))])
   (.cond (.t 72) .skip (.exit 0)))
   (.seq (.block 1 (.seq (.reg 0 [o 75 (.fa (.t 2) 2), o 76 (.ld (.t 75) none), o 77 (.mv (.t 5)), o 78 (.ia (.t 76) (.t 77) 1), o 79 (.ld (.t 78) none), o 80 (.fa (.t 3) 2), o 81 (.ld (.t 80) none), o 82 (.mv (.t 5)), o 83 (.ia (.t 81) (.t 82) 1), o 84 (.ld (.t 83) none), o 85 (.bin .neq (.t 79) (.t 84))])
    (.cond (.t 85) (.seq (.reg 0 [o 4 (.mv (kb false))])
     .ret) .skip)))
   (.reg 0 [o 73 (.mv (.t 5)), o 74 (.bin .add (.t 73) (ki 1)), o 5 (.mv (.t 74))]))))))
 (.seq (.seq (.reg 0 [o 6 (.mv (ki 0))])
 (.block 2 (.loop (.seq (.seq (.reg 0 [o 86 (.mv (.t 6)), o 87 (.fa (.t 2) 0), o 88 (.ld (.t 87) none), o 89 (.ln (.t 88)), o 90 (.bin .lss (.t 86) (.t 89))])
   (.cond (.t 90) .skip (.exit 2)))
   (.seq (.block 3 (.seq (.reg 2 [o 93 (.fa (.t 2) 0), ⟨some 94, none, none, true, .ld (.t 93) none⟩, o 95 (.mv (.t 6)), o 96 (.ia (.t 94) (.t 95) 3), ⟨some 97, none, none, true, .ld (.t 96) (some 3)⟩, o 98 (.fa (.t 3) 0), ⟨some 99, none, none, true, .ld (.t 98) none⟩, o 100 (.mv (.t 6)), o 101 (.ia (.t 99) (.t 100) 3), ⟨some 102, none, none, true, .ld (.t 101) (some 3)⟩, ⟨some 7, none, some 0, false, .al [.int .i64 0, .nilsl, .nilsl]⟩, ⟨some 8, none, some 1, false, .al [.int .i64 0, .nilsl, .nilsl]⟩, ⟨none, none, none, true, .st 3 (.t 7) (.t 97)⟩, os (.st 3 (.t 8) (.t 102))])
    (.seq (.reg 0 [o 103 (.fa (.t 7) 0), o 104 (.ld (.t 103) none), o 105 (.fa (.t 8) 0), o 106 (.ld (.t 105) none), o 107 (.bin .neq (.t 104) (.t 106)), o 108 (.mv (.t 107)), og 109 108 false (.fa (.t 7) 1), og 110 108 false (.ld (.t 109) none), og 111 108 false (.fa (.t 8) 1), og 112 108 false (.ld (.t 111) none), og 113 108 false (.pc 45 [(.t 110), (.t 112)]), og 114 108 false (.un .not (.t 113)), o 115 (.pk (.t 108) (kb true) (.t 114)), o 116 (.mv (.t 115)), og 117 116 false (.fa (.t 7) 2), og 118 116 false (.ld (.t 117) none), og 119 116 false (.fa (.t 8) 2), og 120 116 false (.ld (.t 119) none), og 121 116 false (.pc 24 [(.t 118), (.t 120)]), og 122 116 false (.un .not (.t 121)), o 123 (.pk (.t 116) (kb true) (.t 122))])
    (.cond (.t 123) (.seq (.reg 0 [o 4 (.mv (kb false))])
     .ret) .skip))))
   (.reg 0 [o 91 (.mv (.t 6)), o 92 (.bin .add (.t 91) (ki 1)), o 6 (.mv (.t 92))]))))))
 (.seq (.seq (.reg 0 [o 9 (.mv (ki 0))])
 (.block 4 (.loop (.seq (.seq (.reg 0 [o 124 (.mv (.t 9)), o 125 (.fa (.t 2) 3), o 126 (.ld (.t 125) none), o 127 (.ln (.t 126)), o 128 (.bin .lss (.t 124) (.t 127))])
   (.cond (.t 128) .skip (.exit 4)))
   (.seq (.block 5 (.seq (.reg 2 [o 131 (.fa (.t 2) 3), ⟨some 132, none, none, true, .ld (.t 131) none⟩, o 133 (.mv (.t 9)), o 134 (.ia (.t 132) (.t 133) 8), ⟨some 135, none, none, true, .ld (.t 134) (some 8)⟩, o 136 (.fa (.t 3) 3), ⟨some 137, none, none, true, .ld (.t 136) none⟩, o 138 (.mv (.t 9)), o 139 (.ia (.t 137) (.t 138) 8), ⟨some 140, none, none, true, .ld (.t 139) (some 8)⟩, ⟨some 10, none, some 0, false, .al [.nilsl, .nilsl, .int .i64 0, .int .i64 0, .nilsl, .int .i64 0, .int .i64 0, .nilsl]⟩, ⟨some 11, none, some 1, false, .al [.nilsl, .nilsl, .int .i64 0, .int .i64 0, .nilsl, .int .i64 0, .int .i64 0, .nilsl]⟩, ⟨none, none, none, true, .st 8 (.t 10) (.t 135)⟩, os (.st 8 (.t 11) (.t 140))])
    (.seq (.seq (.reg 0 [o 141 (.fa (.t 10) 0), o 142 (.ld (.t 141) none), o 143 (.fa (.t 11) 0), o 144 (.ld (.t 143) none), o 145 (.pc 45 [(.t 142), (.t 144)]), o 146 (.un .not (.t 145)), o 147 (.mv (.t 146)), og 148 147 false (.fa (.t 10) 1), og 149 147 false (.ld (.t 148) none), og 150 147 false (.fa (.t 11) 1), og 151 147 false (.ld (.t 150) none), og 152 147 false (.pc 45 [(.t 149), (.t 151)]), og 153 147 false (.un .not (.t 152)), o 154 (.pk (.t 147) (kb true) (.t 153)), o 155 (.mv (.t 154)), og 156 155 false (.fa (.t 10) 2), og 157 155 false (.ld (.t 156) (some 2)), og 158 155 false (.fa (.t 11) 2), og 159 155 false (.ld (.t 158) (some 2)), og 160 155 false (.aeq true 2 (.t 157) (.t 159)), o 161 (.pk (.t 155) (kb true) (.t 160)), o 162 (.mv (.t 161)), og 163 162 false (.fa (.t 10) 4), og 164 162 false (.ld (.t 163) none), og 165 162 false (.ln (.t 164)), og 166 162 false (.fa (.t 11) 4), og 167 162 false (.ld (.t 166) none), og 168 162 false (.ln (.t 167)), og 169 162 false (.bin .neq (.t 165) (.t 168)), o 170 (.pk (.t 162) (kb true) (.t 169)), o 171 (.mv (.t 170)), og 172 171 false (.fa (.t 10) 5), og 173 171 false (.ld (.t 172) none), og 174 171 false (.fa (.t 11) 5), og 175 171 false (.ld (.t 174) none), og 176 171 false (.bin .neq (.t 173) (.t 175)), o 177 (.pk (.t 171) (kb true) (.t 176)), o 178 (.mv (.t 177)), og 179 178 false (.fa (.t 10) 6), og 180 178 false (.ld (.t 179) none), og 181 178 false (.fa (.t 11) 6), og 182 178 false (.ld (.t 181) none), og 183 178 false (.bin .neq (.t 180) (.t 182)), o 184 (.pk (.t 178) (kb true) (.t 183)), o 185 (.mv (.t 184)), og 186 185 false (.fa (.t 10) 7), og 187 185 false (.ld (.t 186) none), og 188 185 false (.fa (.t 11) 7), og 189 185 false (.ld (.t 188) none), og 190 185 false (.pc 24 [(.t 187), (.t 189)]), og 191 185 false (.un .not (.t 190)), o 192 (.pk (.t 185) (kb true) (.t 191))])
    (.cond (.t 192) (.seq (.reg 0 [o 4 (.mv (kb false))])
     .ret) .skip))
    (.seq (.reg 0 [o 12 (.mv (ki 0))])
    (.block 6 (.loop (.seq (.seq (.reg 0 [o 193 (.mv (.t 12)), o 194 (.fa (.t 10) 4), o 195 (.ld (.t 194) none), o 196 (.ln (.t 195)), o 197 (.bin .lss (.t 193) (.t 196))])
      (.cond (.t 197) .skip (.exit 6)))
      (.seq (.block 7 (.seq (.reg 0 [o 200 (.fa (.t 10) 4), o 201 (.ld (.t 200) none), o 202 (.mv (.t 12)), o 203 (.ia (.t 201) (.t 202) 3), o 204 (.ld (.t 203) (some 3)), o 205 (.fa (.t 11) 4), o 206 (.ld (.t 205) none), o 207 (.mv (.t 12)), o 208 (.ia (.t 206) (.t 207) 3), o 209 (.ld (.t 208) (some 3)), o 210 (.aeq true 3 (.t 204) (.t 209))])
       (.cond (.t 210) (.seq (.reg 0 [o 4 (.mv (kb false))])
        .ret) .skip)))
      (.reg 0 [o 198 (.mv (.t 12)), o 199 (.bin .add (.t 198) (ki 1)), o 12 (.mv (.t 199))])))))))))
   (.reg 0 [o 129 (.mv (.t 9)), o 130 (.bin .add (.t 129) (ki 1)), o 9 (.mv (.t 130))]))))))
 (.seq (.reg 0 [o 4 (.mv (kb true))])
 .ret))))))
def F15 : AFn := ⟨c15, [0, 1, 2, 3, 4, 5, 6, 7, 8, 9, 10, 11, 12, 67, 72, 85, 90, 123, 128, 192, 197, 210], [.tmp 4], 211⟩
theorem k15 : FnOk Try.prog 15 F15 := .of Try.f15 Try.func15 (by kernel_rfl) (by kernel_rfl) (by kernel_rfl) (by kernel_rfl)

/-- plimsoll/image.Same -/
def c16 : AC :=
 (.seq (.reg 0 [o 2 (.bx 7 (.t 0)), o 3 (.bx 7 (.t 1)), o 4 (.mv (kb false))])
 (.seq (.reg 0 [o 6 (.fa (.t 2) 0), o 7 (.ld (.t 6) none), o 8 (.fa (.t 3) 0), o 9 (.ld (.t 8) none), o 10 (.pc 46 [(.t 7), (.t 9), (.c (.fn 47 [] []))]), o 11 (.mv (.t 10)), og 12 11 true (.fa (.t 2) 3), og 13 11 true (.ld (.t 12) none), og 14 11 true (.fa (.t 3) 3), og 15 11 true (.ld (.t 14) none), og 16 11 true (.pc 48 [(.t 13), (.t 15), (.c (.fn 49 [] []))]), o 17 (.pk (.t 11) (.t 16) (kb false)), o 5 (.mv (.t 17))])
 (.seq (.reg 0 [o 18 (.mv (.t 5)), o 19 (.mv (.t 18)), og 20 19 true (.fa (.t 2) 1), og 21 19 true (.ld (.t 20) none), og 22 19 true (.fa (.t 3) 1), og 23 19 true (.ld (.t 22) none), og 24 19 true (.pc 50 [(.t 21), (.t 23)]), o 25 (.pk (.t 19) (.t 24) (kb false)), o 26 (.mv (.t 25)), og 27 26 true (.fa (.t 2) 2), og 28 26 true (.ld (.t 27) none), og 29 26 true (.fa (.t 3) 2), og 30 26 true (.ld (.t 29) none), og 31 26 true (.pc 51 [(.t 28), (.t 30)]), o 32 (.pk (.t 26) (.t 31) (kb false)), o 33 (.mv (.t 32)), og 34 33 true (.fa (.t 2) 4), og 35 33 true (.ld (.t 34) none), og 36 33 true (.fa (.t 3) 4), og 37 33 true (.ld (.t 36) none), og 38 33 true (.pc 52 [(.t 35), (.t 37)]), o 39 (.pk (.t 33) (.t 38) (kb false)), o 40 (.mv (.t 39)), og 41 40 true (.fa (.t 2) 5), og 42 40 true (.ld (.t 41) none), og 43 40 true (.fa (.t 3) 5), og 44 40 true (.ld (.t 43) none), og 45 40 true (.bin .eql (.t 42) (.t 44)), o 46 (.pk (.t 40) (.t 45) (kb false)), o 47 (.mv (.t 46)), og 48 47 true (.fa (.t 2) 6), og 49 47 true (.ld (.t 48) none), og 50 47 true (.fa (.t 3) 6), og 51 47 true (.ld (.t 50) none), og 52 47 true (.bin .eql (.t 49) (.t 51)), o 53 (.pk (.t 47) (.t 52) (kb false)), o 4 (.mv (.t 53))])
 .ret)))
def F16 : AFn := ⟨c16, [0, 1, 2, 3, 4, 5], [.tmp 4], 54⟩
theorem k16 : FnOk Try.prog 16 F16 := .of Try.f16 Try.func16 (by kernel_rfl) (by kernel_rfl) (by kernel_rfl) (by kernel_rfl)

/-- plimsoll/plimsolllaw13.sane -/
def c17 : AC :=
 (.seq (.reg 0 [o 1 (.bx 7 (.t 0)), o 2 (.mv (kb false))])
 (.seq (.reg 0 [o 3 (.fa (.t 1) 3), o 4 (.ld (.t 3) none), o 5 (.ln (.t 4)), o 6 (.bin .leq (.t 5) (ki 12)), o 7 (.mv (.t 6)), og 8 7 true (.fa (.t 1) 0), og 9 7 true (.ld (.t 8) none), og 10 7 true (.ln (.t 9)), og 11 7 true (.bin .leq (.t 10) (ki 8)), o 12 (.pk (.t 7) (.t 11) (kb false)), o 13 (.mv (.t 12)), og 14 13 true (.fa (.t 1) 2), og 15 13 true (.ld (.t 14) none), og 16 13 true (.ln (.t 15)), og 17 13 true (.bin .leq (.t 16) (ki 16)), o 18 (.pk (.t 13) (.t 17) (kb false)), o 19 (.mv (.t 18)), og 20 19 true (.ld (.t 1) (some 7)), og 21 19 true (.pc 9 [(.t 20)]), og 22 19 true (.bin .eql (.t 21) (ki 0)), o 23 (.pk (.t 19) (.t 22) (kb false)), o 2 (.mv (.t 23))])
 .ret))
def F17 : AFn := ⟨c17, [0, 1, 2], [.tmp 2], 24⟩
theorem k17 : FnOk Try.prog 17 F17 := .of Try.f17 Try.func17 (by kernel_rfl) (by kernel_rfl) (by kernel_rfl) (by kernel_rfl)

/-- plimsoll/plimsolllaw13.awake -/
def c18 : AC :=
 (.seq (.reg 0 [o 0 (.mv (kb false))])
 (.seq (.reg 0 [o 8 (.bd [.int .i64 0, .int .i64 0] [(0, 1, (ki 5))]), o 9 (.bd [.int .i64 0, .int .i64 0, .int .i64 0] [(0, 1, (ki 31)), (1, 1, (ki 1))]), o 10 (.bd [.int .i64 0, .int .i64 0, .int .i64 0] [(0, 1, (ki 33))]), o 11 (.bs 3 2 [.int .i64 0, .int .i64 0, .int .i64 0] [(0, (.t 9)), (1, (.t 10))]), o 12 (.bs 1 2 [.int .i64 0] [(0, (ki 0)), (1, (ki 0))]), o 13 (.bd [.nilsl, .nilsl, .int .i64 0, .int .i64 0, .nilsl, .int .i64 0, .int .i64 0, .nilsl] [(2, 2, (.t 8)), (4, 1, (.t 11)), (7, 1, (.t 12))]), o 14 (.bd [.int .i64 0, .int .i64 0] [(0, 1, (ki 5))]), o 15 (.bd [.int .i64 0, .int .i64 0] [(0, 1, (ki 1))]), o 16 (.bs 2 1 [.int .i64 0, .int .i64 0] [(0, (.t 15))]), o 17 (.bd [.int .i64 0, .int .i64 0, .int .i64 0] [(0, 1, (ki 33))]), o 18 (.bs 3 1 [.int .i64 0, .int .i64 0, .int .i64 0] [(0, (.t 17))]), o 19 (.bs 1 1 [.int .i64 0] [(0, (ki 0))]), o 20 (.bd [.nilsl, .nilsl, .int .i64 0, .int .i64 0, .nilsl, .int .i64 0, .int .i64 0, .nilsl] [(2, 2, (.t 14)), (1, 1, (.t 16)), (4, 1, (.t 18)), (7, 1, (.t 19))]), o 21 (.bs 8 2 [.nilsl, .nilsl, .int .i64 0, .int .i64 0, .nilsl, .int .i64 0, .int .i64 0, .nilsl] [(0, (.t 13)), (1, (.t 20))]), o 22 (.bd [.nilsl, .nilsl, .nilsl, .nilsl, .nilsl, .int .i64 0, .int .i64 0] [(3, 1, (.t 21))]), o 1 (.al [.nilsl, .nilsl, .nilsl, .nilsl, .nilsl, .int .i64 0, .int .i64 0]), os (.st 7 (.t 1) (.t 22))])
 (.seq (.reg 0 [o 24 (.ld (.t 1) (some 7)), o 25 (.pc 19 [(.t 24)]), o 23 (.mv (.t 25)), o 26 (.ex (.t 23) 0), o 27 (.ex (.t 23) 1), o 2 (.mv (.t 26)), o 3 (.mv (.t 27))])
 (.seq (.reg 0 [o 29 (.ld (.t 1) (some 7)), o 30 (.mv (.t 2)), o 31 (.pc 20 [(.t 29), (.t 30)]), o 28 (.mv (.t 31)), o 32 (.ex (.t 28) 0), o 33 (.ex (.t 28) 1), o 4 (.mv (.t 32)), o 5 (.mv (.t 33))])
 (.seq (.reg 0 [o 34 (.fa (.t 1) 3), o 35 (.ld (.t 34) none), o 36 (.ia (.t 35) (ki 0) 8), o 37 (.fa (.t 36) 4), o 38 (.ld (.t 37) none), o 39 (.ia (.t 38) (ki 0) 3), o 40 (.fa (.t 39) 1), os (.st 1 (.t 40) (ki 0))])
 (.seq (.reg 0 [o 42 (.ld (.t 1) (some 7)), o 43 (.mv (.t 2)), o 44 (.pc 20 [(.t 42), (.t 43)]), o 41 (.mv (.t 44)), o 45 (.ex (.t 41) 0), o 46 (.ex (.t 41) 1), o 6 (.mv (.t 45)), o 7 (.mv (.t 46))])
 (.seq (.reg 0 [o 47 (.mv (.t 3)), o 48 (.bin .lss (.t 47) (ki 0)), o 49 (.mv (.t 48)), og 50 49 true (.mv (.t 5)), og 51 49 true (.bin .eql (.t 50) (ki 0)), o 52 (.pk (.t 49) (.t 51) (kb false)), o 53 (.mv (.t 52)), og 54 53 true (.mv (.t 4)), og 55 53 true (.bs 1 2 [.int .i64 0] [(0, (ki 7)), (1, (ki 4))]), og 56 53 true (.pc 24 [(.t 54), (.t 55)]), o 57 (.pk (.t 53) (.t 56) (kb false)), o 58 (.mv (.t 57)), og 59 58 true (.mv (.t 7)), og 60 58 true (.bin .eql (.t 59) (ki 5)), o 61 (.pk (.t 58) (.t 60) (kb false)), o 62 (.mv (.t 61)), og 63 62 true (.ld (.t 1) (some 7)), og 64 62 true (.mv (.t 2)), og 65 62 true (.pc 22 [(.t 63), (.t 64), (ki 1)]), og 66 62 true (.bin .eql (.t 65) (ki 4)), o 67 (.pk (.t 62) (.t 66) (kb false)), o 68 (.mv (.t 67)), og 69 68 true (.ld (.t 1) (some 7)), og 70 68 true (.pc 9 [(.t 69)]), og 71 68 true (.bin .eql (.t 70) (ki 0)), o 72 (.pk (.t 68) (.t 71) (kb false)), o 0 (.mv (.t 72))])
 .ret)))))))
def F18 : AFn := ⟨c18, [0, 1, 2, 3, 4, 5, 7], [.tmp 0], 73⟩
theorem k18 : FnOk Try.prog 18 F18 := .of Try.f18 Try.func18 (by kernel_rfl) (by kernel_rfl) (by kernel_rfl) (by kernel_rfl)

/-- plimsoll/plimsollref08.All -/
def c19 : AC :=
 (.seq (.reg 0 [o 1 (.bx 7 (.t 0)), o 2 (.mv (.c (.nilsl))), o 3 (.mv (ki 0))])
 (.seq (.reg 0 [o 8 (.bs 1 0 [.nilsl] []), o 4 (.mv (.t 8))])
 (.seq (.seq (.reg 0 [o 5 (.mv (ki 0))])
 (.block 0 (.loop (.seq (.seq (.reg 0 [o 9 (.mv (.t 5)), o 10 (.fa (.t 1) 3), o 11 (.ld (.t 10) none), o 12 (.ln (.t 11)), o 13 (.bin .lss (.t 9) (.t 12))])
   (.cond (.t 13) .skip (.exit 0)))
   (.seq (.block 1 (.seq (.reg 0 [o 17 (.ld (.t 1) (some 7)), o 18 (.mv (.t 5)), o 19 (.pc 53 [(.t 17), (.t 18)]), o 16 (.mv (.t 19)), o 20 (.ex (.t 16) 0), o 21 (.ex (.t 16) 1), o 6 (.mv (.t 20)), o 7 (.mv (.t 21))])
    (.seq (.seq (.reg 0 [o 22 (.mv (.t 7)), o 23 (.un .not (.t 22))])
    (.cond (.t 23) (.seq (.reg 0 [o 24 (.mv (.t 5)), o 2 (.mv (.c (.nilsl))), o 3 (.mv (.t 24))])
     .ret) .skip))
    (.reg 0 [o 25 (.mv (.t 4)), o 26 (.mv (.t 6)), o 27 (.bs 1 1 [.nilsl] [(0, (.t 26))]), o 28 (.ap 1 24 [.nilsl] (.t 25) (.t 27)), o 4 (.mv (.t 28))]))))
   (.reg 0 [o 14 (.mv (.t 5)), o 15 (.bin .add (.t 14) (ki 1)), o 5 (.mv (.t 15))]))))))
 (.seq (.reg 0 [o 29 (.mv (.t 4)), o 2 (.mv (.t 29)), o 3 (.mv (ki (-1)))])
 .ret))))
def F19 : AFn := ⟨c19, [0, 1, 2, 3, 4, 5, 6, 7, 13, 23], [.tmp 2, .tmp 3], 30⟩
theorem k19 : FnOk Try.prog 19 F19 := .of Try.f19 Try.func19 (by kernel_rfl) (by kernel_rfl) (by kernel_rfl) (by kernel_rfl)

/-- plimsoll/depth.Bound -/
def c20 : AC :=
 (.seq (.reg 0 [o 2 (.bx 7 (.t 0)), o 4 (.mv (.c (.nilsl))), o 5 (.mv (ki 0))])
 (.seq (.reg 0 [o 6 (.mv (.c (.nilsl)))])
 (.seq (.seq (.reg 0 [o 21 (.fa (.t 2) 3), o 22 (.ld (.t 21) none), o 23 (.ln (.t 22)), o 24 (.mv (ki 0))])
 (.block 0 (.loop (.seq (.reg 0 [o 25 (.bin .lss (.t 24) (.t 23))])
   (.seq (.cond (.t 25) .skip (.exit 0))
   (.seq (.block 1 (.seq (.reg 0 [o 26 (.mv (.t 24)), o 7 (.mv (.t 26))])
    (.reg 0 [o 27 (.mv (.t 6)), o 28 (.ld (.t 2) (some 7)), o 29 (.mv (.t 7)), o 30 (.pc 54 [(.t 28), (.t 29)]), o 31 (.bs 1 1 [.nilsl] [(0, (.t 30))]), o 32 (.ap 1 24 [.nilsl] (.t 27) (.t 31)), o 6 (.mv (.t 32))])))
   (.reg 0 [o 33 (.bin .add (.t 24) (ki 1)), o 24 (.mv (.t 33))])))))))
 (.seq (.reg 0 [o 34 (.fa (.t 2) 3), o 35 (.ld (.t 34) none), o 36 (.ln (.t 35)), o 37 (.ms 1 8 [.int .i64 0] (.t 36) (.t 36)), o 8 (.mv (.t 37))])
 (.seq (.seq (.reg 0 [o 38 (.mv (.t 6)), o 39 (.pc 55 [(.t 38)]), o 40 (.ln (.t 39)), o 41 (.mv (ki 0))])
 (.block 2 (.loop (.seq (.reg 0 [o 42 (.bin .lss (.t 41) (.t 40))])
   (.seq (.cond (.t 42) .skip (.exit 2))
   (.seq (.block 3 (.seq (.reg 0 [o 43 (.ia (.t 39) (.t 41) 1), o 44 (.ld (.t 43) none), o 10 (.mv (.t 44))])
    (.seq (.reg 0 [o 45 (.mv (.t 6)), o 46 (.mv (.t 10)), o 47 (.pc 56 [(.t 45), (.t 46)]), o 11 (.mv (.t 47))])
    (.seq (.reg 0 [o 12 (.mv (ki 0)), o 13 (.mv (ki 0))])
    (.seq (.seq (.reg 0 [o 48 (.mv (.t 10)), o 49 (.ln (.t 48)), o 50 (.mv (ki 0))])
    (.block 4 (.loop (.seq (.reg 0 [o 51 (.bin .lss (.t 50) (.t 49))])
      (.seq (.cond (.t 51) .skip (.exit 4))
      (.seq (.block 5 (.seq (.reg 0 [o 52 (.ia (.t 48) (.t 50) 1), o 53 (.ld (.t 52) none), o 15 (.mv (.t 53))])
       (.seq (.reg 0 [o 16 (.mv (ki 1))])
       (.seq (.seq (.reg 0 [o 54 (.mv (.t 11))])
       (.cond (.t 54) (.reg 0 [o 55 (.fa (.t 2) 3), o 56 (.ld (.t 55) none), o 57 (.mv (.t 15)), o 58 (.ia (.t 56) (.t 57) 8), o 59 (.fa (.t 58) 5), o 60 (.ld (.t 59) none), o 16 (.mv (.t 60))]) .skip))
       (.seq (.seq (.reg 0 [o 61 (.mv (.t 16)), o 62 (.bin .lss (.t 61) (ki 1))])
       (.cond (.t 62) (.seq (.reg 0 [o 4 (.mv (.c (.nilsl))), o 5 (.mv (ki 5))])
        .ret) .skip))
       (.seq (.reg 0 [o 63 (.mv (.t 12)), o 64 (.mv (.t 16)), o 65 (.ld (.t 2) (some 7)), o 66 (.mv (.t 1)), o 67 (.mv (.t 15)), o 68 (.pc 22 [(.t 65), (.t 66), (.t 67)]), o 69 (.bin .mul (.t 64) (.t 68)), o 70 (.bin .add (.t 63) (.t 69)), o 12 (.mv (.t 70))])
       (.seq (.reg 0 [o 71 (.mv (.t 6)), o 72 (.mv (.t 15)), o 73 (.ia (.t 71) (.t 72) 1), o 74 (.ld (.t 73) none), o 75 (.ln (.t 74)), o 76 (.mv (ki 0))])
       (.block 6 (.loop (.seq (.reg 0 [o 77 (.bin .lss (.t 76) (.t 75))])
         (.seq (.cond (.t 77) .skip (.exit 6))
         (.seq (.block 7 (.seq (.reg 0 [o 78 (.ia (.t 74) (.t 76) 1), o 79 (.ld (.t 78) none), o 18 (.mv (.t 79))])
          (.seq (.reg 0 [o 80 (.mv (.t 10)), o 81 (.mv (.t 18)), o 82 (.pc 57 [(.t 80), (.t 81)]), o 83 (.un .not (.t 82)), o 84 (.mv (.t 83)), og 85 84 true (.mv (.t 18)), og 86 84 true (.mv (.t 8)), og 87 84 true (.ln (.t 86)), og 88 84 true (.bin .lss (.t 85) (.t 87)), o 89 (.pk (.t 84) (.t 88) (kb false))])
          (.cond (.t 89) (.reg 0 [o 90 (.mv (.t 13)), o 91 (.mv (.t 8)), o 92 (.mv (.t 18)), o 93 (.ia (.t 91) (.t 92) 1), o 94 (.ld (.t 93) none), o 95 (.mx true (.t 90) [(.t 94)]), o 13 (.mv (.t 95))]) .skip))))
         (.reg 0 [o 96 (.bin .add (.t 76) (ki 1)), o 76 (.mv (.t 96))])))))))))))))
      (.reg 0 [o 97 (.bin .add (.t 50) (ki 1)), o 50 (.mv (.t 97))])))))))
    (.seq (.reg 0 [o 98 (.mv (.t 10)), o 99 (.ln (.t 98)), o 100 (.mv (ki 0))])
    (.block 8 (.loop (.seq (.reg 0 [o 101 (.bin .lss (.t 100) (.t 99))])
      (.seq (.cond (.t 101) .skip (.exit 8))
      (.seq (.block 9 (.seq (.reg 0 [o 102 (.ia (.t 98) (.t 100) 1), o 103 (.ld (.t 102) none), o 20 (.mv (.t 103))])
       (.reg 0 [o 104 (.mv (.t 8)), o 105 (.mv (.t 20)), o 106 (.mv (.t 12)), o 107 (.mv (.t 13)), o 108 (.bin .add (.t 106) (.t 107)), o 109 (.ia (.t 104) (.t 105) 1), os (.st 1 (.t 109) (.t 108))])))
      (.reg 0 [o 110 (.bin .add (.t 100) (ki 1)), o 100 (.mv (.t 110))]))))))))))))
   (.reg 0 [o 111 (.bin .add (.t 41) (ki 1)), o 41 (.mv (.t 111))])))))))
 (.seq (.reg 0 [o 112 (.mv (.t 8)), o 4 (.mv (.t 112)), o 5 (.mv (ki 0))])
 .ret))))))
def F20 : AFn := ⟨c20, [0, 1, 2, 4, 5, 6, 7, 8, 10, 11, 12, 13, 15, 16, 18, 20, 23, 24, 25, 39, 40, 41, 42, 48, 49, 50, 51, 54, 62, 74, 75, 76, 77, 89, 98, 99, 100, 101], [.tmp 4, .tmp 5], 113⟩
theorem k20 : FnOk Try.prog 20 F20 := .of Try.f20 Try.func20 (by kernel_rfl) (by kernel_rfl) (by kernel_rfl) (by kernel_rfl)

/-- plimsoll/plimsollref08.Bound -/
def c21 : AC :=
 (.seq (.reg 0 [o 2 (.bx 7 (.t 0)), o 4 (.mv (.c (.nilsl))), o 5 (.mv (kb false))])
 (.seq (.reg 0 [o 19 (.ld (.t 2) (some 7)), o 20 (.pc 26 [(.t 19)]), o 6 (.mv (.t 20))])
 (.seq (.reg 0 [o 21 (.mv (.t 6)), o 22 (.pc 25 [(.t 21)]), o 7 (.mv (.t 22))])
 (.seq (.reg 0 [o 23 (.fa (.t 2) 3), o 24 (.ld (.t 23) none), o 25 (.ln (.t 24)), o 8 (.mv (.t 25))])
 (.seq (.seq (.reg 0 [o 9 (.mv (ki 0))])
 (.block 0 (.loop (.seq (.seq (.reg 0 [o 26 (.mv (.t 9)), o 27 (.mv (.t 8)), o 28 (.bin .lss (.t 26) (.t 27))])
   (.cond (.t 28) .skip (.exit 0)))
   (.seq (.block 1 (.seq (.reg 0 [o 31 (.mv (.t 7)), o 32 (.mv (.t 9)), o 33 (.ia (.t 31) (.t 32) 1), o 34 (.ld (.t 33) none), o 35 (.mv (.t 9)), o 36 (.ia (.t 34) (.t 35) 1), o 37 (.ld (.t 36) none), o 38 (.mv (.t 37)), og 39 38 true (.fa (.t 2) 3), og 40 38 true (.ld (.t 39) none), og 41 38 true (.mv (.t 9)), og 42 38 true (.ia (.t 40) (.t 41) 8), og 43 38 true (.fa (.t 42) 5), og 44 38 true (.ld (.t 43) none), og 45 38 true (.bin .lss (.t 44) (ki 1)), o 46 (.pk (.t 38) (.t 45) (kb false))])
    (.cond (.t 46) (.seq (.reg 0 [o 4 (.mv (.c (.nilsl))), o 5 (.mv (kb false))])
     .ret) .skip)))
   (.reg 0 [o 29 (.mv (.t 9)), o 30 (.bin .add (.t 29) (ki 1)), o 9 (.mv (.t 30))]))))))
 (.seq (.reg 0 [o 47 (.mv (.t 8)), o 48 (.ms 1 8 [.int .i64 0] (.t 47) (.t 47)), o 10 (.mv (.t 48))])
 (.seq (.seq (.reg 0 [o 11 (.mv (ki 0))])
 (.block 2 (.loop (.seq (.seq (.reg 0 [o 49 (.mv (.t 11)), o 50 (.mv (.t 8)), o 51 (.bin .lss (.t 49) (.t 50))])
   (.cond (.t 51) .skip (.exit 2)))
   (.seq (.block 3 (.seq (.reg 0 [o 12 (.mv (ki 0))])
    (.block 4 (.loop (.seq (.seq (.reg 0 [o 54 (.mv (.t 12)), o 55 (.mv (.t 8)), o 56 (.bin .lss (.t 54) (.t 55))])
      (.cond (.t 56) .skip (.exit 4)))
      (.seq (.block 5 (.seq (.reg 0 [o 13 (.mv (ki 0)), o 14 (.mv (ki 0))])
       (.seq (.seq (.reg 0 [o 15 (.mv (ki 0))])
       (.block 6 (.loop (.seq (.seq (.reg 0 [o 59 (.mv (.t 15)), o 60 (.mv (.t 8)), o 61 (.bin .lss (.t 59) (.t 60))])
         (.cond (.t 61) .skip (.exit 6)))
         (.seq (.block 7 (.seq (.seq (.reg 0 [o 64 (.mv (.t 15)), o 65 (.mv (.t 12)), o 66 (.bin .neq (.t 64) (.t 65)), o 67 (.mv (.t 66)), og 68 67 true (.mv (.t 7)), og 69 67 true (.mv (.t 12)), og 70 67 true (.ia (.t 68) (.t 69) 1), og 71 67 true (.ld (.t 70) none), og 72 67 true (.mv (.t 15)), og 73 67 true (.ia (.t 71) (.t 72) 1), og 74 67 true (.ld (.t 73) none), og 75 67 true (.mv (.t 74)), og 76 75 true (.mv (.t 7)), og 77 75 true (.mv (.t 15)), og 78 75 true (.ia (.t 76) (.t 77) 1), og 79 75 true (.ld (.t 78) none), og 80 75 true (.mv (.t 12)), og 81 75 true (.ia (.t 79) (.t 80) 1), og 82 75 true (.ld (.t 81) none), og 83 67 true (.pk (.t 75) (.t 82) (kb false)), og 84 67 true (.un .not (.t 83)), o 85 (.pk (.t 67) (.t 84) (kb false))])
          (.cond (.t 85) (.exit 7) .skip))
          (.seq (.reg 0 [o 16 (.mv (ki 1))])
          (.seq (.seq (.reg 0 [o 86 (.mv (.t 7)), o 87 (.mv (.t 15)), o 88 (.ia (.t 86) (.t 87) 1), o 89 (.ld (.t 88) none), o 90 (.mv (.t 15)), o 91 (.ia (.t 89) (.t 90) 1), o 92 (.ld (.t 91) none)])
          (.cond (.t 92) (.reg 0 [o 93 (.fa (.t 2) 3), o 94 (.ld (.t 93) none), o 95 (.mv (.t 15)), o 96 (.ia (.t 94) (.t 95) 8), o 97 (.fa (.t 96) 5), o 98 (.ld (.t 97) none), o 16 (.mv (.t 98))]) .skip))
          (.seq (.reg 0 [o 99 (.mv (.t 13)), o 100 (.mv (.t 16)), o 101 (.ld (.t 2) (some 7)), o 102 (.mv (.t 1)), o 103 (.mv (.t 15)), o 104 (.pc 23 [(.t 101), (.t 102), (.t 103)]), o 105 (.bin .mul (.t 100) (.t 104)), o 106 (.bin .add (.t 99) (.t 105)), o 13 (.mv (.t 106))])
          (.seq (.reg 0 [o 17 (.mv (ki 0))])
          (.block 8 (.loop (.seq (.seq (.reg 0 [o 107 (.mv (.t 17)), o 108 (.mv (.t 6)), o 109 (.mv (.t 15)), o 110 (.ia (.t 108) (.t 109) 1), o 111 (.ld (.t 110) none), o 112 (.ln (.t 111)), o 113 (.bin .lss (.t 107) (.t 112))])
            (.cond (.t 113) .skip (.exit 8)))
            (.seq (.block 9 (.seq (.reg 0 [o 116 (.mv (.t 6)), o 117 (.mv (.t 15)), o 118 (.ia (.t 116) (.t 117) 1), o 119 (.ld (.t 118) none), o 120 (.mv (.t 17)), o 121 (.ia (.t 119) (.t 120) 1), o 122 (.ld (.t 121) none), o 18 (.mv (.t 122))])
             (.seq (.reg 0 [o 123 (.mv (.t 7)), o 124 (.mv (.t 18)), o 125 (.ia (.t 123) (.t 124) 1), o 126 (.ld (.t 125) none), o 127 (.mv (.t 15)), o 128 (.ia (.t 126) (.t 127) 1), o 129 (.ld (.t 128) none), o 130 (.un .not (.t 129)), o 131 (.mv (.t 130)), og 132 131 true (.mv (.t 10)), og 133 131 true (.mv (.t 18)), og 134 131 true (.ia (.t 132) (.t 133) 1), og 135 131 true (.ld (.t 134) none), og 136 131 true (.mv (.t 14)), og 137 131 true (.bin .gtr (.t 135) (.t 136)), o 138 (.pk (.t 131) (.t 137) (kb false))])
             (.cond (.t 138) (.reg 0 [o 139 (.mv (.t 10)), o 140 (.mv (.t 18)), o 141 (.ia (.t 139) (.t 140) 1), o 142 (.ld (.t 141) none), o 14 (.mv (.t 142))]) .skip))))
            (.reg 0 [o 114 (.mv (.t 17)), o 115 (.bin .add (.t 114) (ki 1)), o 17 (.mv (.t 115))])))))))))))
         (.reg 0 [o 62 (.mv (.t 15)), o 63 (.bin .add (.t 62) (ki 1)), o 15 (.mv (.t 63))]))))))
       (.reg 0 [o 143 (.mv (.t 10)), o 144 (.mv (.t 12)), o 145 (.mv (.t 13)), o 146 (.mv (.t 14)), o 147 (.bin .add (.t 145) (.t 146)), o 148 (.ia (.t 143) (.t 144) 1), os (.st 1 (.t 148) (.t 147))]))))
      (.reg 0 [o 57 (.mv (.t 12)), o 58 (.bin .add (.t 57) (ki 1)), o 12 (.mv (.t 58))])))))))
   (.reg 0 [o 52 (.mv (.t 11)), o 53 (.bin .add (.t 52) (ki 1)), o 11 (.mv (.t 53))]))))))
 (.seq (.reg 0 [o 149 (.mv (.t 10)), o 4 (.mv (.t 149)), o 5 (.mv (kb true))])
 .ret))))))))
def F21 : AFn := ⟨c21, [0, 1, 2, 4, 5, 6, 7, 8, 9, 10, 11, 12, 13, 14, 15, 16, 17, 18, 28, 46, 51, 56, 61, 85, 92, 113, 138], [.tmp 4, .tmp 5], 150⟩
theorem k21 : FnOk Try.prog 21 F21 := .of Try.f21 Try.func21 (by kernel_rfl) (by kernel_rfl) (by kernel_rfl) (by kernel_rfl)

/-- plimsoll/depth.Frame -/
def c22 : AC :=
 (.seq (.reg 0 [o 3 (.bx 7 (.t 0)), o 6 (.mv (ki 0))])
 (.seq (.seq (.reg 0 [o 8 (.mv (.t 2)), o 9 (.bin .lss (.t 8) (ki 0)), o 10 (.mv (.t 9)), og 11 10 false (.mv (.t 2)), og 12 10 false (.fa (.t 3) 3), og 13 10 false (.ld (.t 12) none), og 14 10 false (.ln (.t 13)), og 15 10 false (.bin .geq (.t 11) (.t 14)), o 16 (.pk (.t 10) (kb true) (.t 15))])
 (.cond (.t 16) (.seq (.reg 0 [o 6 (.mv (ki 0))])
  .ret) .skip))
 (.seq (.reg 0 [o 17 (.fa (.t 3) 3), o 18 (.ld (.t 17) none), o 19 (.mv (.t 2)), o 20 (.ia (.t 18) (.t 19) 8), o 21 (.ld (.t 20) (some 8)), o 7 (.al [.nilsl, .nilsl, .int .i64 0, .int .i64 0, .nilsl, .int .i64 0, .int .i64 0, .nilsl]), os (.st 8 (.t 7) (.t 21))])
 (.seq (.reg 0 [o 22 (.fa (.t 7) 0), o 23 (.ld (.t 22) none), o 24 (.ln (.t 23)), o 25 (.bin .add (ki 3) (.t 24)), o 26 (.fa (.t 7) 1), o 27 (.ld (.t 26) none), o 28 (.ln (.t 27)), o 29 (.bin .add (.t 25) (.t 28)), o 30 (.mv (.t 1)), o 31 (.mv (.t 2)), o 32 (.pc 58 [(.t 30), (.t 31)]), o 33 (.bin .add (.t 29) (.t 32)), o 6 (.mv (.t 33))])
 .ret))))
def F22 : AFn := ⟨c22, [0, 1, 2, 3, 6, 7, 16], [.tmp 6], 34⟩
theorem k22 : FnOk Try.prog 22 F22 := .of Try.f22 Try.func22 (by kernel_rfl) (by kernel_rfl) (by kernel_rfl) (by kernel_rfl)

/-- plimsoll/plimsollref08.Frame -/
def c23 : AC :=
 (.seq (.reg 0 [o 3 (.bx 7 (.t 0)), o 6 (.mv (ki 0))])
 (.seq (.seq (.reg 0 [o 9 (.mv (.t 2)), o 10 (.bin .lss (.t 9) (ki 0)), o 11 (.mv (.t 10)), og 12 11 false (.mv (.t 2)), og 13 11 false (.fa (.t 3) 3), og 14 11 false (.ld (.t 13) none), og 15 11 false (.ln (.t 14)), og 16 11 false (.bin .geq (.t 12) (.t 15)), o 17 (.pk (.t 11) (kb true) (.t 16))])
 (.cond (.t 17) (.seq (.reg 0 [o 6 (.mv (ki 0))])
  .ret) .skip))
 (.seq (.reg 0 [o 7 (.mv (ki 0))])
 (.seq (.seq (.reg 0 [o 8 (.mv (ki 0))])
 (.block 0 (.loop (.seq (.seq (.reg 0 [o 18 (.mv (.t 2)), o 19 (.mv (.t 1)), o 20 (.ln (.t 19)), o 21 (.bin .lss (.t 18) (.t 20)), o 22 (.mv (.t 21)), og 23 22 true (.mv (.t 8)), og 24 22 true (.mv (.t 1)), og 25 22 true (.mv (.t 2)), og 26 22 true (.ia (.t 24) (.t 25) 1), og 27 22 true (.ld (.t 26) none), og 28 22 true (.ln (.t 27)), og 29 22 true (.bin .lss (.t 23) (.t 28)), o 30 (.pk (.t 22) (.t 29) (kb false))])
   (.cond (.t 30) .skip (.exit 0)))
   (.seq (.block 1 (.seq (.reg 0 [o 33 (.mv (.t 1)), o 34 (.mv (.t 2)), o 35 (.ia (.t 33) (.t 34) 1), o 36 (.ld (.t 35) none), o 37 (.mv (.t 8)), o 38 (.ia (.t 36) (.t 37) 2), o 39 (.fa (.t 38) 1), o 40 (.ld (.t 39) none), o 41 (.ln (.t 40)), o 42 (.mv (.t 7)), o 43 (.bin .gtr (.t 41) (.t 42))])
    (.cond (.t 43) (.reg 0 [o 44 (.mv (.t 1)), o 45 (.mv (.t 2)), o 46 (.ia (.t 44) (.t 45) 1), o 47 (.ld (.t 46) none), o 48 (.mv (.t 8)), o 49 (.ia (.t 47) (.t 48) 2), o 50 (.fa (.t 49) 1), o 51 (.ld (.t 50) none), o 52 (.ln (.t 51)), o 7 (.mv (.t 52))]) .skip)))
   (.reg 0 [o 31 (.mv (.t 8)), o 32 (.bin .add (.t 31) (ki 1)), o 8 (.mv (.t 32))]))))))
 (.seq (.reg 0 [o 53 (.fa (.t 3) 3), o 54 (.ld (.t 53) none), o 55 (.mv (.t 2)), o 56 (.ia (.t 54) (.t 55) 8), o 57 (.fa (.t 56) 0), o 58 (.ld (.t 57) none), o 59 (.ln (.t 58)), o 60 (.bin .add (ki 3) (.t 59)), o 61 (.fa (.t 3) 3), o 62 (.ld (.t 61) none), o 63 (.mv (.t 2)), o 64 (.ia (.t 62) (.t 63) 8), o 65 (.fa (.t 64) 1), o 66 (.ld (.t 65) none), o 67 (.ln (.t 66)), o 68 (.bin .add (.t 60) (.t 67)), o 69 (.mv (.t 7)), o 70 (.bin .add (.t 68) (.t 69)), o 6 (.mv (.t 70))])
 .ret)))))
def F23 : AFn := ⟨c23, [0, 1, 2, 3, 6, 7, 8, 17, 30, 43], [.tmp 6], 71⟩
theorem k23 : FnOk Try.prog 23 F23 := .of Try.f23 Try.func23 (by kernel_rfl) (by kernel_rfl) (by kernel_rfl) (by kernel_rfl)

/-- plimsoll/plimsollref01.Ints -/
def c24 : AC :=
 (.seq (.reg 0 [o 4 (.mv (kb false))])
 (.seq (.seq (.reg 0 [o 6 (.mv (.t 0)), o 7 (.ln (.t 6)), o 8 (.mv (.t 1)), o 9 (.ln (.t 8)), o 10 (.bin .neq (.t 7) (.t 9))])
 (.cond (.t 10) (.seq (.reg 0 [o 4 (.mv (kb false))])
  .ret) .skip))
 (.seq (.seq (.reg 0 [o 5 (.mv (ki 0))])
 (.block 0 (.loop (.seq (.seq (.reg 0 [o 11 (.mv (.t 5)), o 12 (.mv (.t 0)), o 13 (.ln (.t 12)), o 14 (.bin .lss (.t 11) (.t 13))])
   (.cond (.t 14) .skip (.exit 0)))
   (.seq (.block 1 (.seq (.reg 0 [o 17 (.mv (.t 0)), o 18 (.mv (.t 5)), o 19 (.ia (.t 17) (.t 18) 1), o 20 (.ld (.t 19) none), o 21 (.mv (.t 1)), o 22 (.mv (.t 5)), o 23 (.ia (.t 21) (.t 22) 1), o 24 (.ld (.t 23) none), o 25 (.bin .neq (.t 20) (.t 24))])
    (.cond (.t 25) (.seq (.reg 0 [o 4 (.mv (kb false))])
     .ret) .skip)))
   (.reg 0 [o 15 (.mv (.t 5)), o 16 (.bin .add (.t 15) (ki 1)), o 5 (.mv (.t 16))]))))))
 (.seq (.reg 0 [o 4 (.mv (kb true))])
 .ret))))
def F24 : AFn := ⟨c24, [0, 1, 4, 5, 10, 14, 25], [.tmp 4], 26⟩
theorem k24 : FnOk Try.prog 24 F24 := .of Try.f24 Try.func24 (by kernel_rfl) (by kernel_rfl) (by kernel_rfl) (by kernel_rfl)

/-- plimsoll/plimsollref08.Ways -/
def c25 : AC :=
 (.seq (.reg 0 [o 2 (.mv (.c (.nilsl)))])
 (.seq (.reg 0 [o 10 (.mv (.t 0)), o 11 (.ln (.t 10)), o 3 (.mv (.t 11))])
 (.seq (.reg 0 [o 12 (.mv (.t 3)), o 13 (.ms 1 24 [.nilsl] (.t 12) (.t 12)), o 4 (.mv (.t 13))])
 (.seq (.seq (.reg 0 [o 5 (.mv (ki 0))])
 (.block 0 (.loop (.seq (.seq (.reg 0 [o 14 (.mv (.t 5)), o 15 (.mv (.t 3)), o 16 (.bin .lss (.t 14) (.t 15))])
   (.cond (.t 16) .skip (.exit 0)))
   (.seq (.block 1 (.seq (.reg 0 [o 19 (.mv (.t 4)), o 20 (.mv (.t 5)), o 21 (.mv (.t 3)), o 22 (.ms 1 1 [.bool false] (.t 21) (.t 21)), o 23 (.ia (.t 19) (.t 20) 1), os (.st 1 (.t 23) (.t 22))])
    (.seq (.reg 0 [o 6 (.mv (ki 0))])
    (.block 2 (.loop (.seq (.seq (.reg 0 [o 24 (.mv (.t 6)), o 25 (.mv (.t 0)), o 26 (.mv (.t 5)), o 27 (.ia (.t 25) (.t 26) 1), o 28 (.ld (.t 27) none), o 29 (.ln (.t 28)), o 30 (.bin .lss (.t 24) (.t 29))])
      (.cond (.t 30) .skip (.exit 2)))
      (.seq (.block 3 (.seq (.reg 0 [o 33 (.mv (.t 0)), o 34 (.mv (.t 5)), o 35 (.ia (.t 33) (.t 34) 1), o 36 (.ld (.t 35) none), o 37 (.mv (.t 6)), o 38 (.ia (.t 36) (.t 37) 1), o 39 (.ld (.t 38) none), o 40 (.bin .geq (.t 39) (ki 0)), o 41 (.mv (.t 40)), og 42 41 true (.mv (.t 0)), og 43 41 true (.mv (.t 5)), og 44 41 true (.ia (.t 42) (.t 43) 1), og 45 41 true (.ld (.t 44) none), og 46 41 true (.mv (.t 6)), og 47 41 true (.ia (.t 45) (.t 46) 1), og 48 41 true (.ld (.t 47) none), og 49 41 true (.mv (.t 3)), og 50 41 true (.bin .lss (.t 48) (.t 49)), o 51 (.pk (.t 41) (.t 50) (kb false))])
       (.cond (.t 51) (.reg 0 [o 52 (.mv (.t 4)), o 53 (.mv (.t 5)), o 54 (.ia (.t 52) (.t 53) 1), o 55 (.ld (.t 54) none), o 56 (.mv (.t 0)), o 57 (.mv (.t 5)), o 58 (.ia (.t 56) (.t 57) 1), o 59 (.ld (.t 58) none), o 60 (.mv (.t 6)), o 61 (.ia (.t 59) (.t 60) 1), o 62 (.ld (.t 61) none), o 63 (.ia (.t 55) (.t 62) 1), os (.st 1 (.t 63) (kb true))]) .skip)))
      (.reg 0 [o 31 (.mv (.t 6)), o 32 (.bin .add (.t 31) (ki 1)), o 6 (.mv (.t 32))]))))))))
   (.reg 0 [o 17 (.mv (.t 5)), o 18 (.bin .add (.t 17) (ki 1)), o 5 (.mv (.t 18))]))))))
 (.seq (.seq (.reg 0 [o 7 (.mv (ki 0))])
 (.block 4 (.loop (.seq (.seq (.reg 0 [o 64 (.mv (.t 7)), o 65 (.mv (.t 3)), o 66 (.bin .lss (.t 64) (.t 65))])
   (.cond (.t 66) .skip (.exit 4)))
   (.seq (.block 5 (.seq (.reg 0 [o 8 (.mv (ki 0))])
    (.block 6 (.loop (.seq (.seq (.reg 0 [o 69 (.mv (.t 8)), o 70 (.mv (.t 3)), o 71 (.bin .lss (.t 69) (.t 70))])
      (.cond (.t 71) .skip (.exit 6)))
      (.seq (.block 7 (.seq (.reg 0 [o 9 (.mv (ki 0))])
       (.block 8 (.loop (.seq (.seq (.reg 0 [o 74 (.mv (.t 9)), o 75 (.mv (.t 3)), o 76 (.bin .lss (.t 74) (.t 75))])
         (.cond (.t 76) .skip (.exit 8)))
         (.seq (.block 9 (.reg 0 [o 79 (.mv (.t 4)), o 80 (.mv (.t 8)), o 81 (.ia (.t 79) (.t 80) 1), o 82 (.ld (.t 81) none), o 83 (.mv (.t 9)), o 84 (.mv (.t 4)), o 85 (.mv (.t 8)), o 86 (.ia (.t 84) (.t 85) 1), o 87 (.ld (.t 86) none), o 88 (.mv (.t 9)), o 89 (.ia (.t 87) (.t 88) 1), o 90 (.ld (.t 89) none), o 91 (.mv (.t 90)), og 92 91 false (.mv (.t 4)), og 93 91 false (.mv (.t 8)), og 94 91 false (.ia (.t 92) (.t 93) 1), og 95 91 false (.ld (.t 94) none), og 96 91 false (.mv (.t 7)), og 97 91 false (.ia (.t 95) (.t 96) 1), og 98 91 false (.ld (.t 97) none), og 99 91 false (.mv (.t 98)), og 100 99 true (.mv (.t 4)), og 101 99 true (.mv (.t 7)), og 102 99 true (.ia (.t 100) (.t 101) 1), og 103 99 true (.ld (.t 102) none), og 104 99 true (.mv (.t 9)), og 105 99 true (.ia (.t 103) (.t 104) 1), og 106 99 true (.ld (.t 105) none), og 107 91 false (.pk (.t 99) (.t 106) (kb false)), o 108 (.pk (.t 91) (kb true) (.t 107)), o 109 (.ia (.t 82) (.t 83) 1), os (.st 1 (.t 109) (.t 108))]))
         (.reg 0 [o 77 (.mv (.t 9)), o 78 (.bin .add (.t 77) (ki 1)), o 9 (.mv (.t 78))])))))))
      (.reg 0 [o 72 (.mv (.t 8)), o 73 (.bin .add (.t 72) (ki 1)), o 8 (.mv (.t 73))])))))))
   (.reg 0 [o 67 (.mv (.t 7)), o 68 (.bin .add (.t 67) (ki 1)), o 7 (.mv (.t 68))]))))))
 (.seq (.reg 0 [o 110 (.mv (.t 4)), o 2 (.mv (.t 110))])
 .ret))))))
def F25 : AFn := ⟨c25, [0, 2, 3, 4, 5, 6, 7, 8, 9, 16, 30, 51, 66, 71, 76], [.tmp 2], 111⟩
theorem k25 : FnOk Try.prog 25 F25 := .of Try.f25 Try.func25 (by kernel_rfl) (by kernel_rfl) (by kernel_rfl) (by kernel_rfl)

/-- plimsoll/plimsollref08.Edges -/
def c26 : AC :=
 (.seq (.reg 0 [o 1 (.bx 7 (.t 0)), o 2 (.mv (.c (.nilsl)))])
 (.seq (.reg 0 [o 7 (.bs 1 0 [.nilsl] []), o 3 (.mv (.t 7))])
 (.seq (.seq (.reg 0 [o 4 (.mv (ki 0))])
 (.block 0 (.loop (.seq (.seq (.reg 0 [o 8 (.mv (.t 4)), o 9 (.fa (.t 1) 3), o 10 (.ld (.t 9) none), o 11 (.ln (.t 10)), o 12 (.bin .lss (.t 8) (.t 11))])
   (.cond (.t 12) .skip (.exit 0)))
   (.seq (.block 1 (.seq (.reg 0 [o 15 (.bs 1 0 [.int .i64 0] []), o 5 (.mv (.t 15))])
    (.seq (.seq (.reg 0 [o 6 (.mv (ki 0))])
    (.block 2 (.loop (.seq (.seq (.reg 0 [o 16 (.mv (.t 6)), o 17 (.fa (.t 1) 3), o 18 (.ld (.t 17) none), o 19 (.ln (.t 18)), o 20 (.bin .lss (.t 16) (.t 19))])
      (.cond (.t 20) .skip (.exit 2)))
      (.seq (.block 3 (.seq (.reg 0 [o 23 (.ld (.t 1) (some 7)), o 24 (.mv (.t 4)), o 25 (.mv (.t 6)), o 26 (.pc 27 [(.t 23), (.t 24), (.t 25)])])
       (.cond (.t 26) (.reg 0 [o 27 (.mv (.t 5)), o 28 (.mv (.t 6)), o 29 (.bs 1 1 [.int .i64 0] [(0, (.t 28))]), o 30 (.ap 1 8 [.int .i64 0] (.t 27) (.t 29)), o 5 (.mv (.t 30))]) .skip)))
      (.reg 0 [o 21 (.mv (.t 6)), o 22 (.bin .add (.t 21) (ki 1)), o 6 (.mv (.t 22))]))))))
    (.reg 0 [o 31 (.mv (.t 3)), o 32 (.mv (.t 5)), o 33 (.bs 1 1 [.nilsl] [(0, (.t 32))]), o 34 (.ap 1 24 [.nilsl] (.t 31) (.t 33)), o 3 (.mv (.t 34))]))))
   (.reg 0 [o 13 (.mv (.t 4)), o 14 (.bin .add (.t 13) (ki 1)), o 4 (.mv (.t 14))]))))))
 (.seq (.reg 0 [o 35 (.mv (.t 3)), o 2 (.mv (.t 35))])
 .ret))))
def F26 : AFn := ⟨c26, [0, 1, 2, 3, 4, 5, 6, 12, 20, 26], [.tmp 2], 36⟩
theorem k26 : FnOk Try.prog 26 F26 := .of Try.f26 Try.func26 (by kernel_rfl) (by kernel_rfl) (by kernel_rfl) (by kernel_rfl)

/-- plimsoll/plimsollref08.Calls -/
def c27 : AC :=
 (.seq (.reg 0 [o 3 (.bx 7 (.t 0)), o 6 (.mv (kb false))])
 (.seq (.seq (.reg 0 [o 7 (.mv (ki 0))])
 (.block 0 (.loop (.seq (.seq (.reg 0 [o 8 (.mv (.t 7)), o 9 (.fa (.t 3) 3), o 10 (.ld (.t 9) none), o 11 (.mv (.t 1)), o 12 (.ia (.t 10) (.t 11) 8), o 13 (.fa (.t 12) 4), o 14 (.ld (.t 13) none), o 15 (.ln (.t 14)), o 16 (.bin .lss (.t 8) (.t 15))])
   (.cond (.t 16) .skip (.exit 0)))
   (.seq (.block 1 (.seq (.reg 0 [o 19 (.ld (.t 3) (some 7)), o 20 (.fa (.t 3) 3), o 21 (.ld (.t 20) none), o 22 (.mv (.t 1)), o 23 (.ia (.t 21) (.t 22) 8), o 24 (.fa (.t 23) 4), o 25 (.ld (.t 24) none), o 26 (.mv (.t 7)), o 27 (.ia (.t 25) (.t 26) 3), o 28 (.ld (.t 27) (some 3)), o 29 (.pc 60 [(.t 19), (.t 28)]), o 30 (.mv (.t 2)), o 31 (.pc 59 [(.t 29), (.t 30)])])
    (.cond (.t 31) (.seq (.reg 0 [o 6 (.mv (kb true))])
     .ret) .skip)))
   (.reg 0 [o 17 (.mv (.t 7)), o 18 (.bin .add (.t 17) (ki 1)), o 7 (.mv (.t 18))]))))))
 (.seq (.reg 0 [o 6 (.mv (kb false))])
 .ret)))
def F27 : AFn := ⟨c27, [0, 1, 2, 3, 6, 7, 16, 31], [.tmp 6], 32⟩
theorem k27 : FnOk Try.prog 27 F27 := .of Try.f27 Try.func27 (by kernel_rfl) (by kernel_rfl) (by kernel_rfl) (by kernel_rfl)

/-- plimsoll/plimsollref05.Fits -/
def c28 : AC :=
 (.seq (.reg 0 [o 1 (.bx 7 (.t 0)), o 2 (.mv (kb false))])
 (.seq (.seq (.reg 0 [o 8 (.fa (.t 1) 0), o 9 (.ld (.t 8) none), o 10 (.ln (.t 9)), o 11 (.bin .gtr (.t 10) (ki 8)), o 12 (.mv (.t 11)), og 13 12 false (.fa (.t 1) 2), og 14 12 false (.ld (.t 13) none), og 15 12 false (.ln (.t 14)), og 16 12 false (.bin .gtr (.t 15) (ki 16)), o 17 (.pk (.t 12) (kb true) (.t 16)), o 18 (.mv (.t 17)), og 19 18 false (.fa (.t 1) 3), og 20 18 false (.ld (.t 19) none), og 21 18 false (.ln (.t 20)), og 22 18 false (.bin .gtr (.t 21) (ki 12)), o 23 (.pk (.t 18) (kb true) (.t 22)), o 24 (.mv (.t 23)), og 25 24 false (.fa (.t 1) 1), og 26 24 false (.ld (.t 25) none), og 27 24 false (.pc 61 [(.t 26), (ki 8)]), og 28 24 false (.un .not (.t 27)), o 29 (.pk (.t 24) (kb true) (.t 28)), o 30 (.mv (.t 29)), og 31 30 false (.fa (.t 1) 4), og 32 30 false (.ld (.t 31) none), og 33 30 false (.pc 62 [(.t 32), (ki 12), (ki 11)]), og 34 30 false (.un .not (.t 33)), o 35 (.pk (.t 30) (kb true) (.t 34)), o 36 (.mv (.t 35)), og 37 36 false (.fa (.t 1) 5), og 38 36 false (.ld (.t 37) none), og 39 36 false (.pc 63 [(.t 38), (ki 0), (ki 4096)]), og 40 36 false (.un .not (.t 39)), o 41 (.pk (.t 36) (kb true) (.t 40)), o 42 (.mv (.t 41)), og 43 42 false (.fa (.t 1) 6), og 44 42 false (.ld (.t 43) none), og 45 42 false (.pc 63 [(.t 44), (ki 0), (ki 4096)]), og 46 42 false (.un .not (.t 45)), o 47 (.pk (.t 42) (kb true) (.t 46))])
 (.cond (.t 47) (.seq (.reg 0 [o 2 (.mv (kb false))])
  .ret) .skip))
 (.seq (.seq (.reg 0 [o 3 (.mv (ki 0))])
 (.block 0 (.loop (.seq (.seq (.reg 0 [o 48 (.mv (.t 3)), o 49 (.fa (.t 1) 0), o 50 (.ld (.t 49) none), o 51 (.ln (.t 50)), o 52 (.bin .lss (.t 48) (.t 51))])
   (.cond (.t 52) .skip (.exit 0)))
   (.seq (.block 1 (.seq (.reg 0 [o 55 (.fa (.t 1) 0), o 56 (.ld (.t 55) none), o 57 (.mv (.t 3)), o 58 (.ia (.t 56) (.t 57) 3), o 59 (.ld (.t 58) (some 3)), o 4 (.al [.int .i64 0, .nilsl, .nilsl]), os (.st 3 (.t 4) (.t 59))])
    (.seq (.reg 0 [o 60 (.fa (.t 4) 0), o 61 (.ld (.t 60) none), o 62 (.pc 63 [(.t 61), (ki (-1)), (ki 7)]), o 63 (.un .not (.t 62)), o 64 (.mv (.t 63)), og 65 64 false (.fa (.t 4) 1), og 66 64 false (.ld (.t 65) none), og 67 64 false (.pc 61 [(.t 66), (ki 8)]), og 68 64 false (.un .not (.t 67)), o 69 (.pk (.t 64) (kb true) (.t 68)), o 70 (.mv (.t 69)), og 71 70 false (.fa (.t 4) 2), og 72 70 false (.ld (.t 71) none), og 73 70 false (.pc 62 [(.t 72), (ki 4), (ki 11)]), og 74 70 false (.un .not (.t 73)), o 75 (.pk (.t 70) (kb true) (.t 74))])
    (.cond (.t 75) (.seq (.reg 0 [o 2 (.mv (kb false))])
     .ret) .skip))))
   (.reg 0 [o 53 (.mv (.t 3)), o 54 (.bin .add (.t 53) (ki 1)), o 3 (.mv (.t 54))]))))))
 (.seq (.seq (.reg 0 [o 5 (.mv (ki 0))])
 (.block 2 (.loop (.seq (.seq (.reg 0 [o 76 (.mv (.t 5)), o 77 (.fa (.t 1) 3), o 78 (.ld (.t 77) none), o 79 (.ln (.t 78)), o 80 (.bin .lss (.t 76) (.t 79))])
   (.cond (.t 80) .skip (.exit 2)))
   (.seq (.block 3 (.seq (.reg 0 [o 83 (.fa (.t 1) 3), o 84 (.ld (.t 83) none), o 85 (.mv (.t 5)), o 86 (.ia (.t 84) (.t 85) 8), o 87 (.ld (.t 86) (some 8)), o 6 (.al [.nilsl, .nilsl, .int .i64 0, .int .i64 0, .nilsl, .int .i64 0, .int .i64 0, .nilsl]), os (.st 8 (.t 6) (.t 87))])
    (.seq (.seq (.reg 0 [o 88 (.fa (.t 6) 0), o 89 (.ld (.t 88) none), o 90 (.pc 61 [(.t 89), (ki 4)]), o 91 (.un .not (.t 90)), o 92 (.mv (.t 91)), og 93 92 false (.fa (.t 6) 1), og 94 92 false (.ld (.t 93) none), og 95 92 false (.pc 61 [(.t 94), (ki 8)]), og 96 92 false (.un .not (.t 95)), o 97 (.pk (.t 92) (kb true) (.t 96)), o 98 (.mv (.t 97)), og 99 98 false (.fa (.t 6) 2), og 100 98 false (.ld (.t 99) (some 2)), og 101 98 false (.pc 64 [(.t 100)]), og 102 98 false (.un .not (.t 101)), o 103 (.pk (.t 98) (kb true) (.t 102)), o 104 (.mv (.t 103)), og 105 104 false (.fa (.t 6) 4), og 106 104 false (.ld (.t 105) none), og 107 104 false (.ln (.t 106)), og 108 104 false (.bin .gtr (.t 107) (ki 64)), o 109 (.pk (.t 104) (kb true) (.t 108)), o 110 (.mv (.t 109)), og 111 110 false (.fa (.t 6) 5), og 112 110 false (.ld (.t 111) none), og 113 110 false (.pc 63 [(.t 112), (ki 0), (ki 8)]), og 114 110 false (.un .not (.t 113)), o 115 (.pk (.t 110) (kb true) (.t 114)), o 116 (.mv (.t 115)), og 117 116 false (.fa (.t 6) 6), og 118 116 false (.ld (.t 117) none), og 119 116 false (.pc 63 [(.t 118), (ki 0), (ki 4096)]), og 120 116 false (.un .not (.t 119)), o 121 (.pk (.t 116) (kb true) (.t 120)), o 122 (.mv (.t 121)), og 123 122 false (.fa (.t 6) 7), og 124 122 false (.ld (.t 123) none), og 125 122 false (.pc 62 [(.t 124), (ki 64), (ki 4096)]), og 126 122 false (.un .not (.t 125)), o 127 (.pk (.t 122) (kb true) (.t 126))])
    (.cond (.t 127) (.seq (.reg 0 [o 2 (.mv (kb false))])
     .ret) .skip))
    (.seq (.reg 0 [o 7 (.mv (ki 0))])
    (.block 4 (.loop (.seq (.seq (.reg 0 [o 128 (.mv (.t 7)), o 129 (.fa (.t 6) 4), o 130 (.ld (.t 129) none), o 131 (.ln (.t 130)), o 132 (.bin .lss (.t 128) (.t 131))])
      (.cond (.t 132) .skip (.exit 4)))
      (.seq (.block 5 (.seq (.reg 0 [o 135 (.fa (.t 6) 4), o 136 (.ld (.t 135) none), o 137 (.mv (.t 7)), o 138 (.ia (.t 136) (.t 137) 3), o 139 (.ld (.t 138) (some 3)), o 140 (.pc 65 [(.t 139)]), o 141 (.un .not (.t 140))])
       (.cond (.t 141) (.seq (.reg 0 [o 2 (.mv (kb false))])
        .ret) .skip)))
      (.reg 0 [o 133 (.mv (.t 7)), o 134 (.bin .add (.t 133) (ki 1)), o 7 (.mv (.t 134))])))))))))
   (.reg 0 [o 81 (.mv (.t 5)), o 82 (.bin .add (.t 81) (ki 1)), o 5 (.mv (.t 82))]))))))
 (.seq (.reg 0 [o 2 (.mv (kb true))])
 .ret)))))
def F28 : AFn := ⟨c28, [0, 1, 2, 3, 4, 5, 6, 7, 47, 52, 75, 80, 127, 132, 141], [.tmp 2], 142⟩
theorem k28 : FnOk Try.prog 28 F28 := .of Try.f28 Try.func28 (by kernel_rfl) (by kernel_rfl) (by kernel_rfl) (by kernel_rfl)

/-- plimsoll/plimsollref05.good -/
def c29 : AC :=
 (.seq (.reg 0 [o 2 (.bx 7 (.t 0)), o 4 (.mv (kb false))])
 (.seq (.seq (.reg 0 [o 5 (.mv (ki 0))])
 (.block 0 (.loop (.seq (.seq (.reg 0 [o 6 (.mv (.t 5)), o 7 (.mv (.t 1)), o 8 (.ln (.t 7)), o 9 (.bin .lss (.t 6) (.t 8))])
   (.cond (.t 9) .skip (.exit 0)))
   (.seq (.block 1 (.seq (.reg 0 [o 12 (.mv (.t 1)), o 13 (.mv (.t 5)), o 14 (.ia (.t 12) (.t 13) 2), o 15 (.ld (.t 14) (some 2)), o 16 (.fa (.t 2) 0), o 17 (.ld (.t 16) none), o 18 (.ln (.t 17)), o 19 (.pc 66 [(.t 15), (.t 18)]), o 20 (.un .not (.t 19))])
    (.cond (.t 20) (.seq (.reg 0 [o 4 (.mv (kb false))])
     .ret) .skip)))
   (.reg 0 [o 10 (.mv (.t 5)), o 11 (.bin .add (.t 10) (ki 1)), o 5 (.mv (.t 11))]))))))
 (.seq (.reg 0 [o 4 (.mv (kb true))])
 .ret)))
def F29 : AFn := ⟨c29, [0, 1, 2, 4, 5, 9, 20], [.tmp 4], 21⟩
theorem k29 : FnOk Try.prog 29 F29 := .of Try.f29 Try.func29 (by kernel_rfl) (by kernel_rfl) (by kernel_rfl) (by kernel_rfl)

/-- plimsoll/plimsollref05.class -/
def c30 : AC :=
 (.seq (.reg 0 [o 2 (.bx 7 (.t 0)), o 4 (.mv (kb false))])
 (.seq (.reg 0 [o 10 (.fa (.t 2) 0), o 11 (.ld (.t 10) none), o 12 (.mv (.t 1)), o 13 (.ia (.t 11) (.t 12) 3), o 14 (.ld (.t 13) (some 3)), o 5 (.al [.int .i64 0, .nilsl, .nilsl]), os (.st 3 (.t 5) (.t 14))])
 (.seq (.seq (.reg 0 [o 15 (.fa (.t 5) 0), o 16 (.ld (.t 15) none), o 17 (.mv (.t 1)), o 18 (.bin .geq (.t 16) (.t 17)), o 19 (.mv (.t 18)), og 20 19 false (.ld (.t 2) (some 7)), og 21 19 false (.fa (.t 5) 1), og 22 19 false (.ld (.t 21) none), og 23 19 false (.pc 29 [(.t 20), (.t 22)]), og 24 19 false (.un .not (.t 23)), o 25 (.pk (.t 19) (kb true) (.t 24)), o 26 (.mv (.t 25)), og 27 26 false (.ld (.t 2) (some 7)), og 28 26 false (.mv (.t 1)), og 29 26 false (.pc 67 [(.t 27), (.t 28)]), og 30 26 false (.ln (.t 29)), og 31 26 false (.bin .gtr (.t 30) (ki 8)), o 32 (.pk (.t 26) (kb true) (.t 31))])
 (.cond (.t 32) (.seq (.reg 0 [o 4 (.mv (kb false))])
  .ret) .skip))
 (.seq (.reg 0 [o 33 (.bs 1 0 [.int .i64 0] []), o 6 (.mv (.t 33))])
 (.seq (.seq (.reg 0 [o 34 (.fa (.t 5) 0), o 35 (.ld (.t 34) none), o 36 (.bin .geq (.t 35) (ki 0))])
 (.cond (.t 36) (.reg 0 [o 37 (.fa (.t 2) 0), o 38 (.ld (.t 37) none), o 39 (.fa (.t 5) 0), o 40 (.ld (.t 39) none), o 41 (.ia (.t 38) (.t 40) 3), o 42 (.fa (.t 41) 2), o 43 (.ld (.t 42) none), o 6 (.mv (.t 43))]) .skip))
 (.seq (.seq (.reg 0 [o 44 (.fa (.t 5) 2), o 45 (.ld (.t 44) none), o 46 (.ln (.t 45)), o 47 (.mv (.t 6)), o 48 (.ln (.t 47)), o 49 (.bin .lss (.t 46) (.t 48))])
 (.cond (.t 49) (.seq (.reg 0 [o 4 (.mv (kb false))])
  .ret) .skip))
 (.seq (.seq (.reg 0 [o 7 (.mv (ki 0))])
 (.block 0 (.loop (.seq (.seq (.reg 0 [o 50 (.mv (.t 7)), o 51 (.fa (.t 5) 2), o 52 (.ld (.t 51) none), o 53 (.ln (.t 52)), o 54 (.bin .lss (.t 50) (.t 53))])
   (.cond (.t 54) .skip (.exit 0)))
   (.seq (.block 1 (.seq (.seq (.reg 0 [o 57 (.fa (.t 5) 2), o 58 (.ld (.t 57) none), o 59 (.mv (.t 7)), o 60 (.ia (.t 58) (.t 59) 1), o 61 (.ld (.t 60) none), o 62 (.fa (.t 2) 3), o 63 (.ld (.t 62) none), o 64 (.ln (.t 63)), o 65 (.bin .geq (.t 61) (.t 64))])
    (.cond (.t 65) (.seq (.reg 0 [o 4 (.mv (kb false))])
     .ret) .skip))
    (.seq (.reg 1 [o 66 (.fa (.t 2) 3), ⟨some 67, none, none, true, .ld (.t 66) none⟩, o 68 (.fa (.t 5) 2), ⟨some 69, none, none, true, .ld (.t 68) none⟩, o 70 (.mv (.t 7)), o 71 (.ia (.t 69) (.t 70) 1), ⟨some 72, none, none, true, .ld (.t 71) none⟩, o 73 (.ia (.t 67) (.t 72) 8), ⟨some 74, none, none, true, .ld (.t 73) (some 8)⟩, ⟨some 8, none, some 0, false, .al [.nilsl, .nilsl, .int .i64 0, .int .i64 0, .nilsl, .int .i64 0, .int .i64 0, .nilsl]⟩, os (.st 8 (.t 8) (.t 74))])
    (.seq (.seq (.reg 0 [o 75 (.fa (.t 8) 0), o 76 (.ld (.t 75) none), o 77 (.ln (.t 76)), o 78 (.bin .eql (.t 77) (ki 0)), o 79 (.mv (.t 78)), og 80 79 false (.fa (.t 2) 0), og 81 79 false (.ld (.t 80) none), og 82 79 false (.mv (.t 1)), og 83 79 false (.bd [.int .i64 0, .int .i64 0] [(0, 1, (ki 3)), (1, 1, (.t 82))]), og 84 79 false (.fa (.t 8) 0), og 85 79 false (.ld (.t 84) none), og 86 79 false (.ia (.t 85) (ki 0) 2), og 87 79 false (.ld (.t 86) (some 2)), og 88 79 false (.pc 68 [(.t 81), (.t 83), (.t 87)]), og 89 79 false (.un .not (.t 88)), o 90 (.pk (.t 79) (kb true) (.t 89))])
    (.cond (.t 90) (.seq (.reg 0 [o 4 (.mv (kb false))])
     .ret) .skip))
    (.seq (.reg 0 [o 91 (.mv (.t 7)), o 92 (.mv (.t 6)), o 93 (.ln (.t 92)), o 94 (.bin .lss (.t 91) (.t 93))])
    (.cond (.t 94) (.seq (.reg 1 [o 95 (.fa (.t 2) 3), ⟨some 96, none, none, true, .ld (.t 95) none⟩, o 97 (.mv (.t 6)), o 98 (.mv (.t 7)), o 99 (.ia (.t 97) (.t 98) 1), ⟨some 100, none, none, true, .ld (.t 99) none⟩, o 101 (.ia (.t 96) (.t 100) 8), ⟨some 102, none, none, true, .ld (.t 101) (some 8)⟩, ⟨some 9, none, some 0, false, .al [.nilsl, .nilsl, .int .i64 0, .int .i64 0, .nilsl, .int .i64 0, .int .i64 0, .nilsl]⟩, os (.st 8 (.t 9) (.t 102))])
     (.seq (.reg 0 [o 103 (.fa (.t 8) 0), o 104 (.ld (.t 103) none), o 105 (.sl (.t 104) 2 (some (ki 1)) none none), o 106 (.fa (.t 9) 0), o 107 (.ld (.t 106) none), o 108 (.sl (.t 107) 2 (some (ki 1)) none none), o 109 (.pc 45 [(.t 105), (.t 108)]), o 110 (.un .not (.t 109)), o 111 (.mv (.t 110)), og 112 111 false (.fa (.t 8) 2), og 113 111 false (.ld (.t 112) (some 2)), og 114 111 false (.fa (.t 9) 2), og 115 111 false (.ld (.t 114) (some 2)), og 116 111 false (.aeq true 2 (.t 113) (.t 115)), o 117 (.pk (.t 111) (kb true) (.t 116))])
     (.cond (.t 117) (.seq (.reg 0 [o 4 (.mv (kb false))])
      .ret) .skip))) .skip))))))
   (.reg 0 [o 55 (.mv (.t 7)), o 56 (.bin .add (.t 55) (ki 1)), o 7 (.mv (.t 56))]))))))
 (.seq (.reg 0 [o 4 (.mv (kb true))])
 .ret))))))))
def F30 : AFn := ⟨c30, [0, 1, 2, 4, 5, 6, 7, 8, 9, 32, 36, 49, 54, 65, 90, 94, 117], [.tmp 4], 118⟩
theorem k30 : FnOk Try.prog 30 F30 := .of Try.f30 Try.func30 (by kernel_rfl) (by kernel_rfl) (by kernel_rfl) (by kernel_rfl)

/-- plimsoll/plimsollref05.method -/
def c31 : AC :=
 (.seq (.reg 0 [o 2 (.bx 7 (.t 0)), o 3 (.bx 8 (.t 1)), o 4 (.mv (kb false))])
 (.seq (.seq (.reg 0 [o 6 (.ld (.t 2) (some 7)), o 7 (.fa (.t 3) 0), o 8 (.ld (.t 7) none), o 9 (.pc 29 [(.t 6), (.t 8)]), o 10 (.un .not (.t 9)), o 11 (.mv (.t 10)), og 12 11 false (.ld (.t 2) (some 7)), og 13 11 false (.fa (.t 3) 1), og 14 11 false (.ld (.t 13) none), og 15 11 false (.pc 29 [(.t 12), (.t 14)]), og 16 11 false (.un .not (.t 15)), o 17 (.pk (.t 11) (kb true) (.t 16)), o 18 (.mv (.t 17)), og 19 18 false (.fa (.t 3) 2), og 20 18 false (.ld (.t 19) (some 2)), og 21 18 false (.bd [.int .i64 0, .int .i64 0] [(0, 1, (ki 5))]), og 22 18 false (.aeq true 2 (.t 20) (.t 21)), og 23 18 false (.mv (.t 22)), og 24 23 true (.fa (.t 3) 2), og 25 23 true (.ld (.t 24) (some 2)), og 26 23 true (.fa (.t 2) 0), og 27 23 true (.ld (.t 26) none), og 28 23 true (.ln (.t 27)), og 29 23 true (.pc 66 [(.t 25), (.t 28)]), og 30 23 true (.un .not (.t 29)), og 31 18 false (.pk (.t 23) (.t 30) (kb false)), o 32 (.pk (.t 18) (kb true) (.t 31)), o 33 (.mv (.t 32)), og 34 33 false (.fa (.t 3) 4), og 35 33 false (.ld (.t 34) none), og 36 33 false (.ln (.t 35)), og 37 33 false (.bin .eql (.t 36) (ki 0)), o 38 (.pk (.t 33) (kb true) (.t 37)), o 39 (.mv (.t 38)), og 40 39 false (.fa (.t 3) 7), og 41 39 false (.ld (.t 40) none), og 42 39 false (.ln (.t 41)), og 43 39 false (.fa (.t 3) 4), og 44 39 false (.ld (.t 43) none), og 45 39 false (.ln (.t 44)), og 46 39 false (.bin .neq (.t 42) (.t 45)), o 47 (.pk (.t 39) (kb true) (.t 46)), o 48 (.mv (.t 47)), og 49 48 false (.fa (.t 3) 0), og 50 48 false (.ld (.t 49) none), og 51 48 false (.ln (.t 50)), og 52 48 false (.fa (.t 3) 1), og 53 48 false (.ld (.t 52) none), og 54 48 false (.ln (.t 53)), og 55 48 false (.bin .add (.t 51) (.t 54)), og 56 48 false (.bin .gtr (.t 55) (ki 8)), o 57 (.pk (.t 48) (kb true) (.t 56))])
 (.cond (.t 57) (.seq (.reg 0 [o 4 (.mv (kb false))])
  .ret) .skip))
 (.seq (.seq (.reg 0 [o 5 (.mv (ki 0))])
 (.block 0 (.loop (.seq (.seq (.reg 0 [o 58 (.mv (.t 5)), o 59 (.fa (.t 3) 4), o 60 (.ld (.t 59) none), o 61 (.ln (.t 60)), o 62 (.bin .lss (.t 58) (.t 61))])
   (.cond (.t 62) .skip (.exit 0)))
   (.seq (.block 1 (.seq (.reg 0 [o 65 (.ld (.t 2) (some 7)), o 66 (.ld (.t 3) (some 8)), o 67 (.fa (.t 3) 4), o 68 (.ld (.t 67) none), o 69 (.mv (.t 5)), o 70 (.ia (.t 68) (.t 69) 3), o 71 (.ld (.t 70) (some 3)), o 72 (.pc 69 [(.t 65), (.t 66), (.t 71)]), o 73 (.un .not (.t 72))])
    (.cond (.t 73) (.seq (.reg 0 [o 4 (.mv (kb false))])
     .ret) .skip)))
   (.reg 0 [o 63 (.mv (.t 5)), o 64 (.bin .add (.t 63) (ki 1)), o 5 (.mv (.t 64))]))))))
 (.seq (.reg 0 [o 4 (.mv (kb true))])
 .ret))))
def F31 : AFn := ⟨c31, [0, 1, 2, 3, 4, 5, 57, 62, 73], [.tmp 4], 74⟩
theorem k31 : FnOk Try.prog 31 F31 := .of Try.f31 Try.func31 (by kernel_rfl) (by kernel_rfl) (by kernel_rfl) (by kernel_rfl)

/-- plimsoll/image.Fits -/
def c32 : AC :=
 (.seq (.reg 0 [o 1 (.bx 7 (.t 0)), o 2 (.mv (kb false))])
 (.seq (.seq (.reg 0 [o 3 (.fa (.t 1) 0), o 4 (.ld (.t 3) none), o 5 (.ln (.t 4)), o 6 (.bin .gtr (.t 5) (ki 8)), o 7 (.mv (.t 6)), og 8 7 false (.fa (.t 1) 1), og 9 7 false (.ld (.t 8) none), og 10 7 false (.pc 70 [(.t 9), (ki 8)]), og 11 7 false (.un .not (.t 10)), o 12 (.pk (.t 7) (kb true) (.t 11)), o 13 (.mv (.t 12)), og 14 13 false (.fa (.t 1) 2), og 15 13 false (.ld (.t 14) none), og 16 13 false (.ln (.t 15)), og 17 13 false (.bin .gtr (.t 16) (ki 16)), o 18 (.pk (.t 13) (kb true) (.t 17)), o 19 (.mv (.t 18)), og 20 19 false (.fa (.t 1) 3), og 21 19 false (.ld (.t 20) none), og 22 19 false (.ln (.t 21)), og 23 19 false (.bin .gtr (.t 22) (ki 12)), o 24 (.pk (.t 19) (kb true) (.t 23))])
 (.cond (.t 24) (.seq (.reg 0 [o 2 (.mv (kb false))])
  .ret) .skip))
 (.seq (.seq (.reg 0 [o 25 (.fa (.t 1) 0), o 26 (.ld (.t 25) none), o 27 (.pc 71 [(.t 26), (.c (.fn 72 [] []))]), o 28 (.mv (.t 27)), og 29 28 false (.fa (.t 1) 3), og 30 28 false (.ld (.t 29) none), og 31 28 false (.pc 74 [(.t 30), (.c (.fn 75 [] []))]), o 32 (.pk (.t 28) (kb true) (.t 31))])
 (.cond (.t 32) (.seq (.reg 0 [o 2 (.mv (kb false))])
  .ret) .skip))
 (.seq (.reg 0 [o 33 (.fa (.t 1) 4), o 34 (.ld (.t 33) none), o 35 (.pc 77 [(.t 34), (ki 12), (ki 11)]), o 36 (.mv (.t 35)), og 37 36 true (.fa (.t 1) 5), og 38 36 true (.ld (.t 37) none), og 39 36 true (.pc 78 [(.t 38), (ki 4096)]), o 40 (.pk (.t 36) (.t 39) (kb false)), o 41 (.mv (.t 40)), og 42 41 true (.fa (.t 1) 6), og 43 41 true (.ld (.t 42) none), og 44 41 true (.pc 78 [(.t 43), (ki 4096)]), o 45 (.pk (.t 41) (.t 44) (kb false)), o 2 (.mv (.t 45))])
 .ret))))
def F32 : AFn := ⟨c32, [0, 1, 2, 24, 32], [.tmp 2], 46⟩
theorem k32 : FnOk Try.prog 32 F32 := .of Try.f32 Try.func32 (by kernel_rfl) (by kernel_rfl) (by kernel_rfl) (by kernel_rfl)

/-- plimsoll/sane.all -/
def c33 : AC :=
 (.seq (.reg 0 [o 2 (.bx 7 (.t 0)), o 4 (.mv (kb false))])
 (.seq (.seq (.reg 0 [o 9 (.mv (.t 1)), o 10 (.ln (.t 9)), o 11 (.mv (ki 0))])
 (.block 0 (.loop (.seq (.reg 0 [o 12 (.bin .lss (.t 11) (.t 10))])
   (.seq (.cond (.t 12) .skip (.exit 0))
   (.seq (.block 1 (.seq (.reg 0 [o 13 (.ia (.t 9) (.t 11) 1), o 14 (.ld (.t 13) none), o 6 (.mv (.t 14))])
    (.seq (.reg 0 [o 15 (.mv (.t 6)), o 16 (.ln (.t 15)), o 17 (.mv (ki 0))])
    (.block 2 (.loop (.seq (.reg 0 [o 18 (.bin .lss (.t 17) (.t 16))])
      (.seq (.cond (.t 18) .skip (.exit 2))
      (.seq (.block 3 (.seq (.reg 0 [o 19 (.ia (.t 15) (.t 17) 2), o 20 (.ld (.t 19) (some 2)), o 8 (.al [.int .i64 0, .int .i64 0]), os (.st 2 (.t 8) (.t 20))])
       (.seq (.reg 0 [o 21 (.ld (.t 8) (some 2)), o 22 (.fa (.t 2) 0), o 23 (.ld (.t 22) none), o 24 (.ln (.t 23)), o 25 (.pc 79 [(.t 21), (.t 24)]), o 26 (.un .not (.t 25))])
       (.cond (.t 26) (.seq (.reg 0 [o 4 (.mv (kb false))])
        .ret) .skip))))
      (.reg 0 [o 27 (.bin .add (.t 17) (ki 1)), o 17 (.mv (.t 27))])))))))))
   (.reg 0 [o 28 (.bin .add (.t 11) (ki 1)), o 11 (.mv (.t 28))])))))))
 (.seq (.reg 0 [o 4 (.mv (kb true))])
 .ret)))
def F33 : AFn := ⟨c33, [0, 1, 2, 4, 6, 8, 9, 10, 11, 12, 15, 16, 17, 18, 26], [.tmp 4], 29⟩
theorem k33 : FnOk Try.prog 33 F33 := .of Try.f33 Try.func33 (by kernel_rfl) (by kernel_rfl) (by kernel_rfl) (by kernel_rfl)

/-- plimsoll/sane.class -/
def c34 : AC :=
 (.seq (.reg 0 [o 2 (.bx 7 (.t 0)), o 4 (.mv (kb false))])
 (.seq (.reg 0 [o 10 (.fa (.t 2) 0), o 11 (.ld (.t 10) none), o 12 (.mv (.t 1)), o 13 (.ia (.t 11) (.t 12) 3), o 14 (.ld (.t 13) (some 3)), o 5 (.al [.int .i64 0, .nilsl, .nilsl]), os (.st 3 (.t 5) (.t 14))])
 (.seq (.seq (.reg 0 [o 15 (.fa (.t 5) 0), o 16 (.ld (.t 15) none), o 17 (.mv (.t 1)), o 18 (.bin .geq (.t 16) (.t 17)), o 19 (.mv (.t 18)), og 20 19 false (.ld (.t 2) (some 7)), og 21 19 false (.fa (.t 5) 1), og 22 19 false (.ld (.t 21) none), og 23 19 false (.bs 1 1 [.nilsl] [(0, (.t 22))]), og 24 19 false (.pc 33 [(.t 20), (.t 23)]), og 25 19 false (.un .not (.t 24)), o 26 (.pk (.t 19) (kb true) (.t 25))])
 (.cond (.t 26) (.seq (.reg 0 [o 4 (.mv (kb false))])
  .ret) .skip))
 (.seq (.reg 0 [o 28 (.ld (.t 2) (some 7)), o 29 (.mv (.t 1)), o 30 (.pc 80 [(.t 28), (.t 29)]), o 27 (.mv (.t 30)), o 31 (.ex (.t 27) 0), o 32 (.ex (.t 27) 1), o 6 (.mv (.t 31)), o 7 (.mv (.t 32))])
 (.seq (.seq (.reg 0 [o 33 (.mv (.t 6)), o 34 (.fa (.t 5) 1), o 35 (.ld (.t 34) none), o 36 (.ln (.t 35)), o 37 (.bin .add (.t 33) (.t 36)), o 38 (.bin .gtr (.t 37) (ki 8)), o 39 (.mv (.t 38)), og 40 39 false (.fa (.t 5) 2), og 41 39 false (.ld (.t 40) none), og 42 39 false (.ln (.t 41)), og 43 39 false (.mv (.t 7)), og 44 39 false (.ln (.t 43)), og 45 39 false (.bin .lss (.t 42) (.t 44)), o 46 (.pk (.t 39) (kb true) (.t 45))])
 (.cond (.t 46) (.seq (.reg 0 [o 4 (.mv (kb false))])
  .ret) .skip))
 (.seq (.seq (.reg 0 [o 47 (.fa (.t 5) 2), o 48 (.ld (.t 47) none), o 49 (.ln (.t 48)), o 50 (.mv (ki 0))])
 (.block 0 (.loop (.seq (.reg 0 [o 51 (.bin .lss (.t 50) (.t 49))])
   (.seq (.cond (.t 51) .skip (.exit 0))
   (.seq (.block 1 (.seq (.reg 0 [o 52 (.mv (.t 50)), o 53 (.ia (.t 48) (.t 50) 1), o 54 (.ld (.t 53) none), o 8 (.mv (.t 52)), o 9 (.mv (.t 54))])
    (.seq (.reg 0 [o 55 (.mv (.t 9)), o 56 (.fa (.t 2) 3), o 57 (.ld (.t 56) none), o 58 (.ln (.t 57)), o 59 (.pc 81 [(.t 55), (.t 58)]), o 60 (.un .not (.t 59)), o 61 (.mv (.t 60)), og 62 61 false (.ld (.t 2) (some 7)), og 63 61 false (.mv (.t 1)), og 64 61 false (.mv (.t 9)), og 65 61 false (.pc 82 [(.t 62), (.t 63), (.t 64)]), og 66 61 false (.un .not (.t 65)), o 67 (.pk (.t 61) (kb true) (.t 66)), o 68 (.mv (.t 67)), og 69 68 false (.mv (.t 8)), og 70 68 false (.mv (.t 7)), og 71 68 false (.ln (.t 70)), og 72 68 false (.bin .lss (.t 69) (.t 71)), og 73 68 false (.mv (.t 72)), og 74 73 true (.fa (.t 2) 3), og 75 73 true (.ld (.t 74) none), og 76 73 true (.mv (.t 9)), og 77 73 true (.ia (.t 75) (.t 76) 8), og 78 73 true (.ld (.t 77) (some 8)), og 79 73 true (.fa (.t 2) 3), og 80 73 true (.ld (.t 79) none), og 81 73 true (.mv (.t 7)), og 82 73 true (.mv (.t 8)), og 83 73 true (.ia (.t 81) (.t 82) 1), og 84 73 true (.ld (.t 83) none), og 85 73 true (.ia (.t 80) (.t 84) 8), og 86 73 true (.ld (.t 85) (some 8)), og 87 73 true (.pc 83 [(.t 78), (.t 86)]), og 88 73 true (.un .not (.t 87)), og 89 68 false (.pk (.t 73) (.t 88) (kb false)), o 90 (.pk (.t 68) (kb true) (.t 89))])
    (.cond (.t 90) (.seq (.reg 0 [o 4 (.mv (kb false))])
     .ret) .skip))))
   (.reg 0 [o 91 (.bin .add (.t 50) (ki 1)), o 50 (.mv (.t 91))])))))))
 (.seq (.reg 0 [o 4 (.mv (kb true))])
 .ret)))))))
def F34 : AFn := ⟨c34, [0, 1, 2, 4, 5, 6, 7, 8, 9, 26, 46, 48, 49, 50, 51, 90], [.tmp 4], 92⟩
theorem k34 : FnOk Try.prog 34 F34 := .of Try.f34 Try.func34 (by kernel_rfl) (by kernel_rfl) (by kernel_rfl) (by kernel_rfl)

/-- plimsoll/sane.method -/
def c35 : AC :=
 (.seq (.reg 0 [o 2 (.bx 7 (.t 0)), o 3 (.bx 8 (.t 1)), o 4 (.mv (kb false))])
 (.seq (.seq (.reg 0 [o 8 (.ld (.t 2) (some 7)), o 9 (.fa (.t 3) 0), o 10 (.ld (.t 9) none), o 11 (.fa (.t 3) 1), o 12 (.ld (.t 11) none), o 13 (.bs 1 2 [.nilsl] [(0, (.t 10)), (1, (.t 12))]), o 14 (.pc 33 [(.t 8), (.t 13)]), o 15 (.un .not (.t 14)), o 16 (.mv (.t 15)), og 17 16 false (.fa (.t 3) 2), og 18 16 false (.ld (.t 17) (some 2)), og 19 16 false (.bd [.int .i64 0, .int .i64 0] [(0, 1, (ki 5))]), og 20 16 false (.aeq true 2 (.t 18) (.t 19)), og 21 16 false (.mv (.t 20)), og 22 21 true (.ld (.t 2) (some 7)), og 23 21 true (.fa (.t 3) 2), og 24 21 true (.ld (.t 23) (some 2)), og 25 21 true (.bs 2 1 [.int .i64 0, .int .i64 0] [(0, (.t 24))]), og 26 21 true (.bs 1 1 [.nilsl] [(0, (.t 25))]), og 27 21 true (.pc 33 [(.t 22), (.t 26)]), og 28 21 true (.un .not (.t 27)), og 29 16 false (.pk (.t 21) (.t 28) (kb false)), o 30 (.pk (.t 16) (kb true) (.t 29))])
 (.cond (.t 30) (.seq (.reg 0 [o 4 (.mv (kb false))])
  .ret) .skip))
 (.seq (.seq (.reg 0 [o 31 (.fa (.t 3) 4), o 32 (.ld (.t 31) none), o 33 (.ln (.t 32)), o 34 (.bin .eql (.t 33) (ki 0)), o 35 (.mv (.t 34)), og 36 35 false (.fa (.t 3) 7), og 37 35 false (.ld (.t 36) none), og 38 35 false (.ln (.t 37)), og 39 35 false (.fa (.t 3) 4), og 40 35 false (.ld (.t 39) none), og 41 35 false (.ln (.t 40)), og 42 35 false (.bin .neq (.t 38) (.t 41)), o 43 (.pk (.t 35) (kb true) (.t 42)), o 44 (.mv (.t 43)), og 45 44 false (.fa (.t 3) 0), og 46 44 false (.ld (.t 45) none), og 47 44 false (.ln (.t 46)), og 48 44 false (.fa (.t 3) 1), og 49 44 false (.ld (.t 48) none), og 50 44 false (.ln (.t 49)), og 51 44 false (.bin .add (.t 47) (.t 50)), og 52 44 false (.bin .gtr (.t 51) (ki 8)), o 53 (.pk (.t 44) (kb true) (.t 52))])
 (.cond (.t 53) (.seq (.reg 0 [o 4 (.mv (kb false))])
  .ret) .skip))
 (.seq (.reg 0 [o 54 (.mf 84 [] [(.t 2)]), o 5 (.mv (.t 54))])
 (.seq (.seq (.reg 0 [o 55 (.fa (.t 3) 4), o 56 (.ld (.t 55) none), o 57 (.ln (.t 56)), o 58 (.mv (ki 0))])
 (.block 0 (.loop (.seq (.reg 0 [o 59 (.bin .lss (.t 58) (.t 57))])
   (.seq (.cond (.t 59) .skip (.exit 0))
   (.seq (.block 1 (.seq (.reg 0 [o 60 (.ia (.t 56) (.t 58) 3), o 61 (.ld (.t 60) (some 3)), o 7 (.al [.int .i64 0, .int .i64 0, .int .i64 0]), os (.st 3 (.t 7) (.t 61))])
    (.seq (.reg 0 [o 62 (.ld (.t 2) (some 7)), o 63 (.ld (.t 3) (some 8)), o 64 (.ld (.t 7) (some 3)), o 65 (.mv (.t 5)), o 66 (.pc 85 [(.t 62), (.t 63), (.t 64), (.t 65)]), o 67 (.un .not (.t 66))])
    (.cond (.t 67) (.seq (.reg 0 [o 4 (.mv (kb false))])
     .ret) .skip))))
   (.reg 0 [o 68 (.bin .add (.t 58) (ki 1)), o 58 (.mv (.t 68))])))))))
 (.seq (.reg 0 [o 4 (.mv (kb true))])
 .ret))))))
def F35 : AFn := ⟨c35, [0, 1, 2, 3, 4, 5, 7, 30, 53, 56, 57, 58, 59, 67], [.tmp 4], 69⟩
theorem k35 : FnOk Try.prog 35 F35 := .of Try.f35 Try.func35 (by kernel_rfl) (by kernel_rfl) (by kernel_rfl) (by kernel_rfl)

/-- plimsoll/sane.entry -/
def c36 : AC :=
 (.seq (.reg 0 [o 2 (.bx 7 (.t 0)), o 4 (.mv (kb false))])
 (.seq (.seq (.reg 0 [o 7 (.mv (.t 1)), o 8 (.fa (.t 2) 3), o 9 (.ld (.t 8) none), o 10 (.ln (.t 9)), o 11 (.pc 81 [(.t 7), (.t 10)]), o 12 (.un .not (.t 11))])
 (.cond (.t 12) (.seq (.reg 0 [o 4 (.mv (kb false))])
  .ret) .skip))
 (.seq (.reg 0 [o 13 (.fa (.t 2) 3), o 14 (.ld (.t 13) none), o 15 (.mv (.t 1)), o 16 (.ia (.t 14) (.t 15) 8), o 17 (.ld (.t 16) (some 8)), o 5 (.al [.nilsl, .nilsl, .int .i64 0, .int .i64 0, .nilsl, .int .i64 0, .int .i64 0, .nilsl]), os (.st 8 (.t 5) (.t 17))])
 (.seq (.reg 0 [o 6 (.al [.con .nilFunc]), os (.st 1 (.t 6) (.c (.fn 86 [] [])))])
 (.seq (.reg 0 [o 18 (.ld (.t 6) none), o 19 (.fa (.t 5) 2), o 20 (.ld (.t 19) (some 2)), o 21 (.dp (.t 18) [(.t 20)]), o 22 (.mv (.t 21)), og 23 22 false (.fa (.t 5) 2), og 24 22 false (.fa (.t 23) 0), og 25 22 false (.ld (.t 24) none), og 26 22 false (.bin .eql (.t 25) (ki 5)), o 27 (.pk (.t 22) (kb true) (.t 26)), o 28 (.mv (.t 27)), og 29 28 true (.fa (.t 5) 0), og 30 28 true (.ld (.t 29) none), og 31 28 true (.mf 88 [] [(.t 6)]), og 32 28 true (.pc 87 [(.t 30), (.t 31)]), og 33 28 true (.un .not (.t 32)), o 34 (.pk (.t 28) (.t 33) (kb false)), o 4 (.mv (.t 34))])
 .ret)))))
def F36 : AFn := ⟨c36, [0, 1, 2, 4, 5, 6, 12], [.tmp 4], 35⟩
theorem k36 : FnOk Try.prog 36 F36 := .of Try.f36 Try.func36 (by kernel_rfl) (by kernel_rfl) (by kernel_rfl) (by kernel_rfl)

/-- plimsoll/image.another[plimsoll/api.Type] -/
def c39 : AC :=
 (.seq (.reg 0 [o 2 (.mv (.c (.nilsl)))])
 (.seq (.reg 0 [o 3 (.mv (.t 0)), o 4 (.ec 103 [(.t 3)]), o 5 (.ec 102 [(.t 4)]), o 2 (.mv (.t 5))])
 .ret))
def F39 : AFn := ⟨c39, [0, 2], [.tmp 2], 6⟩
theorem k39 : FnOk Try.prog 39 F39 := .of Try.f39 Try.func39 (by kernel_rfl) (by kernel_rfl) (by kernel_rfl) (by kernel_rfl)

/-- plimsoll/image.another[int32] -/
def c40 : AC :=
 (.seq (.reg 0 [o 2 (.mv (.c (.nilsl)))])
 (.seq (.reg 0 [o 3 (.mv (.t 0)), o 4 (.ec 105 [(.t 3)]), o 5 (.ec 104 [(.t 4)]), o 2 (.mv (.t 5))])
 .ret))
def F40 : AFn := ⟨c40, [0, 2], [.tmp 2], 6⟩
theorem k40 : FnOk Try.prog 40 F40 := .of Try.f40 Try.func40 (by kernel_rfl) (by kernel_rfl) (by kernel_rfl) (by kernel_rfl)

/-- plimsoll/image.another[int] -/
def c41 : AC :=
 (.seq (.reg 0 [o 2 (.mv (.c (.nilsl)))])
 (.seq (.reg 0 [o 3 (.mv (.t 0)), o 4 (.ec 107 [(.t 3)]), o 5 (.ec 106 [(.t 4)]), o 2 (.mv (.t 5))])
 .ret))
def F41 : AFn := ⟨c41, [0, 2], [.tmp 2], 6⟩
theorem k41 : FnOk Try.prog 41 F41 := .of Try.f41 Try.func41 (by kernel_rfl) (by kernel_rfl) (by kernel_rfl) (by kernel_rfl)

/-- plimsoll/image.another[plimsoll/api.Instr] -/
def c42 : AC :=
 (.seq (.reg 0 [o 2 (.mv (.c (.nilsl)))])
 (.seq (.reg 0 [o 3 (.mv (.t 0)), o 4 (.ec 109 [(.t 3)]), o 5 (.ec 108 [(.t 4)]), o 2 (.mv (.t 5))])
 .ret))
def F42 : AFn := ⟨c42, [0, 2], [.tmp 2], 6⟩
theorem k42 : FnOk Try.prog 42 F42 := .of Try.f42 Try.func42 (by kernel_rfl) (by kernel_rfl) (by kernel_rfl) (by kernel_rfl)

/-- slices.Clip[[]plimsoll/api.Class,plimsoll/api.Class] -/
def c43 : AC :=
 (.seq (.reg 0 [o 2 (.mv (.c (.nilsl)))])
 (.seq (.reg 0 [o 3 (.mv (.t 0)), o 4 (.mv (.t 0)), o 5 (.ln (.t 4)), o 6 (.mv (.t 0)), o 7 (.ln (.t 6)), o 8 (.sl (.t 3) 3 none (some (.t 5)) (some (.t 7))), o 2 (.mv (.t 8))])
 .ret))
def F43 : AFn := ⟨c43, [0, 2], [.tmp 2], 9⟩
theorem k43 : FnOk Try.prog 43 F43 := .of Try.f43 Try.func43 (by kernel_rfl) (by kernel_rfl) (by kernel_rfl) (by kernel_rfl)

/-- slices.Clip[[]plimsoll/api.Method,plimsoll/api.Method] -/
def c44 : AC :=
 (.seq (.reg 0 [o 2 (.mv (.c (.nilsl)))])
 (.seq (.reg 0 [o 3 (.mv (.t 0)), o 4 (.mv (.t 0)), o 5 (.ln (.t 4)), o 6 (.mv (.t 0)), o 7 (.ln (.t 6)), o 8 (.sl (.t 3) 8 none (some (.t 5)) (some (.t 7))), o 2 (.mv (.t 8))])
 .ret))
def F44 : AFn := ⟨c44, [0, 2], [.tmp 2], 9⟩
theorem k44 : FnOk Try.prog 44 F44 := .of Try.f44 Try.func44 (by kernel_rfl) (by kernel_rfl) (by kernel_rfl) (by kernel_rfl)

/-- plimsoll/plimsollref01.Types -/
def c45 : AC :=
 (.seq (.reg 0 [o 4 (.mv (kb false))])
 (.seq (.seq (.reg 0 [o 6 (.mv (.t 0)), o 7 (.ln (.t 6)), o 8 (.mv (.t 1)), o 9 (.ln (.t 8)), o 10 (.bin .neq (.t 7) (.t 9))])
 (.cond (.t 10) (.seq (.reg 0 [o 4 (.mv (kb false))])
  .ret) .skip))
 (.seq (.seq (.reg 0 [o 5 (.mv (ki 0))])
 (.block 0 (.loop (.seq (.seq (.reg 0 [o 11 (.mv (.t 5)), o 12 (.mv (.t 0)), o 13 (.ln (.t 12)), o 14 (.bin .lss (.t 11) (.t 13))])
   (.cond (.t 14) .skip (.exit 0)))
   (.seq (.block 1 (.seq (.reg 0 [o 17 (.mv (.t 0)), o 18 (.mv (.t 5)), o 19 (.ia (.t 17) (.t 18) 2), o 20 (.ld (.t 19) (some 2)), o 21 (.mv (.t 1)), o 22 (.mv (.t 5)), o 23 (.ia (.t 21) (.t 22) 2), o 24 (.ld (.t 23) (some 2)), o 25 (.aeq true 2 (.t 20) (.t 24))])
    (.cond (.t 25) (.seq (.reg 0 [o 4 (.mv (kb false))])
     .ret) .skip)))
   (.reg 0 [o 15 (.mv (.t 5)), o 16 (.bin .add (.t 15) (ki 1)), o 5 (.mv (.t 16))]))))))
 (.seq (.reg 0 [o 4 (.mv (kb true))])
 .ret))))
def F45 : AFn := ⟨c45, [0, 1, 4, 5, 10, 14, 25], [.tmp 4], 26⟩
theorem k45 : FnOk Try.prog 45 F45 := .of Try.f45 Try.func45 (by kernel_rfl) (by kernel_rfl) (by kernel_rfl) (by kernel_rfl)

/-- slices.EqualFunc[[]plimsoll/api.Class,[]plimsoll/api.Class,plimsoll/api.Class,plimsoll/api.Class] -/
def c46 : AC :=
 (.seq (.reg 0 [o 6 (.mv (kb false))])
 (.seq (.seq (.reg 0 [o 10 (.mv (.t 0)), o 11 (.ln (.t 10)), o 12 (.mv (.t 1)), o 13 (.ln (.t 12)), o 14 (.bin .neq (.t 11) (.t 13))])
 (.cond (.t 14) (.seq (.reg 0 [o 6 (.mv (kb false))])
  .ret) .skip))
 (.seq (.seq (.reg 0 [o 15 (.mv (.t 0)), o 16 (.ln (.t 15)), o 17 (.mv (ki 0))])
 (.block 0 (.loop (.seq (.reg 0 [o 18 (.bin .lss (.t 17) (.t 16))])
   (.seq (.cond (.t 18) .skip (.exit 0))
   (.seq (.block 1 (.seq (.reg 0 [o 19 (.mv (.t 17)), o 20 (.ia (.t 15) (.t 17) 3), o 21 (.ld (.t 20) (some 3)), o 8 (.al [.int .i64 0, .nilsl, .nilsl]), o 7 (.mv (.t 19)), os (.st 3 (.t 8) (.t 21))])
    (.seq (.reg 0 [o 22 (.mv (.t 1)), o 23 (.mv (.t 7)), o 24 (.ia (.t 22) (.t 23) 3), o 25 (.ld (.t 24) (some 3)), o 9 (.al [.int .i64 0, .nilsl, .nilsl]), os (.st 3 (.t 9) (.t 25))])
    (.seq (.reg 0 [o 26 (.mv (.t 2)), o 27 (.ld (.t 8) (some 3)), o 28 (.ld (.t 9) (some 3)), o 29 (.dp (.t 26) [(.t 27), (.t 28)]), o 30 (.un .not (.t 29))])
    (.cond (.t 30) (.seq (.reg 0 [o 6 (.mv (kb false))])
     .ret) .skip)))))
   (.reg 0 [o 31 (.bin .add (.t 17) (ki 1)), o 17 (.mv (.t 31))])))))))
 (.seq (.reg 0 [o 6 (.mv (kb true))])
 .ret))))
def F46 : AFn := ⟨c46, [0, 1, 2, 6, 7, 8, 9, 14, 15, 16, 17, 18, 30], [.tmp 6], 32⟩
theorem k46 : FnOk Try.prog 46 F46 := .of Try.f46 Try.func46 (by kernel_rfl) (by kernel_rfl) (by kernel_rfl) (by kernel_rfl)

/-- plimsoll/image.sameClass -/
def c47 : AC :=
 (.seq (.reg 0 [o 2 (.bx 3 (.t 0)), o 3 (.bx 3 (.t 1)), o 4 (.mv (kb false))])
 (.seq (.reg 0 [o 5 (.fa (.t 2) 0), o 6 (.ld (.t 5) none), o 7 (.fa (.t 3) 0), o 8 (.ld (.t 7) none), o 9 (.bin .eql (.t 6) (.t 8)), o 10 (.mv (.t 9)), og 11 10 true (.fa (.t 2) 1), og 12 10 true (.ld (.t 11) none), og 13 10 true (.fa (.t 3) 1), og 14 10 true (.ld (.t 13) none), og 15 10 true (.pc 50 [(.t 12), (.t 14)]), o 16 (.pk (.t 10) (.t 15) (kb false)), o 17 (.mv (.t 16)), og 18 17 true (.fa (.t 2) 2), og 19 17 true (.ld (.t 18) none), og 20 17 true (.fa (.t 3) 2), og 21 17 true (.ld (.t 20) none), og 22 17 true (.pc 52 [(.t 19), (.t 21)]), o 23 (.pk (.t 17) (.t 22) (kb false)), o 4 (.mv (.t 23))])
 .ret))
def F47 : AFn := ⟨c47, [0, 1, 2, 3, 4], [.tmp 4], 24⟩
theorem k47 : FnOk Try.prog 47 F47 := .of Try.f47 Try.func47 (by kernel_rfl) (by kernel_rfl) (by kernel_rfl) (by kernel_rfl)

/-- slices.EqualFunc[[]plimsoll/api.Method,[]plimsoll/api.Method,plimsoll/api.Method,plimsoll/api.Method] -/
def c48 : AC :=
 (.seq (.reg 0 [o 6 (.mv (kb false))])
 (.seq (.seq (.reg 0 [o 10 (.mv (.t 0)), o 11 (.ln (.t 10)), o 12 (.mv (.t 1)), o 13 (.ln (.t 12)), o 14 (.bin .neq (.t 11) (.t 13))])
 (.cond (.t 14) (.seq (.reg 0 [o 6 (.mv (kb false))])
  .ret) .skip))
 (.seq (.seq (.reg 0 [o 15 (.mv (.t 0)), o 16 (.ln (.t 15)), o 17 (.mv (ki 0))])
 (.block 0 (.loop (.seq (.reg 0 [o 18 (.bin .lss (.t 17) (.t 16))])
   (.seq (.cond (.t 18) .skip (.exit 0))
   (.seq (.block 1 (.seq (.reg 0 [o 19 (.mv (.t 17)), o 20 (.ia (.t 15) (.t 17) 8), o 21 (.ld (.t 20) (some 8)), o 8 (.al [.nilsl, .nilsl, .int .i64 0, .int .i64 0, .nilsl, .int .i64 0, .int .i64 0, .nilsl]), o 7 (.mv (.t 19)), os (.st 8 (.t 8) (.t 21))])
    (.seq (.reg 0 [o 22 (.mv (.t 1)), o 23 (.mv (.t 7)), o 24 (.ia (.t 22) (.t 23) 8), o 25 (.ld (.t 24) (some 8)), o 9 (.al [.nilsl, .nilsl, .int .i64 0, .int .i64 0, .nilsl, .int .i64 0, .int .i64 0, .nilsl]), os (.st 8 (.t 9) (.t 25))])
    (.seq (.reg 0 [o 26 (.mv (.t 2)), o 27 (.ld (.t 8) (some 8)), o 28 (.ld (.t 9) (some 8)), o 29 (.dp (.t 26) [(.t 27), (.t 28)]), o 30 (.un .not (.t 29))])
    (.cond (.t 30) (.seq (.reg 0 [o 6 (.mv (kb false))])
     .ret) .skip)))))
   (.reg 0 [o 31 (.bin .add (.t 17) (ki 1)), o 17 (.mv (.t 31))])))))))
 (.seq (.reg 0 [o 6 (.mv (kb true))])
 .ret))))
def F48 : AFn := ⟨c48, [0, 1, 2, 6, 7, 8, 9, 14, 15, 16, 17, 18, 30], [.tmp 6], 32⟩
theorem k48 : FnOk Try.prog 48 F48 := .of Try.f48 Try.func48 (by kernel_rfl) (by kernel_rfl) (by kernel_rfl) (by kernel_rfl)

/-- plimsoll/image.sameMethod -/
def c49 : AC :=
 (.seq (.reg 0 [o 2 (.bx 8 (.t 0)), o 3 (.bx 8 (.t 1)), o 4 (.mv (kb false))])
 (.seq (.reg 0 [o 5 (.fa (.t 2) 0), o 6 (.ld (.t 5) none), o 7 (.fa (.t 3) 0), o 8 (.ld (.t 7) none), o 9 (.pc 50 [(.t 6), (.t 8)]), o 10 (.mv (.t 9)), og 11 10 true (.fa (.t 2) 1), og 12 10 true (.ld (.t 11) none), og 13 10 true (.fa (.t 3) 1), og 14 10 true (.ld (.t 13) none), og 15 10 true (.pc 50 [(.t 12), (.t 14)]), o 16 (.pk (.t 10) (.t 15) (kb false)), o 17 (.mv (.t 16)), og 18 17 true (.fa (.t 2) 2), og 19 17 true (.ld (.t 18) (some 2)), og 20 17 true (.fa (.t 3) 2), og 21 17 true (.ld (.t 20) (some 2)), og 22 17 true (.aeq false 2 (.t 19) (.t 21)), o 23 (.pk (.t 17) (.t 22) (kb false)), o 24 (.mv (.t 23)), og 25 24 true (.fa (.t 2) 4), og 26 24 true (.ld (.t 25) none), og 27 24 true (.fa (.t 3) 4), og 28 24 true (.ld (.t 27) none), og 29 24 true (.pc 110 [(.t 26), (.t 28)]), o 30 (.pk (.t 24) (.t 29) (kb false)), o 31 (.mv (.t 30)), og 32 31 true (.fa (.t 2) 5), og 33 31 true (.ld (.t 32) none), og 34 31 true (.fa (.t 3) 5), og 35 31 true (.ld (.t 34) none), og 36 31 true (.bin .eql (.t 33) (.t 35)), o 37 (.pk (.t 31) (.t 36) (kb false)), o 38 (.mv (.t 37)), og 39 38 true (.fa (.t 2) 6), og 40 38 true (.ld (.t 39) none), og 41 38 true (.fa (.t 3) 6), og 42 38 true (.ld (.t 41) none), og 43 38 true (.bin .eql (.t 40) (.t 42)), o 44 (.pk (.t 38) (.t 43) (kb false)), o 45 (.mv (.t 44)), og 46 45 true (.fa (.t 2) 7), og 47 45 true (.ld (.t 46) none), og 48 45 true (.fa (.t 3) 7), og 49 45 true (.ld (.t 48) none), og 50 45 true (.pc 52 [(.t 47), (.t 49)]), o 51 (.pk (.t 45) (.t 50) (kb false)), o 4 (.mv (.t 51))])
 .ret))
def F49 : AFn := ⟨c49, [0, 1, 2, 3, 4], [.tmp 4], 52⟩
theorem k49 : FnOk Try.prog 49 F49 := .of Try.f49 Try.func49 (by kernel_rfl) (by kernel_rfl) (by kernel_rfl) (by kernel_rfl)

/-- slices.Equal[[]plimsoll/api.Type,plimsoll/api.Type] -/
def c50 : AC :=
 (.seq (.reg 0 [o 4 (.mv (kb false))])
 (.seq (.seq (.reg 0 [o 6 (.mv (.t 0)), o 7 (.ln (.t 6)), o 8 (.mv (.t 1)), o 9 (.ln (.t 8)), o 10 (.bin .neq (.t 7) (.t 9))])
 (.cond (.t 10) (.seq (.reg 0 [o 4 (.mv (kb false))])
  .ret) .skip))
 (.seq (.seq (.reg 0 [o 11 (.mv (.t 0)), o 12 (.ln (.t 11)), o 13 (.mv (ki 0))])
 (.block 0 (.loop (.seq (.reg 0 [o 14 (.bin .lss (.t 13) (.t 12))])
   (.seq (.cond (.t 14) .skip (.exit 0))
   (.seq (.block 1 (.seq (.reg 0 [o 15 (.mv (.t 13)), o 5 (.mv (.t 15))])
    (.seq (.reg 0 [o 16 (.mv (.t 0)), o 17 (.mv (.t 5)), o 18 (.ia (.t 16) (.t 17) 2), o 19 (.ld (.t 18) (some 2)), o 20 (.mv (.t 1)), o 21 (.mv (.t 5)), o 22 (.ia (.t 20) (.t 21) 2), o 23 (.ld (.t 22) (some 2)), o 24 (.aeq true 2 (.t 19) (.t 23))])
    (.cond (.t 24) (.seq (.reg 0 [o 4 (.mv (kb false))])
     .ret) .skip))))
   (.reg 0 [o 25 (.bin .add (.t 13) (ki 1)), o 13 (.mv (.t 25))])))))))
 (.seq (.reg 0 [o 4 (.mv (kb true))])
 .ret))))
def F50 : AFn := ⟨c50, [0, 1, 4, 5, 10, 12, 13, 14, 24], [.tmp 4], 26⟩
theorem k50 : FnOk Try.prog 50 F50 := .of Try.f50 Try.func50 (by kernel_rfl) (by kernel_rfl) (by kernel_rfl) (by kernel_rfl)

/-- slices.Equal[[]int32,int32] -/
def c51 : AC :=
 (.seq (.reg 0 [o 4 (.mv (kb false))])
 (.seq (.seq (.reg 0 [o 6 (.mv (.t 0)), o 7 (.ln (.t 6)), o 8 (.mv (.t 1)), o 9 (.ln (.t 8)), o 10 (.bin .neq (.t 7) (.t 9))])
 (.cond (.t 10) (.seq (.reg 0 [o 4 (.mv (kb false))])
  .ret) .skip))
 (.seq (.seq (.reg 0 [o 11 (.mv (.t 0)), o 12 (.ln (.t 11)), o 13 (.mv (ki 0))])
 (.block 0 (.loop (.seq (.reg 0 [o 14 (.bin .lss (.t 13) (.t 12))])
   (.seq (.cond (.t 14) .skip (.exit 0))
   (.seq (.block 1 (.seq (.reg 0 [o 15 (.mv (.t 13)), o 5 (.mv (.t 15))])
    (.seq (.reg 0 [o 16 (.mv (.t 0)), o 17 (.mv (.t 5)), o 18 (.ia (.t 16) (.t 17) 1), o 19 (.ld (.t 18) none), o 20 (.mv (.t 1)), o 21 (.mv (.t 5)), o 22 (.ia (.t 20) (.t 21) 1), o 23 (.ld (.t 22) none), o 24 (.bin .neq (.t 19) (.t 23))])
    (.cond (.t 24) (.seq (.reg 0 [o 4 (.mv (kb false))])
     .ret) .skip))))
   (.reg 0 [o 25 (.bin .add (.t 13) (ki 1)), o 13 (.mv (.t 25))])))))))
 (.seq (.reg 0 [o 4 (.mv (kb true))])
 .ret))))
def F51 : AFn := ⟨c51, [0, 1, 4, 5, 10, 12, 13, 14, 24], [.tmp 4], 26⟩
theorem k51 : FnOk Try.prog 51 F51 := .of Try.f51 Try.func51 (by kernel_rfl) (by kernel_rfl) (by kernel_rfl) (by kernel_rfl)

/-- slices.Equal[[]int,int] -/
def c52 : AC :=
 (.seq (.reg 0 [o 4 (.mv (kb false))])
 (.seq (.seq (.reg 0 [o 6 (.mv (.t 0)), o 7 (.ln (.t 6)), o 8 (.mv (.t 1)), o 9 (.ln (.t 8)), o 10 (.bin .neq (.t 7) (.t 9))])
 (.cond (.t 10) (.seq (.reg 0 [o 4 (.mv (kb false))])
  .ret) .skip))
 (.seq (.seq (.reg 0 [o 11 (.mv (.t 0)), o 12 (.ln (.t 11)), o 13 (.mv (ki 0))])
 (.block 0 (.loop (.seq (.reg 0 [o 14 (.bin .lss (.t 13) (.t 12))])
   (.seq (.cond (.t 14) .skip (.exit 0))
   (.seq (.block 1 (.seq (.reg 0 [o 15 (.mv (.t 13)), o 5 (.mv (.t 15))])
    (.seq (.reg 0 [o 16 (.mv (.t 0)), o 17 (.mv (.t 5)), o 18 (.ia (.t 16) (.t 17) 1), o 19 (.ld (.t 18) none), o 20 (.mv (.t 1)), o 21 (.mv (.t 5)), o 22 (.ia (.t 20) (.t 21) 1), o 23 (.ld (.t 22) none), o 24 (.bin .neq (.t 19) (.t 23))])
    (.cond (.t 24) (.seq (.reg 0 [o 4 (.mv (kb false))])
     .ret) .skip))))
   (.reg 0 [o 25 (.bin .add (.t 13) (ki 1)), o 13 (.mv (.t 25))])))))))
 (.seq (.reg 0 [o 4 (.mv (kb true))])
 .ret))))
def F52 : AFn := ⟨c52, [0, 1, 4, 5, 10, 12, 13, 14, 24], [.tmp 4], 26⟩
theorem k52 : FnOk Try.prog 52 F52 := .of Try.f52 Try.func52 (by kernel_rfl) (by kernel_rfl) (by kernel_rfl) (by kernel_rfl)

/-- plimsoll/plimsollref08.Shapes -/
def c53 : AC :=
 (.seq (.reg 0 [o 2 (.bx 7 (.t 0)), o 4 (.mv (.c (.nilsl))), o 5 (.mv (kb false))])
 (.seq (.reg 0 [o 19 (.fa (.t 2) 3), o 20 (.ld (.t 19) none), o 21 (.mv (.t 1)), o 22 (.ia (.t 20) (.t 21) 8), o 23 (.fa (.t 22) 4), o 24 (.ld (.t 23) none), o 25 (.ln (.t 24)), o 6 (.mv (.t 25))])
 (.seq (.reg 0 [o 26 (.mv (.t 6)), o 27 (.ms 2 32 [.bool false, .nilsl] (.t 26) (.t 26)), o 7 (.mv (.t 27))])
 (.seq (.seq (.reg 0 [o 28 (.mv (.t 6)), o 29 (.bin .eql (.t 28) (ki 0))])
 (.cond (.t 29) (.seq (.reg 0 [o 4 (.mv (.c (.nilsl))), o 5 (.mv (kb false))])
  .ret) .skip))
 (.seq (.reg 0 [o 30 (.mv (.t 7)), o 31 (.ia (.t 30) (ki 0) 2), o 32 (.fa (.t 31) 0), os (.st 1 (.t 32) (kb true))])
 (.seq (.seq (.reg 0 [o 8 (.mv (ki 0))])
 (.block 0 (.loop (.seq (.seq (.reg 0 [o 33 (.mv (.t 8)), o 34 (.bin .lss (.t 33) (ki 4000))])
   (.cond (.t 34) .skip (.exit 0)))
   (.seq (.block 1 (.seq (.reg 0 [o 9 (.mv (kb false))])
    (.seq (.seq (.reg 0 [o 37 (.mv (.t 6)), o 38 (.bin .sub (.t 37) (ki 1)), o 10 (.mv (.t 38))])
    (.block 2 (.loop (.seq (.seq (.reg 0 [o 39 (.mv (.t 10)), o 40 (.bin .geq (.t 39) (ki 0))])
      (.cond (.t 40) .skip (.exit 2)))
      (.seq (.block 3 (.seq (.seq (.reg 0 [o 43 (.mv (.t 7)), o 44 (.mv (.t 10)), o 45 (.ia (.t 43) (.t 44) 2), o 46 (.fa (.t 45) 0), o 47 (.ld (.t 46) none), o 48 (.un .not (.t 47))])
       (.cond (.t 48) (.exit 3) .skip))
       (.seq (.reg 0 [o 50 (.ld (.t 2) (some 7)), o 51 (.mv (.t 1)), o 52 (.mv (.t 10)), o 53 (.mv (.t 7)), o 54 (.mv (.t 10)), o 55 (.ia (.t 53) (.t 54) 2), o 56 (.fa (.t 55) 1), o 57 (.ld (.t 56) none), o 58 (.pc 111 [(.t 50), (.t 51), (.t 52), (.t 57)]), o 49 (.mv (.t 58)), o 59 (.ex (.t 49) 0), o 60 (.ex (.t 49) 1), o 61 (.ex (.t 49) 2), o 11 (.mv (.t 59)), o 12 (.mv (.t 60)), o 13 (.mv (.t 61))])
       (.seq (.seq (.reg 0 [o 62 (.mv (.t 13)), o 63 (.bin .neq (.t 62) (ki 0))])
       (.cond (.t 63) (.seq (.reg 0 [o 4 (.mv (.c (.nilsl))), o 5 (.mv (kb false))])
        .ret) .skip))
       (.seq (.reg 0 [o 14 (.mv (ki 0))])
       (.block 4 (.loop (.seq (.seq (.reg 0 [o 64 (.mv (.t 14)), o 65 (.mv (.t 12)), o 66 (.ln (.t 65)), o 67 (.bin .lss (.t 64) (.t 66))])
         (.cond (.t 67) .skip (.exit 4)))
         (.seq (.block 5 (.seq (.reg 0 [o 70 (.mv (.t 12)), o 71 (.mv (.t 14)), o 72 (.ia (.t 70) (.t 71) 1), o 73 (.ld (.t 72) none), o 15 (.mv (.t 73))])
          (.seq (.seq (.reg 0 [o 74 (.mv (.t 7)), o 75 (.mv (.t 15)), o 76 (.ia (.t 74) (.t 75) 2), o 77 (.fa (.t 76) 0), o 78 (.ld (.t 77) none), o 79 (.un .not (.t 78))])
          (.cond (.t 79) (.seq (.reg 0 [o 80 (.mv (.t 7)), o 81 (.mv (.t 15)), o 82 (.mv (.t 11)), o 83 (.bd [.bool false, .nilsl] [(0, 1, (kb true)), (1, 1, (.t 82))]), o 84 (.ia (.t 80) (.t 81) 2), os (.st 2 (.t 84) (.t 83))])
           (.seq (.reg 0 [o 9 (.mv (kb true))])
           (.exit 5))) .skip))
          (.seq (.seq (.reg 0 [o 85 (.mv (.t 7)), o 86 (.mv (.t 15)), o 87 (.ia (.t 85) (.t 86) 2), o 88 (.fa (.t 87) 1), o 89 (.ld (.t 88) none), o 90 (.ln (.t 89)), o 91 (.mv (.t 11)), o 92 (.ln (.t 91)), o 93 (.bin .neq (.t 90) (.t 92))])
          (.cond (.t 93) (.seq (.reg 0 [o 4 (.mv (.c (.nilsl))), o 5 (.mv (kb false))])
           .ret) .skip))
          (.seq (.reg 0 [o 94 (.bs 2 0 [.int .i64 0, .int .i64 0] []), o 16 (.mv (.t 94))])
          (.seq (.seq (.reg 0 [o 17 (.mv (ki 0))])
          (.block 6 (.loop (.seq (.seq (.reg 0 [o 95 (.mv (.t 17)), o 96 (.mv (.t 11)), o 97 (.ln (.t 96)), o 98 (.bin .lss (.t 95) (.t 97))])
            (.cond (.t 98) .skip (.exit 6)))
            (.seq (.block 7 (.seq (.reg 1 [o 101 (.fa (.t 2) 0), ⟨some 102, none, none, true, .ld (.t 101) none⟩, o 103 (.mv (.t 7)), o 104 (.mv (.t 15)), o 105 (.ia (.t 103) (.t 104) 2), o 106 (.fa (.t 105) 1), ⟨some 107, none, none, true, .ld (.t 106) none⟩, o 108 (.mv (.t 17)), o 109 (.ia (.t 107) (.t 108) 2), ⟨some 110, none, none, true, .ld (.t 109) (some 2)⟩, o 111 (.mv (.t 11)), o 112 (.mv (.t 17)), o 113 (.ia (.t 111) (.t 112) 2), ⟨some 114, none, none, true, .ld (.t 113) (some 2)⟩, ⟨some 115, none, none, true, .pc 112 [(.t 102), (.t 110), (.t 114)]⟩, ⟨some 18, none, some 0, false, .al [.int .i64 0, .int .i64 0]⟩, os (.st 2 (.t 18) (.t 115))])
             (.seq (.seq (.reg 0 [o 116 (.fa (.t 18) 0), o 117 (.ld (.t 116) none), o 118 (.bin .eql (.t 117) (ki 0))])
             (.cond (.t 118) (.seq (.reg 0 [o 4 (.mv (.c (.nilsl))), o 5 (.mv (kb false))])
              .ret) .skip))
             (.reg 0 [o 119 (.mv (.t 16)), o 120 (.ld (.t 18) (some 2)), o 121 (.bs 2 1 [.int .i64 0, .int .i64 0] [(0, (.t 120))]), o 122 (.ap 2 16 [.int .i64 0, .int .i64 0] (.t 119) (.t 121)), o 16 (.mv (.t 122))]))))
            (.reg 0 [o 99 (.mv (.t 17)), o 100 (.bin .add (.t 99) (ki 1)), o 17 (.mv (.t 100))]))))))
          (.seq (.reg 0 [o 123 (.mv (.t 16)), o 124 (.mv (.t 7)), o 125 (.mv (.t 15)), o 126 (.ia (.t 124) (.t 125) 2), o 127 (.fa (.t 126) 1), o 128 (.ld (.t 127) none), o 129 (.pc 45 [(.t 123), (.t 128)]), o 130 (.un .not (.t 129))])
          (.cond (.t 130) (.seq (.reg 0 [o 131 (.mv (.t 7)), o 132 (.mv (.t 15)), o 133 (.mv (.t 16)), o 134 (.bd [.bool false, .nilsl] [(0, 1, (kb true)), (1, 1, (.t 133))]), o 135 (.ia (.t 131) (.t 132) 2), os (.st 2 (.t 135) (.t 134))])
           (.reg 0 [o 9 (.mv (kb true))])) .skip))))))))
         (.reg 0 [o 68 (.mv (.t 14)), o 69 (.bin .add (.t 68) (ki 1)), o 14 (.mv (.t 69))]))))))))))
      (.reg 0 [o 41 (.mv (.t 10)), o 42 (.bin .sub (.t 41) (ki 1)), o 10 (.mv (.t 42))]))))))
    (.seq (.reg 0 [o 136 (.mv (.t 9)), o 137 (.un .not (.t 136))])
    (.cond (.t 137) (.seq (.reg 0 [o 138 (.mv (.t 7)), o 4 (.mv (.t 138)), o 5 (.mv (kb true))])
     .ret) .skip)))))
   (.reg 0 [o 35 (.mv (.t 8)), o 36 (.bin .add (.t 35) (ki 1)), o 8 (.mv (.t 36))]))))))
 (.seq (.reg 0 [o 4 (.mv (.c (.nilsl))), o 5 (.mv (kb false))])
 .ret)))))))
def F53 : AFn := ⟨c53, [0, 1, 2, 4, 5, 6, 7, 8, 9, 10, 11, 12, 13, 14, 15, 16, 17, 18, 29, 34, 40, 48, 63, 67, 79, 93, 98, 118, 130, 137], [.tmp 4, .tmp 5], 139⟩
theorem k53 : FnOk Try.prog 53 F53 := .of Try.f53 Try.func53 (by kernel_rfl) (by kernel_rfl) (by kernel_rfl) (by kernel_rfl)

/-- plimsoll/calls.Of -/
def c54 : AC :=
 (.seq (.reg 0 [o 2 (.bx 7 (.t 0)), o 4 (.mv (.c (.nilsl)))])
 (.seq (.seq (.reg 0 [o 8 (.mv (.t 1)), o 9 (.bin .lss (.t 8) (ki 0)), o 10 (.mv (.t 9)), og 11 10 false (.mv (.t 1)), og 12 10 false (.fa (.t 2) 3), og 13 10 false (.ld (.t 12) none), og 14 10 false (.ln (.t 13)), og 15 10 false (.bin .geq (.t 11) (.t 14)), o 16 (.pk (.t 10) (kb true) (.t 15))])
 (.cond (.t 16) (.seq (.reg 0 [o 4 (.mv (.c (.nilsl)))])
  .ret) .skip))
 (.seq (.reg 0 [o 5 (.mv (.c (.nilsl)))])
 (.seq (.seq (.reg 0 [o 17 (.fa (.t 2) 3), o 18 (.ld (.t 17) none), o 19 (.mv (.t 1)), o 20 (.ia (.t 18) (.t 19) 8), o 21 (.fa (.t 20) 4), o 22 (.ld (.t 21) none), o 23 (.ln (.t 22)), o 24 (.mv (ki 0))])
 (.block 0 (.loop (.seq (.reg 0 [o 25 (.bin .lss (.t 24) (.t 23))])
   (.seq (.cond (.t 25) .skip (.exit 0))
   (.seq (.block 1 (.seq (.reg 0 [o 26 (.ia (.t 22) (.t 24) 3), o 27 (.ld (.t 26) (some 3)), o 7 (.al [.int .i64 0, .int .i64 0, .int .i64 0]), os (.st 3 (.t 7) (.t 27))])
    (.reg 0 [o 28 (.mv (.t 5)), o 29 (.ld (.t 2) (some 7)), o 30 (.ld (.t 7) (some 3)), o 31 (.pc 113 [(.t 29), (.t 30)]), o 32 (.ap 1 8 [.int .i64 0] (.t 28) (.t 31)), o 5 (.mv (.t 32))])))
   (.reg 0 [o 33 (.bin .add (.t 24) (ki 1)), o 24 (.mv (.t 33))])))))))
 (.seq (.reg 0 [o 34 (.mv (.t 5)), o 35 (.ec 114 [(.t 34)])])
 (.seq (.reg 0 [o 36 (.mv (.t 5)), o 37 (.ec 115 [(.t 36)]), o 38 (.ec 106 [(.t 37)]), o 4 (.mv (.t 38))])
 .ret))))))
def F54 : AFn := ⟨c54, [0, 1, 2, 4, 5, 7, 16, 22, 23, 24, 25], [.tmp 4], 39⟩
theorem k54 : FnOk Try.prog 54 F54 := .of Try.f54 Try.func54 (by kernel_rfl) (by kernel_rfl) (by kernel_rfl) (by kernel_rfl)

/-- plimsoll/scc.Rings -/
def c55 : AC :=
 (.seq (.reg 0 [o 2 (.mv (.c (.nilsl)))])
 (.seq (.reg 0 [o 6 (.mv (.t 0)), o 7 (.ln (.t 6)), o 3 (.mv (.t 7))])
 (.seq (.reg 3 [o 8 (.mv (.t 0)), o 9 (.mv (.t 3)), ⟨some 10, none, some 0, false, .ms 1 8 [.int .i64 0] (.t 9) (.t 9)⟩, o 11 (.mv (.t 3)), ⟨some 12, none, some 1, false, .ms 1 8 [.int .i64 0] (.t 11) (.t 11)⟩, o 13 (.mv (.t 3)), ⟨some 14, none, some 2, false, .ms 1 1 [.bool false] (.t 13) (.t 13)⟩, o 15 (.bd [.nilsl, .nilsl, .nilsl, .nilsl, .nilsl, .int .i64 0, .nilsl] [(0, 1, (.t 8)), (1, 1, (.t 10)), (2, 1, (.t 12)), (3, 1, (.t 14))]), o 16 (.bx 7 (.t 15)), o 4 (.mv (.t 16))])
 (.seq (.seq (.reg 0 [o 17 (.mv (.t 0)), o 18 (.ln (.t 17)), o 19 (.mv (ki 0))])
 (.block 0 (.loop (.seq (.reg 0 [o 20 (.bin .lss (.t 19) (.t 18))])
   (.seq (.cond (.t 20) .skip (.exit 0))
   (.seq (.block 1 (.seq (.reg 0 [o 21 (.mv (.t 19)), o 5 (.mv (.t 21))])
    (.seq (.reg 0 [o 22 (.mv (.t 4)), o 23 (.nc (.t 22)), o 24 (.fa (.t 23) 1), o 25 (.ld (.t 24) none), o 26 (.mv (.t 5)), o 27 (.ia (.t 25) (.t 26) 1), o 28 (.ld (.t 27) none), o 29 (.bin .eql (.t 28) (ki 0))])
    (.cond (.t 29) (.reg 0 [o 30 (.mv (.t 4)), o 31 (.mv (.t 5)), o 32 (.ec 116 [(.t 30), (.t 31)])]) .skip))))
   (.reg 0 [o 33 (.bin .add (.t 19) (ki 1)), o 19 (.mv (.t 33))])))))))
 (.seq (.reg 0 [o 34 (.mv (.t 4)), o 35 (.nc (.t 34)), o 36 (.fa (.t 35) 6), o 37 (.ld (.t 36) none), o 38 (.ec 117 [(.t 37)]), o 2 (.mv (.t 38))])
 .ret)))))
def F55 : AFn := ⟨c55, [0, 2, 3, 4, 5, 18, 19, 20, 29], [.tmp 2], 39⟩
theorem k55 : FnOk Try.prog 55 F55 := .of Try.f55 Try.func55 (by kernel_rfl) (by kernel_rfl) (by kernel_rfl) (by kernel_rfl)

/-- plimsoll/scc.Cyclic -/
def c56 : AC :=
 (.seq (.reg 0 [o 3 (.bx 1 (.t 1)), o 4 (.mv (kb false))])
 (.seq (.seq (.reg 0 [o 7 (.ld (.t 3) none), o 8 (.ln (.t 7)), o 9 (.mv (ki 0))])
 (.block 0 (.loop (.seq (.reg 0 [o 10 (.bin .lss (.t 9) (.t 8))])
   (.seq (.cond (.t 10) .skip (.exit 0))
   (.seq (.block 1 (.seq (.reg 0 [o 11 (.ia (.t 7) (.t 9) 1), o 12 (.ld (.t 11) none), o 6 (.mv (.t 12))])
    (.seq (.seq (.reg 0 [o 13 (.mv (.t 6)), o 14 (.bin .lss (.t 13) (ki 0)), o 15 (.mv (.t 14)), og 16 15 false (.mv (.t 6)), og 17 15 false (.mv (.t 0)), og 18 15 false (.ln (.t 17)), og 19 15 false (.bin .geq (.t 16) (.t 18)), o 20 (.pk (.t 15) (kb true) (.t 19))])
    (.cond (.t 20) (.exit 1) .skip))
    (.seq (.reg 0 [o 21 (.mv (.t 0)), o 22 (.mv (.t 6)), o 23 (.ia (.t 21) (.t 22) 1), o 24 (.ld (.t 23) none), o 25 (.mf 119 [] [(.t 3)]), o 26 (.pc 118 [(.t 24), (.t 25)])])
    (.cond (.t 26) (.seq (.reg 0 [o 4 (.mv (kb true))])
     .ret) .skip)))))
   (.reg 0 [o 27 (.bin .add (.t 9) (ki 1)), o 9 (.mv (.t 27))])))))))
 (.seq (.reg 0 [o 4 (.mv (kb false))])
 .ret)))
def F56 : AFn := ⟨c56, [0, 1, 3, 4, 6, 7, 8, 9, 10, 20, 26], [.tmp 4], 28⟩
theorem k56 : FnOk Try.prog 56 F56 := .of Try.f56 Try.func56 (by kernel_rfl) (by kernel_rfl) (by kernel_rfl) (by kernel_rfl)

/-- slices.Contains[[]int,int] -/
def c57 : AC :=
 (.seq (.reg 0 [o 4 (.mv (kb false))])
 (.seq (.reg 0 [o 5 (.mv (.t 0)), o 6 (.mv (.t 1)), o 7 (.pc 120 [(.t 5), (.t 6)]), o 8 (.bin .geq (.t 7) (ki 0)), o 4 (.mv (.t 8))])
 .ret))
def F57 : AFn := ⟨c57, [0, 1, 4], [.tmp 4], 9⟩
theorem k57 : FnOk Try.prog 57 F57 := .of Try.f57 Try.func57 (by kernel_rfl) (by kernel_rfl) (by kernel_rfl) (by kernel_rfl)

/-- plimsoll/typer.Deep -/
def c58 : AC :=
 (.seq (.reg 0 [o 4 (.mv (ki 0))])
 (.seq (.seq (.reg 0 [o 8 (.mv (.t 1)), o 9 (.bin .lss (.t 8) (ki 0)), o 10 (.mv (.t 9)), og 11 10 false (.mv (.t 1)), og 12 10 false (.mv (.t 0)), og 13 10 false (.ln (.t 12)), og 14 10 false (.bin .geq (.t 11) (.t 13)), o 15 (.pk (.t 10) (kb true) (.t 14))])
 (.cond (.t 15) (.seq (.reg 0 [o 4 (.mv (ki 0))])
  .ret) .skip))
 (.seq (.reg 0 [o 5 (.mv (ki 0))])
 (.seq (.seq (.reg 0 [o 16 (.mv (.t 0)), o 17 (.mv (.t 1)), o 18 (.ia (.t 16) (.t 17) 1), o 19 (.ld (.t 18) none), o 20 (.ln (.t 19)), o 21 (.mv (ki 0))])
 (.block 0 (.loop (.seq (.reg 0 [o 22 (.bin .lss (.t 21) (.t 20))])
   (.seq (.cond (.t 22) .skip (.exit 0))
   (.seq (.block 1 (.seq (.reg 0 [o 23 (.ia (.t 19) (.t 21) 2), o 24 (.ld (.t 23) (some 2)), o 7 (.al [.bool false, .nilsl]), os (.st 2 (.t 7) (.t 24))])
    (.reg 0 [o 25 (.mv (.t 5)), o 26 (.fa (.t 7) 1), o 27 (.ld (.t 26) none), o 28 (.ln (.t 27)), o 29 (.mx true (.t 25) [(.t 28)]), o 5 (.mv (.t 29))])))
   (.reg 0 [o 30 (.bin .add (.t 21) (ki 1)), o 21 (.mv (.t 30))])))))))
 (.seq (.reg 0 [o 31 (.mv (.t 5)), o 4 (.mv (.t 31))])
 .ret)))))
def F58 : AFn := ⟨c58, [0, 1, 4, 5, 7, 15, 19, 20, 21, 22], [.tmp 4], 32⟩
theorem k58 : FnOk Try.prog 58 F58 := .of Try.f58 Try.func58 (by kernel_rfl) (by kernel_rfl) (by kernel_rfl) (by kernel_rfl)

/-- plimsoll/plimsollref01.In -/
def c59 : AC :=
 (.seq (.reg 0 [o 4 (.mv (kb false))])
 (.seq (.seq (.reg 0 [o 5 (.mv (ki 0))])
 (.block 0 (.loop (.seq (.seq (.reg 0 [o 6 (.mv (.t 5)), o 7 (.mv (.t 0)), o 8 (.ln (.t 7)), o 9 (.bin .lss (.t 6) (.t 8))])
   (.cond (.t 9) .skip (.exit 0)))
   (.seq (.block 1 (.seq (.reg 0 [o 12 (.mv (.t 0)), o 13 (.mv (.t 5)), o 14 (.ia (.t 12) (.t 13) 1), o 15 (.ld (.t 14) none), o 16 (.mv (.t 1)), o 17 (.bin .eql (.t 15) (.t 16))])
    (.cond (.t 17) (.seq (.reg 0 [o 4 (.mv (kb true))])
     .ret) .skip)))
   (.reg 0 [o 10 (.mv (.t 5)), o 11 (.bin .add (.t 10) (ki 1)), o 5 (.mv (.t 11))]))))))
 (.seq (.reg 0 [o 4 (.mv (kb false))])
 .ret)))
def F59 : AFn := ⟨c59, [0, 1, 4, 5, 9, 17], [.tmp 4], 18⟩
theorem k59 : FnOk Try.prog 59 F59 := .of Try.f59 Try.func59 (by kernel_rfl) (by kernel_rfl) (by kernel_rfl) (by kernel_rfl)

/-- plimsoll/plimsollref08.Targets -/
def c60 : AC :=
 (.seq (.reg 0 [o 2 (.bx 7 (.t 0)), o 3 (.bx 3 (.t 1)), o 4 (.mv (.c (.nilsl)))])
 (.seq (.reg 0 [o 10 (.bs 1 0 [.int .i64 0] []), o 5 (.mv (.t 10))])
 (.seq (.seq (.reg 0 [o 11 (.fa (.t 3) 0), o 12 (.ld (.t 11) none), o 13 (.bin .eql (.t 12) (ki 31))])
 (.cond (.t 13) (.reg 0 [o 14 (.mv (.t 5)), o 15 (.fa (.t 3) 1), o 16 (.ld (.t 15) none), o 17 (.bs 1 1 [.int .i64 0] [(0, (.t 16))]), o 18 (.ap 1 8 [.int .i64 0] (.t 14) (.t 17)), o 5 (.mv (.t 18))]) .skip))
 (.seq (.seq (.reg 0 [o 19 (.fa (.t 3) 0), o 20 (.ld (.t 19) none), o 21 (.bin .eql (.t 20) (ki 32))])
 (.cond (.t 21) (.seq (.reg 0 [o 22 (.ld (.t 2) (some 7)), o 23 (.fa (.t 3) 1), o 24 (.ld (.t 23) none), o 25 (.pc 121 [(.t 22), (.t 24)]), o 6 (.mv (.t 25))])
  (.seq (.reg 0 [o 7 (.mv (ki 0))])
  (.block 0 (.loop (.seq (.seq (.reg 0 [o 26 (.mv (.t 7)), o 27 (.mv (.t 6)), o 28 (.ln (.t 27)), o 29 (.bin .lss (.t 26) (.t 28))])
    (.cond (.t 29) .skip (.exit 0)))
    (.seq (.block 1 (.seq (.reg 0 [o 33 (.ld (.t 2) (some 7)), o 34 (.mv (.t 6)), o 35 (.mv (.t 7)), o 36 (.ia (.t 34) (.t 35) 1), o 37 (.ld (.t 36) none), o 38 (.fa (.t 3) 2), o 39 (.ld (.t 38) none), o 40 (.pc 122 [(.t 33), (.t 37), (.t 39)]), o 32 (.mv (.t 40)), o 41 (.ex (.t 32) 0), o 42 (.ex (.t 32) 1), o 8 (.mv (.t 41)), o 9 (.mv (.t 42))])
     (.seq (.reg 0 [o 43 (.mv (.t 9))])
     (.cond (.t 43) (.reg 0 [o 44 (.mv (.t 5)), o 45 (.mv (.t 8)), o 46 (.bs 1 1 [.int .i64 0] [(0, (.t 45))]), o 47 (.ap 1 8 [.int .i64 0] (.t 44) (.t 46)), o 5 (.mv (.t 47))]) .skip))))
    (.reg 0 [o 30 (.mv (.t 7)), o 31 (.bin .add (.t 30) (ki 1)), o 7 (.mv (.t 31))]))))))) .skip))
 (.seq (.reg 0 [o 48 (.mv (.t 5)), o 4 (.mv (.t 48))])
 .ret)))))
def F60 : AFn := ⟨c60, [0, 1, 2, 3, 4, 5, 6, 7, 8, 9, 13, 21, 29, 43], [.tmp 4], 49⟩
theorem k60 : FnOk Try.prog 60 F60 := .of Try.f60 Try.func60 (by kernel_rfl) (by kernel_rfl) (by kernel_rfl) (by kernel_rfl)

/-- plimsoll/plimsollref05.types -/
def c61 : AC :=
 (.seq (.reg 0 [o 4 (.mv (kb false))])
 (.seq (.seq (.reg 0 [o 6 (.mv (.t 0)), o 7 (.ln (.t 6)), o 8 (.mv (.t 1)), o 9 (.bin .gtr (.t 7) (.t 8))])
 (.cond (.t 9) (.seq (.reg 0 [o 4 (.mv (kb false))])
  .ret) .skip))
 (.seq (.seq (.reg 0 [o 5 (.mv (ki 0))])
 (.block 0 (.loop (.seq (.seq (.reg 0 [o 10 (.mv (.t 5)), o 11 (.mv (.t 0)), o 12 (.ln (.t 11)), o 13 (.bin .lss (.t 10) (.t 12))])
   (.cond (.t 13) .skip (.exit 0)))
   (.seq (.block 1 (.seq (.reg 0 [o 16 (.mv (.t 0)), o 17 (.mv (.t 5)), o 18 (.ia (.t 16) (.t 17) 2), o 19 (.ld (.t 18) (some 2)), o 20 (.pc 64 [(.t 19)]), o 21 (.un .not (.t 20))])
    (.cond (.t 21) (.seq (.reg 0 [o 4 (.mv (kb false))])
     .ret) .skip)))
   (.reg 0 [o 14 (.mv (.t 5)), o 15 (.bin .add (.t 14) (ki 1)), o 5 (.mv (.t 15))]))))))
 (.seq (.reg 0 [o 4 (.mv (kb true))])
 .ret))))
def F61 : AFn := ⟨c61, [0, 1, 4, 5, 9, 13, 21], [.tmp 4], 22⟩
theorem k61 : FnOk Try.prog 61 F61 := .of Try.f61 Try.func61 (by kernel_rfl) (by kernel_rfl) (by kernel_rfl) (by kernel_rfl)

/-- plimsoll/plimsollref05.list -/
def c62 : AC :=
 (.seq (.reg 0 [o 6 (.mv (kb false))])
 (.seq (.seq (.reg 0 [o 8 (.mv (.t 0)), o 9 (.ln (.t 8)), o 10 (.mv (.t 1)), o 11 (.bin .gtr (.t 9) (.t 10))])
 (.cond (.t 11) (.seq (.reg 0 [o 6 (.mv (kb false))])
  .ret) .skip))
 (.seq (.seq (.reg 0 [o 7 (.mv (ki 0))])
 (.block 0 (.loop (.seq (.seq (.reg 0 [o 12 (.mv (.t 7)), o 13 (.mv (.t 0)), o 14 (.ln (.t 13)), o 15 (.bin .lss (.t 12) (.t 14))])
   (.cond (.t 15) .skip (.exit 0)))
   (.seq (.block 1 (.seq (.reg 0 [o 18 (.mv (.t 0)), o 19 (.mv (.t 7)), o 20 (.ia (.t 18) (.t 19) 1), o 21 (.ld (.t 20) none), o 22 (.mv (.t 2)), o 23 (.pc 63 [(.t 21), (ki 0), (.t 22)]), o 24 (.un .not (.t 23))])
    (.cond (.t 24) (.seq (.reg 0 [o 6 (.mv (kb false))])
     .ret) .skip)))
   (.reg 0 [o 16 (.mv (.t 7)), o 17 (.bin .add (.t 16) (ki 1)), o 7 (.mv (.t 17))]))))))
 (.seq (.reg 0 [o 6 (.mv (kb true))])
 .ret))))
def F62 : AFn := ⟨c62, [0, 1, 2, 6, 7, 11, 15, 24], [.tmp 6], 25⟩
theorem k62 : FnOk Try.prog 62 F62 := .of Try.f62 Try.func62 (by kernel_rfl) (by kernel_rfl) (by kernel_rfl) (by kernel_rfl)

/-- plimsoll/plimsollref05.in -/
def c63 : AC :=
 (.seq (.reg 0 [o 6 (.mv (kb false))])
 (.seq (.reg 0 [o 7 (.mv (.t 0)), o 8 (.mv (.t 1)), o 9 (.bin .geq (.t 7) (.t 8)), o 10 (.mv (.t 9)), og 11 10 true (.mv (.t 0)), og 12 10 true (.mv (.t 2)), og 13 10 true (.bin .leq (.t 11) (.t 12)), o 14 (.pk (.t 10) (.t 13) (kb false)), o 6 (.mv (.t 14))])
 .ret))
def F63 : AFn := ⟨c63, [0, 1, 2, 6], [.tmp 6], 15⟩
theorem k63 : FnOk Try.prog 63 F63 := .of Try.f63 Try.func63 (by kernel_rfl) (by kernel_rfl) (by kernel_rfl) (by kernel_rfl)

/-- plimsoll/plimsollref05.typ -/
def c64 : AC :=
 (.seq (.reg 0 [o 1 (.bx 2 (.t 0)), o 2 (.mv (kb false))])
 (.seq (.reg 0 [o 3 (.fa (.t 1) 0), o 4 (.ld (.t 3) none), o 5 (.pc 63 [(.t 4), (ki 0), (ki 5)]), o 6 (.mv (.t 5)), og 7 6 true (.fa (.t 1) 1), og 8 6 true (.ld (.t 7) none), og 9 6 true (.bin .eql (.t 8) (ki 0)), og 10 6 true (.mv (.t 9)), og 11 10 false (.fa (.t 1) 0), og 12 10 false (.ld (.t 11) none), og 13 10 false (.bin .eql (.t 12) (ki 3)), og 14 10 false (.mv (.t 13)), og 15 14 true (.fa (.t 1) 1), og 16 14 true (.ld (.t 15) none), og 17 14 true (.pc 63 [(.t 16), (ki 0), (ki 7)]), og 18 10 false (.pk (.t 14) (.t 17) (kb false)), og 19 6 true (.pk (.t 10) (kb true) (.t 18)), o 20 (.pk (.t 6) (.t 19) (kb false)), o 2 (.mv (.t 20))])
 .ret))
def F64 : AFn := ⟨c64, [0, 1, 2], [.tmp 2], 21⟩
theorem k64 : FnOk Try.prog 64 F64 := .of Try.f64 Try.func64 (by kernel_rfl) (by kernel_rfl) (by kernel_rfl) (by kernel_rfl)

/-- plimsoll/plimsollref01.Instr -/
def c65 : AC :=
 (.seq (.reg 0 [o 1 (.bx 3 (.t 0)), o 2 (.mv (kb false))])
 (.seq (.reg 0 [o 4 (.fa (.t 1) 0), o 5 (.ld (.t 4) none), o 6 (.pc 123 [(.t 5)]), o 3 (.mv (.t 6))])
 (.seq (.seq (.reg 0 [o 7 (.mv (.t 3)), o 8 (.bin .lss (.t 7) (ki 0)), o 9 (.mv (.t 8)), og 10 9 false (.mv (.t 3)), og 11 9 false (.bin .lss (.t 10) (ki 1)), og 12 9 false (.mv (.t 11)), og 13 12 true (.fa (.t 1) 1), og 14 12 true (.ld (.t 13) none), og 15 12 true (.bin .neq (.t 14) (ki 0)), og 16 9 false (.pk (.t 12) (.t 15) (kb false)), o 17 (.pk (.t 9) (kb true) (.t 16)), o 18 (.mv (.t 17)), og 19 18 false (.mv (.t 3)), og 20 18 false (.bin .lss (.t 19) (ki 2)), og 21 18 false (.mv (.t 20)), og 22 21 true (.fa (.t 1) 2), og 23 21 true (.ld (.t 22) none), og 24 21 true (.bin .neq (.t 23) (ki 0)), og 25 18 false (.pk (.t 21) (.t 24) (kb false)), o 26 (.pk (.t 18) (kb true) (.t 25))])
 (.cond (.t 26) (.seq (.reg 0 [o 2 (.mv (kb false))])
  .ret) .skip))
 (.seq (.reg 0 [o 27 (.fa (.t 1) 1), o 28 (.ld (.t 27) none), o 29 (.bin .geq (.t 28) (ki 0)), o 30 (.mv (.t 29)), og 31 30 true (.fa (.t 1) 1), og 32 30 true (.ld (.t 31) none), og 33 30 true (.bin .leq (.t 32) (ki 255)), o 34 (.pk (.t 30) (.t 33) (kb false)), o 35 (.mv (.t 34)), og 36 35 true (.fa (.t 1) 2), og 37 35 true (.ld (.t 36) none), og 38 35 true (.bin .geq (.t 37) (ki 0)), o 39 (.pk (.t 35) (.t 38) (kb false)), o 40 (.mv (.t 39)), og 41 40 true (.fa (.t 1) 2), og 42 40 true (.ld (.t 41) none), og 43 40 true (.bin .leq (.t 42) (ki 255)), o 44 (.pk (.t 40) (.t 43) (kb false)), o 2 (.mv (.t 44))])
 .ret))))
def F65 : AFn := ⟨c65, [0, 1, 2, 3, 26], [.tmp 2], 45⟩
theorem k65 : FnOk Try.prog 65 F65 := .of Try.f65 Try.func65 (by kernel_rfl) (by kernel_rfl) (by kernel_rfl) (by kernel_rfl)

/-- plimsoll/plimsollref01.Good -/
def c66 : AC :=
 (.seq (.reg 0 [o 2 (.bx 2 (.t 0)), o 4 (.mv (kb false))])
 (.seq (.reg 0 [o 5 (.fa (.t 2) 0), o 6 (.ld (.t 5) none), o 7 (.bin .eql (.t 6) (ki 1)), o 8 (.mv (.t 7)), og 9 8 false (.fa (.t 2) 0), og 10 8 false (.ld (.t 9) none), og 11 8 false (.bin .eql (.t 10) (ki 2)), o 12 (.pk (.t 8) (kb true) (.t 11)), o 13 (.mv (.t 12)), og 14 13 true (.fa (.t 2) 1), og 15 13 true (.ld (.t 14) none), og 16 13 true (.bin .eql (.t 15) (ki 0)), o 17 (.pk (.t 13) (.t 16) (kb false)), o 18 (.mv (.t 17)), og 19 18 false (.fa (.t 2) 0), og 20 18 false (.ld (.t 19) none), og 21 18 false (.bin .eql (.t 20) (ki 3)), og 22 18 false (.mv (.t 21)), og 23 22 true (.fa (.t 2) 1), og 24 22 true (.ld (.t 23) none), og 25 22 true (.bin .geq (.t 24) (ki 0)), og 26 18 false (.pk (.t 22) (.t 25) (kb false)), og 27 18 false (.mv (.t 26)), og 28 27 true (.fa (.t 2) 1), og 29 27 true (.ld (.t 28) none), og 30 27 true (.mv (.t 1)), og 31 27 true (.bin .lss (.t 29) (.t 30)), og 32 18 false (.pk (.t 27) (.t 31) (kb false)), o 33 (.pk (.t 18) (kb true) (.t 32)), o 4 (.mv (.t 33))])
 .ret))
def F66 : AFn := ⟨c66, [0, 1, 2, 4], [.tmp 4], 34⟩
theorem k66 : FnOk Try.prog 66 F66 := .of Try.f66 Try.func66 (by kernel_rfl) (by kernel_rfl) (by kernel_rfl) (by kernel_rfl)

/-- plimsoll/plimsollref05.Fields -/
def c67 : AC :=
 (.seq (.reg 0 [o 2 (.bx 7 (.t 0)), o 4 (.mv (.c (.nilsl)))])
 (.seq (.reg 0 [o 8 (.fa (.t 2) 0), o 9 (.ld (.t 8) none), o 10 (.mv (.t 1)), o 11 (.pc 124 [(.t 9), (.t 10)]), o 5 (.mv (.t 11))])
 (.seq (.reg 0 [o 12 (.bs 2 0 [.int .i64 0, .int .i64 0] []), o 6 (.mv (.t 12))])
 (.seq (.seq (.reg 0 [o 13 (.mv (.t 5)), o 14 (.ln (.t 13)), o 15 (.bin .sub (.t 14) (ki 1)), o 7 (.mv (.t 15))])
 (.block 0 (.loop (.seq (.seq (.reg 0 [o 16 (.mv (.t 7)), o 17 (.bin .geq (.t 16) (ki 0))])
   (.cond (.t 17) .skip (.exit 0)))
   (.seq (.block 1 (.reg 0 [o 20 (.mv (.t 6)), o 21 (.fa (.t 2) 0), o 22 (.ld (.t 21) none), o 23 (.mv (.t 5)), o 24 (.mv (.t 7)), o 25 (.ia (.t 23) (.t 24) 1), o 26 (.ld (.t 25) none), o 27 (.ia (.t 22) (.t 26) 3), o 28 (.fa (.t 27) 1), o 29 (.ld (.t 28) none), o 30 (.ap 2 16 [.int .i64 0, .int .i64 0] (.t 20) (.t 29)), o 6 (.mv (.t 30))]))
   (.reg 0 [o 18 (.mv (.t 7)), o 19 (.bin .sub (.t 18) (ki 1)), o 7 (.mv (.t 19))]))))))
 (.seq (.reg 0 [o 31 (.mv (.t 6)), o 4 (.mv (.t 31))])
 .ret)))))
def F67 : AFn := ⟨c67, [0, 1, 2, 4, 5, 6, 7, 17], [.tmp 4], 32⟩
theorem k67 : FnOk Try.prog 67 F67 := .of Try.f67 Try.func67 (by kernel_rfl) (by kernel_rfl) (by kernel_rfl) (by kernel_rfl)

/-- plimsoll/plimsollref01.Sub -/
def c68 : AC :=
 (.seq (.reg 0 [o 4 (.bx 2 (.t 1)), o 5 (.bx 2 (.t 2)), o 6 (.mv (kb false))])
 (.seq (.seq (.reg 0 [o 7 (.fa (.t 4) 0), o 8 (.ld (.t 7) none), o 9 (.bin .eql (.t 8) (ki 4))])
 (.cond (.t 9) (.seq (.reg 0 [o 10 (.ld (.t 5) (some 2)), o 11 (.pc 125 [(.t 10)]), o 6 (.mv (.t 11))])
  .ret) .skip))
 (.seq (.seq (.reg 0 [o 12 (.fa (.t 4) 0), o 13 (.ld (.t 12) none), o 14 (.bin .eql (.t 13) (ki 3))])
 (.cond (.t 14) (.seq (.reg 0 [o 15 (.fa (.t 5) 0), o 16 (.ld (.t 15) none), o 17 (.bin .eql (.t 16) (ki 3)), o 18 (.mv (.t 17)), og 19 18 true (.mv (.t 0)), og 20 18 true (.fa (.t 4) 1), og 21 18 true (.ld (.t 20) none), og 22 18 true (.pc 124 [(.t 19), (.t 21)]), og 23 18 true (.fa (.t 5) 1), og 24 18 true (.ld (.t 23) none), og 25 18 true (.pc 59 [(.t 22), (.t 24)]), o 26 (.pk (.t 18) (.t 25) (kb false)), o 6 (.mv (.t 26))])
  .ret) .skip))
 (.seq (.reg 0 [o 27 (.fa (.t 4) 0), o 28 (.ld (.t 27) none), o 29 (.bin .eql (.t 28) (ki 1)), o 30 (.mv (.t 29)), og 31 30 false (.fa (.t 4) 0), og 32 30 false (.ld (.t 31) none), og 33 30 false (.bin .eql (.t 32) (ki 2)), o 34 (.pk (.t 30) (kb true) (.t 33)), o 35 (.mv (.t 34)), og 36 35 true (.ld (.t 4) (some 2)), og 37 35 true (.ld (.t 5) (some 2)), og 38 35 true (.aeq false 2 (.t 36) (.t 37)), o 39 (.pk (.t 35) (.t 38) (kb false)), o 6 (.mv (.t 39))])
 .ret))))
def F68 : AFn := ⟨c68, [0, 1, 2, 4, 5, 6, 9, 14], [.tmp 6], 40⟩
theorem k68 : FnOk Try.prog 68 F68 := .of Try.f68 Try.func68 (by kernel_rfl) (by kernel_rfl) (by kernel_rfl) (by kernel_rfl)

/-- plimsoll/plimsollref05.named -/
def c69 : AC :=
 (.seq (.reg 0 [o 3 (.bx 7 (.t 0)), o 4 (.bx 8 (.t 1)), o 5 (.bx 3 (.t 2)), o 6 (.mv (kb false))])
 (.seq (.seq (.reg 0 [o 7 (.fa (.t 5) 0), o 8 (.ld (.t 7) none)])
 (.block 0 (.seq (.reg 0 [o 10 (.bin .eql (.t 8) (ki 1)), o 9 (.mv (.t 10))])
  (.cond (.t 9) (.seq (.reg 0 [o 11 (.fa (.t 5) 1), o 12 (.ld (.t 11) none), o 13 (.fa (.t 3) 2), o 14 (.ld (.t 13) none), o 15 (.ln (.t 14)), o 16 (.bin .lss (.t 12) (.t 15)), o 6 (.mv (.t 16))])
   .ret) (.seq (.seq (.reg 0 [o 18 (.bin .eql (.t 8) (ki 3)), o 17 (.mv (.t 18))])
   (.cond (.t 17) .skip (.reg 0 [o 19 (.bin .eql (.t 8) (ki 4)), o 17 (.mv (.t 19))])))
   (.cond (.t 17) (.seq (.reg 0 [o 20 (.fa (.t 5) 1), o 21 (.ld (.t 20) none), o 22 (.fa (.t 4) 0), o 23 (.ld (.t 22) none), o 24 (.ln (.t 23)), o 25 (.fa (.t 4) 1), o 26 (.ld (.t 25) none), o 27 (.ln (.t 26)), o 28 (.bin .add (.t 24) (.t 27)), o 29 (.bin .lss (.t 21) (.t 28)), o 6 (.mv (.t 29))])
    .ret) (.seq (.seq (.reg 0 [o 31 (.bin .eql (.t 8) (ki 18)), o 30 (.mv (.t 31))])
    (.cond (.t 30) .skip (.reg 0 [o 32 (.bin .eql (.t 8) (ki 19)), o 30 (.mv (.t 32))])))
    (.cond (.t 30) (.seq (.reg 0 [o 33 (.fa (.t 5) 1), o 34 (.ld (.t 33) none), o 35 (.fa (.t 4) 4), o 36 (.ld (.t 35) none), o 37 (.ln (.t 36)), o 38 (.bin .lss (.t 34) (.t 37)), o 6 (.mv (.t 38))])
     .ret) (.seq (.seq (.reg 0 [o 40 (.bin .eql (.t 8) (ki 22)), o 39 (.mv (.t 40))])
     (.cond (.t 39) .skip (.reg 0 [o 41 (.bin .eql (.t 8) (ki 34)), o 39 (.mv (.t 41))])))
     (.cond (.t 39) (.seq (.reg 0 [o 42 (.fa (.t 5) 1), o 43 (.ld (.t 42) none), o 44 (.fa (.t 3) 0), o 45 (.ld (.t 44) none), o 46 (.ln (.t 45)), o 47 (.bin .lss (.t 43) (.t 46)), o 6 (.mv (.t 47))])
      .ret) (.seq (.seq (.reg 0 [o 49 (.bin .eql (.t 8) (ki 27)), o 48 (.mv (.t 49))])
      (.cond (.t 48) .skip (.reg 0 [o 50 (.bin .eql (.t 8) (ki 28)), o 48 (.mv (.t 50))])))
      (.cond (.t 48) (.seq (.reg 0 [o 51 (.fa (.t 5) 1), o 52 (.ld (.t 51) none), o 53 (.fa (.t 3) 0), o 54 (.ld (.t 53) none), o 55 (.ln (.t 54)), o 56 (.bin .lss (.t 52) (.t 55)), o 57 (.mv (.t 56)), og 58 57 true (.fa (.t 5) 2), og 59 57 true (.ld (.t 58) none), og 60 57 true (.ld (.t 3) (some 7)), og 61 57 true (.fa (.t 5) 1), og 62 57 true (.ld (.t 61) none), og 63 57 true (.pc 67 [(.t 60), (.t 62)]), og 64 57 true (.ln (.t 63)), og 65 57 true (.bin .lss (.t 59) (.t 64)), o 66 (.pk (.t 57) (.t 65) (kb false)), o 6 (.mv (.t 66))])
       .ret) (.seq (.seq (.reg 0 [o 68 (.bin .eql (.t 8) (ki 29)), o 67 (.mv (.t 68))])
       (.cond (.t 67) .skip (.reg 0 [o 69 (.bin .eql (.t 8) (ki 30)), o 67 (.mv (.t 69))])))
       (.cond (.t 67) (.seq (.reg 0 [o 70 (.fa (.t 5) 1), o 71 (.ld (.t 70) none), o 72 (.fa (.t 3) 1), o 73 (.ld (.t 72) none), o 74 (.ln (.t 73)), o 75 (.bin .lss (.t 71) (.t 74)), o 6 (.mv (.t 75))])
        .ret) (.seq (.reg 0 [o 77 (.bin .eql (.t 8) (ki 31)), o 76 (.mv (.t 77))])
        (.cond (.t 76) (.seq (.reg 0 [o 78 (.fa (.t 5) 1), o 79 (.ld (.t 78) none), o 80 (.fa (.t 3) 3), o 81 (.ld (.t 80) none), o 82 (.ln (.t 81)), o 83 (.bin .lss (.t 79) (.t 82)), o 6 (.mv (.t 83))])
         .ret) (.seq (.reg 0 [o 85 (.bin .eql (.t 8) (ki 32)), o 84 (.mv (.t 85))])
         (.cond (.t 84) (.seq (.reg 0 [o 86 (.fa (.t 5) 1), o 87 (.ld (.t 86) none), o 88 (.fa (.t 3) 0), o 89 (.ld (.t 88) none), o 90 (.ln (.t 89)), o 91 (.bin .lss (.t 87) (.t 90)), o 92 (.mv (.t 91)), og 93 92 true (.fa (.t 5) 2), og 94 92 true (.ld (.t 93) none), og 95 92 true (.fa (.t 3) 0), og 96 92 true (.ld (.t 95) none), og 97 92 true (.fa (.t 5) 1), og 98 92 true (.ld (.t 97) none), og 99 92 true (.ia (.t 96) (.t 98) 3), og 100 92 true (.fa (.t 99) 2), og 101 92 true (.ld (.t 100) none), og 102 92 true (.ln (.t 101)), og 103 92 true (.bin .lss (.t 94) (.t 102)), o 104 (.pk (.t 92) (.t 103) (kb false)), o 6 (.mv (.t 104))])
          .ret) .skip))))))))))))))))))
 (.seq (.reg 0 [o 6 (.mv (kb true))])
 .ret)))
def F69 : AFn := ⟨c69, [0, 1, 2, 3, 4, 5, 6, 8, 9, 17, 30, 39, 48, 67, 76, 84], [.tmp 6], 105⟩
theorem k69 : FnOk Try.prog 69 F69 := .of Try.f69 Try.func69 (by kernel_rfl) (by kernel_rfl) (by kernel_rfl) (by kernel_rfl)

/-- plimsoll/image.types -/
def c70 : AC :=
 (.seq (.reg 0 [o 4 (.mv (kb false))])
 (.seq (.reg 0 [o 5 (.mv (.t 0)), o 6 (.ln (.t 5)), o 7 (.mv (.t 1)), o 8 (.bin .leq (.t 6) (.t 7)), o 9 (.mv (.t 8)), og 10 9 true (.mv (.t 0)), og 11 9 true (.pc 87 [(.t 10), (.c (.fn 126 [] []))]), og 12 9 true (.un .not (.t 11)), o 13 (.pk (.t 9) (.t 12) (kb false)), o 4 (.mv (.t 13))])
 .ret))
def F70 : AFn := ⟨c70, [0, 1, 4], [.tmp 4], 14⟩
theorem k70 : FnOk Try.prog 70 F70 := .of Try.f70 Try.func70 (by kernel_rfl) (by kernel_rfl) (by kernel_rfl) (by kernel_rfl)

/-- slices.ContainsFunc[[]plimsoll/api.Class,plimsoll/api.Class] -/
def c71 : AC :=
 (.seq (.reg 0 [o 4 (.mv (kb false))])
 (.seq (.reg 0 [o 5 (.mv (.t 0)), o 6 (.mv (.t 1)), o 7 (.pc 128 [(.t 5), (.t 6)]), o 8 (.bin .geq (.t 7) (ki 0)), o 4 (.mv (.t 8))])
 .ret))
def F71 : AFn := ⟨c71, [0, 1, 4], [.tmp 4], 9⟩
theorem k71 : FnOk Try.prog 71 F71 := .of Try.f71 Try.func71 (by kernel_rfl) (by kernel_rfl) (by kernel_rfl) (by kernel_rfl)

/-- plimsoll/image.Fits$1 -/
def c72 : AC :=
 (.seq (.reg 0 [o 1 (.bx 3 (.t 0)), o 2 (.mv (kb false))])
 (.seq (.reg 0 [o 3 (.ld (.t 1) (some 3)), o 4 (.pc 73 [(.t 3)]), o 5 (.un .not (.t 4)), o 2 (.mv (.t 5))])
 .ret))
def F72 : AFn := ⟨c72, [0, 1, 2], [.tmp 2], 6⟩
theorem k72 : FnOk Try.prog 72 F72 := .of Try.f72 Try.func72 (by kernel_rfl) (by kernel_rfl) (by kernel_rfl) (by kernel_rfl)

/-- plimsoll/image.class -/
def c73 : AC :=
 (.seq (.reg 0 [o 1 (.bx 3 (.t 0)), o 2 (.mv (kb false))])
 (.seq (.reg 0 [o 3 (.fa (.t 1) 0), o 4 (.ld (.t 3) none), o 5 (.bin .geq (.t 4) (ki (-1))), o 6 (.mv (.t 5)), og 7 6 true (.fa (.t 1) 0), og 8 6 true (.ld (.t 7) none), og 9 6 true (.bin .lss (.t 8) (ki 8)), o 10 (.pk (.t 6) (.t 9) (kb false)), o 11 (.mv (.t 10)), og 12 11 true (.fa (.t 1) 1), og 13 11 true (.ld (.t 12) none), og 14 11 true (.pc 70 [(.t 13), (ki 8)]), o 15 (.pk (.t 11) (.t 14) (kb false)), o 16 (.mv (.t 15)), og 17 16 true (.fa (.t 1) 2), og 18 16 true (.ld (.t 17) none), og 19 16 true (.pc 77 [(.t 18), (ki 4), (ki 11)]), o 20 (.pk (.t 16) (.t 19) (kb false)), o 2 (.mv (.t 20))])
 .ret))
def F73 : AFn := ⟨c73, [0, 1, 2], [.tmp 2], 21⟩
theorem k73 : FnOk Try.prog 73 F73 := .of Try.f73 Try.func73 (by kernel_rfl) (by kernel_rfl) (by kernel_rfl) (by kernel_rfl)

/-- slices.ContainsFunc[[]plimsoll/api.Method,plimsoll/api.Method] -/
def c74 : AC :=
 (.seq (.reg 0 [o 4 (.mv (kb false))])
 (.seq (.reg 0 [o 5 (.mv (.t 0)), o 6 (.mv (.t 1)), o 7 (.pc 129 [(.t 5), (.t 6)]), o 8 (.bin .geq (.t 7) (ki 0)), o 4 (.mv (.t 8))])
 .ret))
def F74 : AFn := ⟨c74, [0, 1, 4], [.tmp 4], 9⟩
theorem k74 : FnOk Try.prog 74 F74 := .of Try.f74 Try.func74 (by kernel_rfl) (by kernel_rfl) (by kernel_rfl) (by kernel_rfl)

/-- plimsoll/image.Fits$2 -/
def c75 : AC :=
 (.seq (.reg 0 [o 1 (.bx 8 (.t 0)), o 2 (.mv (kb false))])
 (.seq (.reg 0 [o 3 (.ld (.t 1) (some 8)), o 4 (.pc 76 [(.t 3)]), o 5 (.un .not (.t 4)), o 2 (.mv (.t 5))])
 .ret))
def F75 : AFn := ⟨c75, [0, 1, 2], [.tmp 2], 6⟩
theorem k75 : FnOk Try.prog 75 F75 := .of Try.f75 Try.func75 (by kernel_rfl) (by kernel_rfl) (by kernel_rfl) (by kernel_rfl)

/-- plimsoll/image.method -/
def c76 : AC :=
 (.seq (.reg 0 [o 1 (.bx 8 (.t 0)), o 2 (.mv (kb false))])
 (.seq (.seq (.reg 0 [o 5 (.fa (.t 1) 0), o 6 (.ld (.t 5) none), o 7 (.pc 70 [(.t 6), (ki 4)]), o 8 (.un .not (.t 7)), o 9 (.mv (.t 8)), og 10 9 false (.fa (.t 1) 1), og 11 9 false (.ld (.t 10) none), og 12 9 false (.pc 70 [(.t 11), (ki 8)]), og 13 9 false (.un .not (.t 12)), o 14 (.pk (.t 9) (kb true) (.t 13)), o 15 (.mv (.t 14)), og 16 15 false (.fa (.t 1) 2), og 17 15 false (.ld (.t 16) (some 2)), og 18 15 false (.pc 127 [(.t 17)]), og 19 15 false (.un .not (.t 18)), o 20 (.pk (.t 15) (kb true) (.t 19)), o 21 (.mv (.t 20)), og 22 21 false (.fa (.t 1) 4), og 23 21 false (.ld (.t 22) none), og 24 21 false (.ln (.t 23)), og 25 21 false (.bin .gtr (.t 24) (ki 64)), o 26 (.pk (.t 21) (kb true) (.t 25))])
 (.cond (.t 26) (.seq (.reg 0 [o 2 (.mv (kb false))])
  .ret) .skip))
 (.seq (.seq (.reg 0 [o 27 (.fa (.t 1) 4), o 28 (.ld (.t 27) none), o 29 (.ln (.t 28)), o 30 (.mv (ki 0))])
 (.block 0 (.loop (.seq (.reg 0 [o 31 (.bin .lss (.t 30) (.t 29))])
   (.seq (.cond (.t 31) .skip (.exit 0))
   (.seq (.block 1 (.seq (.reg 0 [o 32 (.ia (.t 28) (.t 30) 3), o 33 (.ld (.t 32) (some 3)), o 4 (.al [.int .i64 0, .int .i64 0, .int .i64 0]), os (.st 3 (.t 4) (.t 33))])
    (.seq (.reg 0 [o 34 (.ld (.t 4) (some 3)), o 35 (.pc 130 [(.t 34)]), o 36 (.un .not (.t 35))])
    (.cond (.t 36) (.seq (.reg 0 [o 2 (.mv (kb false))])
     .ret) .skip))))
   (.reg 0 [o 37 (.bin .add (.t 30) (ki 1)), o 30 (.mv (.t 37))])))))))
 (.seq (.reg 0 [o 38 (.fa (.t 1) 5), o 39 (.ld (.t 38) none), o 40 (.pc 78 [(.t 39), (ki 8)]), o 41 (.mv (.t 40)), og 42 41 true (.fa (.t 1) 6), og 43 41 true (.ld (.t 42) none), og 44 41 true (.pc 78 [(.t 43), (ki 4096)]), o 45 (.pk (.t 41) (.t 44) (kb false)), o 46 (.mv (.t 45)), og 47 46 true (.fa (.t 1) 7), og 48 46 true (.ld (.t 47) none), og 49 46 true (.pc 77 [(.t 48), (ki 64), (ki 4096)]), o 50 (.pk (.t 46) (.t 49) (kb false)), o 2 (.mv (.t 50))])
 .ret))))
def F76 : AFn := ⟨c76, [0, 1, 2, 4, 26, 28, 29, 30, 31, 36], [.tmp 2], 51⟩
theorem k76 : FnOk Try.prog 76 F76 := .of Try.f76 Try.func76 (by kernel_rfl) (by kernel_rfl) (by kernel_rfl) (by kernel_rfl)

/-- plimsoll/image.numbers -/
def c77 : AC :=
 (.seq (.reg 0 [o 5 (.bx 1 (.t 2)), o 6 (.mv (kb false))])
 (.seq (.reg 0 [o 7 (.mv (.t 0)), o 8 (.ln (.t 7)), o 9 (.mv (.t 1)), o 10 (.bin .leq (.t 8) (.t 9)), o 11 (.mv (.t 10)), og 12 11 true (.mv (.t 0)), og 13 11 true (.mf 131 [] [(.t 5)]), og 14 11 true (.pc 118 [(.t 12), (.t 13)]), og 15 11 true (.un .not (.t 14)), o 16 (.pk (.t 11) (.t 15) (kb false)), o 6 (.mv (.t 16))])
 .ret))
def F77 : AFn := ⟨c77, [0, 1, 2, 5, 6], [.tmp 6], 17⟩
theorem k77 : FnOk Try.prog 77 F77 := .of Try.f77 Try.func77 (by kernel_rfl) (by kernel_rfl) (by kernel_rfl) (by kernel_rfl)

/-- plimsoll/image.within -/
def c78 : AC :=
 (.seq (.reg 0 [o 4 (.mv (kb false))])
 (.seq (.reg 0 [o 5 (.mv (.t 0)), o 6 (.bin .geq (.t 5) (ki 0)), o 7 (.mv (.t 6)), og 8 7 true (.mv (.t 0)), og 9 7 true (.mv (.t 1)), og 10 7 true (.bin .leq (.t 8) (.t 9)), o 11 (.pk (.t 7) (.t 10) (kb false)), o 4 (.mv (.t 11))])
 .ret))
def F78 : AFn := ⟨c78, [0, 1, 4], [.tmp 4], 12⟩
theorem k78 : FnOk Try.prog 78 F78 := .of Try.f78 Try.func78 (by kernel_rfl) (by kernel_rfl) (by kernel_rfl) (by kernel_rfl)

/-- plimsoll/kind.Good -/
def c79 : AC :=
 (.seq (.reg 0 [o 2 (.bx 2 (.t 0)), o 4 (.mv (kb false))])
 (.seq (.seq (.reg 0 [o 5 (.fa (.t 2) 0), o 6 (.ld (.t 5) none)])
 (.block 0 (.seq (.seq (.reg 0 [o 8 (.bin .eql (.t 6) (ki 1)), o 7 (.mv (.t 8))])
  (.cond (.t 7) .skip (.reg 0 [o 9 (.bin .eql (.t 6) (ki 2)), o 7 (.mv (.t 9))])))
  (.cond (.t 7) (.seq (.reg 0 [o 10 (.fa (.t 2) 1), o 11 (.ld (.t 10) none), o 12 (.bin .eql (.t 11) (ki 0)), o 4 (.mv (.t 12))])
   .ret) (.seq (.reg 0 [o 14 (.bin .eql (.t 6) (ki 3)), o 13 (.mv (.t 14))])
   (.cond (.t 13) (.seq (.reg 0 [o 15 (.fa (.t 2) 1), o 16 (.ld (.t 15) none), o 17 (.bin .geq (.t 16) (ki 0)), o 18 (.mv (.t 17)), og 19 18 true (.fa (.t 2) 1), og 20 18 true (.ld (.t 19) none), og 21 18 true (.mv (.t 1)), og 22 18 true (.bin .lss (.t 20) (.t 21)), o 23 (.pk (.t 18) (.t 22) (kb false)), o 4 (.mv (.t 23))])
    .ret) .skip))))))
 (.seq (.reg 0 [o 4 (.mv (kb false))])
 .ret)))
def F79 : AFn := ⟨c79, [0, 1, 2, 4, 6, 7, 13], [.tmp 4], 24⟩
theorem k79 : FnOk Try.prog 79 F79 := .of Try.f79 Try.func79 (by kernel_rfl) (by kernel_rfl) (by kernel_rfl) (by kernel_rfl)

/-- plimsoll/sane.above -/
def c80 : AC :=
 (.seq (.reg 0 [o 2 (.bx 7 (.t 0)), o 4 (.mv (ki 0)), o 5 (.mv (.c (.nilsl)))])
 (.seq (.seq (.reg 0 [o 8 (.fa (.t 2) 0), o 9 (.ld (.t 8) none), o 10 (.mv (.t 1)), o 11 (.ia (.t 9) (.t 10) 3), o 12 (.fa (.t 11) 0), o 13 (.ld (.t 12) none), o 6 (.mv (.t 13))])
 (.seq (.reg 0 [o 14 (.mv (.t 6)), o 15 (.bin .geq (.t 14) (ki 0))])
 (.cond (.t 15) (.reg 0 [o 16 (.fa (.t 2) 0), o 17 (.ld (.t 16) none), o 18 (.mv (.t 6)), o 19 (.ia (.t 17) (.t 18) 3), o 20 (.fa (.t 19) 2), o 21 (.ld (.t 20) none), o 5 (.mv (.t 21))]) .skip)))
 (.seq (.seq (.reg 0 [o 22 (.fa (.t 2) 0), o 23 (.ld (.t 22) none), o 24 (.mv (.t 1)), o 25 (.ia (.t 23) (.t 24) 3), o 26 (.fa (.t 25) 0), o 27 (.ld (.t 26) none), o 7 (.mv (.t 27))])
 (.block 0 (.loop (.seq (.seq (.reg 0 [o 28 (.mv (.t 7)), o 29 (.bin .geq (.t 28) (ki 0))])
   (.cond (.t 29) .skip (.exit 0)))
   (.seq (.block 1 (.reg 0 [o 36 (.mv (.t 4)), o 37 (.fa (.t 2) 0), o 38 (.ld (.t 37) none), o 39 (.mv (.t 7)), o 40 (.ia (.t 38) (.t 39) 3), o 41 (.fa (.t 40) 1), o 42 (.ld (.t 41) none), o 43 (.ln (.t 42)), o 44 (.bin .add (.t 36) (.t 43)), o 4 (.mv (.t 44))]))
   (.reg 0 [o 30 (.fa (.t 2) 0), o 31 (.ld (.t 30) none), o 32 (.mv (.t 7)), o 33 (.ia (.t 31) (.t 32) 3), o 34 (.fa (.t 33) 0), o 35 (.ld (.t 34) none), o 7 (.mv (.t 35))]))))))
 (.seq (.reg 0 [o 45 (.mv (.t 4)), o 46 (.mv (.t 5)), o 4 (.mv (.t 45)), o 5 (.mv (.t 46))])
 .ret))))
def F80 : AFn := ⟨c80, [0, 1, 2, 4, 5, 6, 7, 15, 29], [.tmp 4, .tmp 5], 47⟩
theorem k80 : FnOk Try.prog 80 F80 := .of Try.f80 Try.func80 (by kernel_rfl) (by kernel_rfl) (by kernel_rfl) (by kernel_rfl)

/-- plimsoll/sane.in -/
def c81 : AC :=
 (.seq (.reg 0 [o 4 (.mv (kb false))])
 (.seq (.reg 0 [o 5 (.mv (.t 0)), o 6 (.bin .geq (.t 5) (ki 0)), o 7 (.mv (.t 6)), og 8 7 true (.mv (.t 0)), og 9 7 true (.mv (.t 1)), og 10 7 true (.bin .lss (.t 8) (.t 9)), o 11 (.pk (.t 7) (.t 10) (kb false)), o 4 (.mv (.t 11))])
 .ret))
def F81 : AFn := ⟨c81, [0, 1, 4], [.tmp 4], 12⟩
theorem k81 : FnOk Try.prog 81 F81 := .of Try.f81 Try.func81 (by kernel_rfl) (by kernel_rfl) (by kernel_rfl) (by kernel_rfl)

/-- plimsoll/sane.fits -/
def c82 : AC :=
 (.seq (.reg 0 [o 3 (.bx 7 (.t 0)), o 6 (.mv (kb false))])
 (.seq (.reg 0 [o 8 (.fa (.t 3) 3), o 9 (.ld (.t 8) none), o 10 (.mv (.t 2)), o 11 (.ia (.t 9) (.t 10) 8), o 12 (.ld (.t 11) (some 8)), o 7 (.al [.nilsl, .nilsl, .int .i64 0, .int .i64 0, .nilsl, .int .i64 0, .int .i64 0, .nilsl]), os (.st 8 (.t 7) (.t 12))])
 (.seq (.reg 0 [o 13 (.fa (.t 7) 0), o 14 (.ld (.t 13) none), o 15 (.ln (.t 14)), o 16 (.bin .gtr (.t 15) (ki 0)), o 17 (.mv (.t 16)), og 18 17 true (.fa (.t 3) 0), og 19 17 true (.ld (.t 18) none), og 20 17 true (.mv (.t 1)), og 21 17 true (.bd [.int .i64 0, .int .i64 0] [(0, 1, (ki 3)), (1, 1, (.t 20))]), og 22 17 true (.fa (.t 7) 0), og 23 17 true (.ld (.t 22) none), og 24 17 true (.ia (.t 23) (ki 0) 2), og 25 17 true (.ld (.t 24) (some 2)), og 26 17 true (.pc 132 [(.t 19), (.t 21), (.t 25)]), o 27 (.pk (.t 17) (.t 26) (kb false)), o 6 (.mv (.t 27))])
 .ret)))
def F82 : AFn := ⟨c82, [0, 1, 2, 3, 6, 7], [.tmp 6], 28⟩
theorem k82 : FnOk Try.prog 82 F82 := .of Try.f82 Try.func82 (by kernel_rfl) (by kernel_rfl) (by kernel_rfl) (by kernel_rfl)

/-- plimsoll/sane.alike -/
def c83 : AC :=
 (.seq (.reg 0 [o 2 (.bx 8 (.t 0)), o 3 (.bx 8 (.t 1)), o 4 (.mv (kb false))])
 (.seq (.reg 0 [o 5 (.fa (.t 2) 0), o 6 (.ld (.t 5) none), o 7 (.ln (.t 6)), o 8 (.bin .gtr (.t 7) (ki 0)), o 9 (.mv (.t 8)), og 10 9 true (.fa (.t 3) 0), og 11 9 true (.ld (.t 10) none), og 12 9 true (.ln (.t 11)), og 13 9 true (.bin .gtr (.t 12) (ki 0)), o 14 (.pk (.t 9) (.t 13) (kb false)), o 15 (.mv (.t 14)), og 16 15 true (.fa (.t 2) 0), og 17 15 true (.ld (.t 16) none), og 18 15 true (.sl (.t 17) 2 (some (ki 1)) none none), og 19 15 true (.fa (.t 3) 0), og 20 15 true (.ld (.t 19) none), og 21 15 true (.sl (.t 20) 2 (some (ki 1)) none none), og 22 15 true (.pc 50 [(.t 18), (.t 21)]), o 23 (.pk (.t 15) (.t 22) (kb false)), o 24 (.mv (.t 23)), og 25 24 true (.fa (.t 2) 2), og 26 24 true (.ld (.t 25) (some 2)), og 27 24 true (.fa (.t 3) 2), og 28 24 true (.ld (.t 27) (some 2)), og 29 24 true (.aeq false 2 (.t 26) (.t 28)), o 30 (.pk (.t 24) (.t 29) (kb false)), o 4 (.mv (.t 30))])
 .ret))
def F83 : AFn := ⟨c83, [0, 1, 2, 3, 4], [.tmp 4], 31⟩
theorem k83 : FnOk Try.prog 83 F83 := .of Try.f83 Try.func83 (by kernel_rfl) (by kernel_rfl) (by kernel_rfl) (by kernel_rfl)

/-- plimsoll/sane.method$1 -/
def c84 : AC :=
 (.seq (.reg 0 [o 3 (.mv (ki 0))])
 (.seq (.reg 0 [o 7 (.ld (.t 1) (some 7)), o 8 (.mv (.t 0)), o 9 (.pc 80 [(.t 7), (.t 8)]), o 6 (.mv (.t 9)), o 10 (.ex (.t 6) 0), o 11 (.ex (.t 6) 1), o 4 (.mv (.t 10)), o 5 (.mv (.t 11))])
 (.seq (.reg 0 [o 12 (.mv (.t 4)), o 13 (.fa (.t 1) 0), o 14 (.ld (.t 13) none), o 15 (.mv (.t 0)), o 16 (.ia (.t 14) (.t 15) 3), o 17 (.fa (.t 16) 1), o 18 (.ld (.t 17) none), o 19 (.ln (.t 18)), o 20 (.bin .add (.t 12) (.t 19)), o 3 (.mv (.t 20))])
 .ret)))
def F84 : AFn := ⟨c84, [0, 1, 3, 4], [.tmp 3], 21⟩
theorem k84 : FnOk Try.prog 84 F84 := .of Try.f84 Try.func84 (by kernel_rfl) (by kernel_rfl) (by kernel_rfl) (by kernel_rfl)

/-- plimsoll/sane.instr -/
def c85 : AC :=
 (.seq (.reg 0 [o 4 (.bx 7 (.t 0)), o 5 (.bx 8 (.t 1)), o 6 (.bx 3 (.t 2)), o 8 (.mv (kb false))])
 (.seq (.seq (.reg 0 [o 9 (.fa (.t 6) 0), o 10 (.ld (.t 9) none)])
 (.block 0 (.seq (.reg 0 [o 12 (.bin .eql (.t 10) (ki 1)), o 11 (.mv (.t 12))])
  (.cond (.t 11) (.seq (.reg 0 [o 13 (.fa (.t 6) 1), o 14 (.ld (.t 13) none), o 15 (.fa (.t 4) 2), o 16 (.ld (.t 15) none), o 17 (.ln (.t 16)), o 18 (.pc 81 [(.t 14), (.t 17)]), o 8 (.mv (.t 18))])
   .ret) (.seq (.seq (.reg 0 [o 20 (.bin .eql (.t 10) (ki 3)), o 19 (.mv (.t 20))])
   (.cond (.t 19) .skip (.reg 0 [o 21 (.bin .eql (.t 10) (ki 4)), o 19 (.mv (.t 21))])))
   (.cond (.t 19) (.seq (.reg 0 [o 22 (.fa (.t 6) 1), o 23 (.ld (.t 22) none), o 24 (.fa (.t 5) 0), o 25 (.ld (.t 24) none), o 26 (.ln (.t 25)), o 27 (.fa (.t 5) 1), o 28 (.ld (.t 27) none), o 29 (.ln (.t 28)), o 30 (.bin .add (.t 26) (.t 29)), o 31 (.pc 81 [(.t 23), (.t 30)]), o 8 (.mv (.t 31))])
    .ret) (.seq (.seq (.reg 0 [o 33 (.bin .eql (.t 10) (ki 18)), o 32 (.mv (.t 33))])
    (.cond (.t 32) .skip (.reg 0 [o 34 (.bin .eql (.t 10) (ki 19)), o 32 (.mv (.t 34))])))
    (.cond (.t 32) (.seq (.reg 0 [o 35 (.fa (.t 6) 1), o 36 (.ld (.t 35) none), o 37 (.fa (.t 5) 4), o 38 (.ld (.t 37) none), o 39 (.ln (.t 38)), o 40 (.pc 81 [(.t 36), (.t 39)]), o 8 (.mv (.t 40))])
     .ret) (.seq (.seq (.reg 0 [o 42 (.bin .eql (.t 10) (ki 22)), o 41 (.mv (.t 42))])
     (.cond (.t 41) .skip (.reg 0 [o 43 (.bin .eql (.t 10) (ki 34)), o 41 (.mv (.t 43))])))
     (.cond (.t 41) (.seq (.reg 0 [o 44 (.fa (.t 6) 1), o 45 (.ld (.t 44) none), o 46 (.fa (.t 4) 0), o 47 (.ld (.t 46) none), o 48 (.ln (.t 47)), o 49 (.pc 81 [(.t 45), (.t 48)]), o 8 (.mv (.t 49))])
      .ret) (.seq (.seq (.reg 0 [o 51 (.bin .eql (.t 10) (ki 27)), o 50 (.mv (.t 51))])
      (.cond (.t 50) .skip (.reg 0 [o 52 (.bin .eql (.t 10) (ki 28)), o 50 (.mv (.t 52))])))
      (.cond (.t 50) (.seq (.reg 0 [o 53 (.fa (.t 6) 1), o 54 (.ld (.t 53) none), o 55 (.fa (.t 4) 0), o 56 (.ld (.t 55) none), o 57 (.ln (.t 56)), o 58 (.pc 81 [(.t 54), (.t 57)]), o 59 (.mv (.t 58)), og 60 59 true (.fa (.t 6) 2), og 61 59 true (.ld (.t 60) none), og 62 59 true (.mv (.t 3)), og 63 59 true (.fa (.t 6) 1), og 64 59 true (.ld (.t 63) none), og 65 59 true (.dp (.t 62) [(.t 64)]), og 66 59 true (.pc 81 [(.t 61), (.t 65)]), o 67 (.pk (.t 59) (.t 66) (kb false)), o 8 (.mv (.t 67))])
       .ret) (.seq (.seq (.reg 0 [o 69 (.bin .eql (.t 10) (ki 29)), o 68 (.mv (.t 69))])
       (.cond (.t 68) .skip (.reg 0 [o 70 (.bin .eql (.t 10) (ki 30)), o 68 (.mv (.t 70))])))
       (.cond (.t 68) (.seq (.reg 0 [o 71 (.fa (.t 6) 1), o 72 (.ld (.t 71) none), o 73 (.fa (.t 4) 1), o 74 (.ld (.t 73) none), o 75 (.ln (.t 74)), o 76 (.pc 81 [(.t 72), (.t 75)]), o 8 (.mv (.t 76))])
        .ret) (.seq (.reg 0 [o 78 (.bin .eql (.t 10) (ki 31)), o 77 (.mv (.t 78))])
        (.cond (.t 77) (.seq (.reg 0 [o 79 (.fa (.t 6) 1), o 80 (.ld (.t 79) none), o 81 (.fa (.t 4) 3), o 82 (.ld (.t 81) none), o 83 (.ln (.t 82)), o 84 (.pc 81 [(.t 80), (.t 83)]), o 8 (.mv (.t 84))])
         .ret) (.seq (.reg 0 [o 86 (.bin .eql (.t 10) (ki 32)), o 85 (.mv (.t 86))])
         (.cond (.t 85) (.seq (.reg 0 [o 87 (.fa (.t 6) 1), o 88 (.ld (.t 87) none), o 89 (.fa (.t 4) 0), o 90 (.ld (.t 89) none), o 91 (.ln (.t 90)), o 92 (.pc 81 [(.t 88), (.t 91)]), o 93 (.mv (.t 92)), og 94 93 true (.fa (.t 6) 2), og 95 93 true (.ld (.t 94) none), og 96 93 true (.fa (.t 4) 0), og 97 93 true (.ld (.t 96) none), og 98 93 true (.fa (.t 6) 1), og 99 93 true (.ld (.t 98) none), og 100 93 true (.ia (.t 97) (.t 99) 3), og 101 93 true (.fa (.t 100) 2), og 102 93 true (.ld (.t 101) none), og 103 93 true (.ln (.t 102)), og 104 93 true (.pc 81 [(.t 95), (.t 103)]), o 105 (.pk (.t 93) (.t 104) (kb false)), o 8 (.mv (.t 105))])
          .ret) .skip))))))))))))))))))
 (.seq (.reg 0 [o 8 (.mv (kb true))])
 .ret)))
def F85 : AFn := ⟨c85, [0, 1, 2, 3, 4, 5, 6, 8, 10, 11, 19, 32, 41, 50, 68, 77, 85], [.tmp 8], 106⟩
theorem k85 : FnOk Try.prog 85 F85 := .of Try.f85 Try.func85 (by kernel_rfl) (by kernel_rfl) (by kernel_rfl) (by kernel_rfl)

/-- plimsoll/sane.entry$1 -/
def c86 : AC :=
 (.seq (.reg 0 [o 1 (.bx 2 (.t 0)), o 2 (.mv (kb false))])
 (.seq (.reg 0 [o 3 (.ld (.t 1) (some 2)), o 4 (.bd [.int .i64 0, .int .i64 0] [(0, 1, (ki 1))]), o 5 (.aeq false 2 (.t 3) (.t 4)), o 2 (.mv (.t 5))])
 .ret))
def F86 : AFn := ⟨c86, [0, 1, 2], [.tmp 2], 6⟩
theorem k86 : FnOk Try.prog 86 F86 := .of Try.f86 Try.func86 (by kernel_rfl) (by kernel_rfl) (by kernel_rfl) (by kernel_rfl)

/-- slices.ContainsFunc[[]plimsoll/api.Type,plimsoll/api.Type] -/
def c87 : AC :=
 (.seq (.reg 0 [o 4 (.mv (kb false))])
 (.seq (.reg 0 [o 5 (.mv (.t 0)), o 6 (.mv (.t 1)), o 7 (.pc 133 [(.t 5), (.t 6)]), o 8 (.bin .geq (.t 7) (ki 0)), o 4 (.mv (.t 8))])
 .ret))
def F87 : AFn := ⟨c87, [0, 1, 4], [.tmp 4], 9⟩
theorem k87 : FnOk Try.prog 87 F87 := .of Try.f87 Try.func87 (by kernel_rfl) (by kernel_rfl) (by kernel_rfl) (by kernel_rfl)

/-- plimsoll/sane.entry$2 -/
def c88 : AC :=
 (.seq (.reg 0 [o 2 (.bx 2 (.t 0)), o 3 (.mv (kb false))])
 (.seq (.reg 0 [o 4 (.ld (.t 1) none), o 5 (.ld (.t 2) (some 2)), o 6 (.dp (.t 4) [(.t 5)]), o 7 (.un .not (.t 6)), o 3 (.mv (.t 7))])
 .ret))
def F88 : AFn := ⟨c88, [0, 1, 2, 3], [.tmp 3], 8⟩
theorem k88 : FnOk Try.prog 88 F88 := .of Try.f88 Try.func88 (by kernel_rfl) (by kernel_rfl) (by kernel_rfl) (by kernel_rfl)

/-- plimsoll/bits.Put -/
def c89 : AC :=
 (.seq (.reg 0 [o 4 (.mv (.c (.nilsl)))])
 (.seq (.reg 0 [o 6 (.mv (.t 1)), o 7 (.mx true (.t 6) [(ki 0)]), o 8 (.cv .u64 (.t 7)), o 5 (.mv (.t 8))])
 (.seq (.block 0 (.loop (.seq (.seq (.reg 0 [o 9 (.mv (.t 5)), o 10 (.bin .geq (.t 9) (.c (.int .u64 128)))])
   (.cond (.t 10) .skip (.exit 0)))
   (.block 1 (.seq (.reg 0 [o 11 (.mv (.t 0)), o 12 (.mv (.t 5)), o 13 (.bin .rem (.t 12) (.c (.int .u64 128))), o 14 (.cv .u8 (.t 13)), o 15 (.bin .or (.t 14) (.c (.int .u8 128))), o 16 (.bs 1 1 [.int .u8 0] [(0, (.t 15))]), o 17 (.ap 1 1 [.int .u8 0] (.t 11) (.t 16)), o 0 (.mv (.t 17))])
    (.reg 0 [o 18 (.mv (.t 5)), o 19 (.bin .quo (.t 18) (.c (.int .u64 128))), o 5 (.mv (.t 19))]))))))
 (.seq (.reg 0 [o 20 (.mv (.t 0)), o 21 (.mv (.t 5)), o 22 (.cv .u8 (.t 21)), o 23 (.bs 1 1 [.int .u8 0] [(0, (.t 22))]), o 24 (.ap 1 1 [.int .u8 0] (.t 20) (.t 23)), o 4 (.mv (.t 24))])
 .ret))))
def F89 : AFn := ⟨c89, [0, 1, 4, 5, 10], [.tmp 4], 25⟩
theorem k89 : FnOk Try.prog 89 F89 := .of Try.f89 Try.func89 (by kernel_rfl) (by kernel_rfl) (by kernel_rfl) (by kernel_rfl)

/-- plimsoll/image.putNumbers -/
def c90 : AC :=
 (.seq (.reg 0 [o 4 (.mv (.c (.nilsl)))])
 (.seq (.reg 0 [o 7 (.mv (.t 0)), o 8 (.mv (.t 1)), o 9 (.ln (.t 8)), o 10 (.ec 89 [(.t 7), (.t 9)]), o 0 (.mv (.t 10))])
 (.seq (.seq (.reg 0 [o 11 (.mv (.t 1)), o 12 (.ln (.t 11)), o 13 (.mv (ki 0))])
 (.block 0 (.loop (.seq (.reg 0 [o 14 (.bin .lss (.t 13) (.t 12))])
   (.seq (.cond (.t 14) .skip (.exit 0))
   (.seq (.block 1 (.seq (.reg 0 [o 15 (.ia (.t 11) (.t 13) 1), o 16 (.ld (.t 15) none), o 6 (.mv (.t 16))])
    (.reg 0 [o 17 (.mv (.t 0)), o 18 (.mv (.t 6)), o 19 (.ec 89 [(.t 17), (.t 18)]), o 0 (.mv (.t 19))])))
   (.reg 0 [o 20 (.bin .add (.t 13) (ki 1)), o 13 (.mv (.t 20))])))))))
 (.seq (.reg 0 [o 21 (.mv (.t 0)), o 4 (.mv (.t 21))])
 .ret))))
def F90 : AFn := ⟨c90, [0, 1, 4, 6, 11, 12, 13, 14], [.tmp 4], 22⟩
theorem k90 : FnOk Try.prog 90 F90 := .of Try.f90 Try.func90 (by kernel_rfl) (by kernel_rfl) (by kernel_rfl) (by kernel_rfl)

/-- plimsoll/image.putTypes -/
def c91 : AC :=
 (.seq (.reg 0 [o 4 (.mv (.c (.nilsl)))])
 (.seq (.reg 0 [o 7 (.mv (.t 0)), o 8 (.mv (.t 1)), o 9 (.ln (.t 8)), o 10 (.ec 89 [(.t 7), (.t 9)]), o 0 (.mv (.t 10))])
 (.seq (.seq (.reg 0 [o 11 (.mv (.t 1)), o 12 (.ln (.t 11)), o 13 (.mv (ki 0))])
 (.block 0 (.loop (.seq (.reg 0 [o 14 (.bin .lss (.t 13) (.t 12))])
   (.seq (.cond (.t 14) .skip (.exit 0))
   (.seq (.block 1 (.seq (.reg 0 [o 15 (.ia (.t 11) (.t 13) 2), o 16 (.ld (.t 15) (some 2)), o 6 (.al [.int .i64 0, .int .i64 0]), os (.st 2 (.t 6) (.t 16))])
    (.reg 0 [o 17 (.mv (.t 0)), o 18 (.ld (.t 6) (some 2)), o 19 (.ec 134 [(.t 17), (.t 18)]), o 0 (.mv (.t 19))])))
   (.reg 0 [o 20 (.bin .add (.t 13) (ki 1)), o 13 (.mv (.t 20))])))))))
 (.seq (.reg 0 [o 21 (.mv (.t 0)), o 4 (.mv (.t 21))])
 .ret))))
def F91 : AFn := ⟨c91, [0, 1, 4, 6, 11, 12, 13, 14], [.tmp 4], 22⟩
theorem k91 : FnOk Try.prog 91 F91 := .of Try.f91 Try.func91 (by kernel_rfl) (by kernel_rfl) (by kernel_rfl) (by kernel_rfl)

/-- plimsoll/bits.Long -/
def c92 : AC :=
 (.seq (.reg 0 [o 4 (.mv (.c (.nilsl)))])
 (.seq (.reg 0 [o 5 (.mv (.t 0)), o 6 (.mv (.t 1)), o 7 (.cv .u32 (.t 6)), o 8 (.bin .shl (.t 7) (.c (.int .u64 1))), o 9 (.mv (.t 1)), o 10 (.bin .shr (.t 9) (.c (.int .u64 31))), o 11 (.cv .u32 (.t 10)), o 12 (.bin .xor (.t 8) (.t 11)), o 13 (.cv .i64 (.t 12)), o 14 (.ec 89 [(.t 5), (.t 13)]), o 4 (.mv (.t 14))])
 .ret))
def F92 : AFn := ⟨c92, [0, 1, 4], [.tmp 4], 15⟩
theorem k92 : FnOk Try.prog 92 F92 := .of Try.f92 Try.func92 (by kernel_rfl) (by kernel_rfl) (by kernel_rfl) (by kernel_rfl)

/-- slices.Clip[[]byte,byte] -/
def c94 : AC :=
 (.seq (.reg 0 [o 2 (.mv (.c (.nilsl)))])
 (.seq (.reg 0 [o 3 (.mv (.t 0)), o 4 (.mv (.t 0)), o 5 (.ln (.t 4)), o 6 (.mv (.t 0)), o 7 (.ln (.t 6)), o 8 (.sl (.t 3) 1 none (some (.t 5)) (some (.t 7))), o 2 (.mv (.t 8))])
 .ret))
def F94 : AFn := ⟨c94, [0, 2], [.tmp 2], 9⟩
theorem k94 : FnOk Try.prog 94 F94 := .of Try.f94 Try.func94 (by kernel_rfl) (by kernel_rfl) (by kernel_rfl) (by kernel_rfl)

/-- plimsoll/bits.New -/
def c95 : AC :=
 (.seq (.reg 0 [o 2 (.mv (.c (.nilp)))])
 (.seq (.reg 0 [o 3 (.mv (.t 0)), o 4 (.bd [.nilsl, .bool false] [(0, 1, (.t 3))]), o 5 (.bx 2 (.t 4)), o 2 (.mv (.t 5))])
 .ret))
def F95 : AFn := ⟨c95, [0, 2], [.tmp 2], 6⟩
theorem k95 : FnOk Try.prog 95 F95 := .of Try.f95 Try.func95 (by kernel_rfl) (by kernel_rfl) (by kernel_rfl) (by kernel_rfl)

/-- (*plimsoll/bits.Reader).Get -/
def c96 : AC :=
 (.seq (.reg 0 [o 4 (.mv (ki 0))])
 (.seq (.seq (.reg 0 [o 7 (.mv (.t 0)), o 8 (.isnil false (.t 7)), o 9 (.mv (.t 8)), og 10 9 false (.mv (.t 0)), og 11 9 false (.nc (.t 10)), og 12 9 false (.fa (.t 11) 1), og 13 9 false (.ld (.t 12) none), o 14 (.pk (.t 9) (kb true) (.t 13))])
 (.cond (.t 14) (.seq (.reg 0 [o 4 (.mv (ki 0))])
  .ret) .skip))
 (.seq (.reg 0 [o 16 (.mv (.t 0)), o 17 (.ec 136 [(.t 16)]), o 15 (.mv (.t 17)), o 18 (.ex (.t 15) 0), o 19 (.ex (.t 15) 1), o 5 (.mv (.t 18)), o 6 (.mv (.t 19))])
 (.seq (.seq (.reg 0 [o 20 (.mv (.t 6)), o 21 (.un .not (.t 20)), o 22 (.mv (.t 21)), og 23 22 false (.mv (.t 1)), og 24 22 false (.bin .lss (.t 23) (ki 0)), o 25 (.pk (.t 22) (kb true) (.t 24)), o 26 (.mv (.t 25)), og 27 26 false (.mv (.t 5)), og 28 26 false (.mv (.t 1)), og 29 26 false (.cv .u64 (.t 28)), og 30 26 false (.bin .gtr (.t 27) (.t 29)), o 31 (.pk (.t 26) (kb true) (.t 30))])
 (.cond (.t 31) (.seq (.reg 0 [o 32 (.mv (.t 0)), o 33 (.nc (.t 32)), o 34 (.fa (.t 33) 1), os (.st 1 (.t 34) (kb true))])
  (.seq (.reg 0 [o 4 (.mv (ki 0))])
  .ret)) .skip))
 (.seq (.reg 0 [o 35 (.mv (.t 5)), o 36 (.cv .i64 (.t 35)), o 4 (.mv (.t 36))])
 .ret)))))
def F96 : AFn := ⟨c96, [0, 1, 4, 5, 6, 14, 31], [.tmp 4], 37⟩
theorem k96 : FnOk Try.prog 96 F96 := .of Try.f96 Try.func96 (by kernel_rfl) (by kernel_rfl) (by kernel_rfl) (by kernel_rfl)

/-- plimsoll/image.getTypes -/
def c97 : AC :=
 (.seq (.reg 0 [o 4 (.mv (.c (.nilsl)))])
 (.seq (.reg 0 [o 5 (.mv (.c (.nilsl)))])
 (.seq (.seq (.reg 0 [o 6 (.mv (.t 0)), o 7 (.mv (.t 1)), o 8 (.ec 96 [(.t 6), (.t 7)]), o 9 (.mv (ki 0))])
 (.block 0 (.loop (.seq (.reg 0 [o 10 (.bin .lss (.t 9) (.t 8))])
   (.seq (.cond (.t 10) .skip (.exit 0))
   (.seq (.block 1 (.reg 0 [o 11 (.mv (.t 5)), o 12 (.mv (.t 0)), o 13 (.ec 137 [(.t 12)]), o 14 (.bs 2 1 [.int .i64 0, .int .i64 0] [(0, (.t 13))]), o 15 (.ap 2 16 [.int .i64 0, .int .i64 0] (.t 11) (.t 14)), o 5 (.mv (.t 15))]))
   (.reg 0 [o 16 (.bin .add (.t 9) (ki 1)), o 9 (.mv (.t 16))])))))))
 (.seq (.reg 0 [o 17 (.mv (.t 5)), o 18 (.ec 102 [(.t 17)]), o 4 (.mv (.t 18))])
 .ret))))
def F97 : AFn := ⟨c97, [0, 1, 4, 5, 8, 9, 10], [.tmp 4], 19⟩
theorem k97 : FnOk Try.prog 97 F97 := .of Try.f97 Try.func97 (by kernel_rfl) (by kernel_rfl) (by kernel_rfl) (by kernel_rfl)

/-- plimsoll/image.getNumbers -/
def c98 : AC :=
 (.seq (.reg 0 [o 6 (.mv (.c (.nilsl)))])
 (.seq (.reg 0 [o 7 (.mv (.c (.nilsl)))])
 (.seq (.seq (.reg 0 [o 8 (.mv (.t 0)), o 9 (.mv (.t 1)), o 10 (.ec 96 [(.t 8), (.t 9)]), o 11 (.mv (ki 0))])
 (.block 0 (.loop (.seq (.reg 0 [o 12 (.bin .lss (.t 11) (.t 10))])
   (.seq (.cond (.t 12) .skip (.exit 0))
   (.seq (.block 1 (.reg 0 [o 13 (.mv (.t 7)), o 14 (.mv (.t 0)), o 15 (.mv (.t 2)), o 16 (.ec 96 [(.t 14), (.t 15)]), o 17 (.bs 1 1 [.int .i64 0] [(0, (.t 16))]), o 18 (.ap 1 8 [.int .i64 0] (.t 13) (.t 17)), o 7 (.mv (.t 18))]))
   (.reg 0 [o 19 (.bin .add (.t 11) (ki 1)), o 11 (.mv (.t 19))])))))))
 (.seq (.reg 0 [o 20 (.mv (.t 7)), o 21 (.ec 106 [(.t 20)]), o 6 (.mv (.t 21))])
 .ret))))
def F98 : AFn := ⟨c98, [0, 1, 2, 6, 7, 10, 11, 12], [.tmp 6], 22⟩
theorem k98 : FnOk Try.prog 98 F98 := .of Try.f98 Try.func98 (by kernel_rfl) (by kernel_rfl) (by kernel_rfl) (by kernel_rfl)

/-- (*plimsoll/bits.Reader).Long -/
def c99 : AC :=
 (.seq (.reg 0 [o 2 (.mv (.c (.int .i32 0)))])
 (.seq (.reg 0 [o 4 (.mv (.t 0)), o 5 (.ec 96 [(.t 4), (ki 4294967295)]), o 6 (.cv .u32 (.t 5)), o 3 (.mv (.t 6))])
 (.seq (.reg 0 [o 7 (.mv (.t 3)), o 8 (.bin .shr (.t 7) (.c (.int .u64 1))), o 9 (.cv .i32 (.t 8)), o 10 (.mv (.t 3)), o 11 (.bin .and (.t 10) (.c (.int .u32 1))), o 12 (.cv .i32 (.t 11)), o 13 (.un .neg (.t 12)), o 14 (.bin .xor (.t 9) (.t 13)), o 2 (.mv (.t 14))])
 .ret)))
def F99 : AFn := ⟨c99, [0, 2, 3], [.tmp 2], 15⟩
theorem k99 : FnOk Try.prog 99 F99 := .of Try.f99 Try.func99 (by kernel_rfl) (by kernel_rfl) (by kernel_rfl) (by kernel_rfl)

/-- (*plimsoll/bits.Reader).End -/
def c101 : AC :=
 (.seq (.reg 0 [o 2 (.mv (kb false))])
 (.seq (.reg 0 [o 3 (.mv (.t 0)), o 4 (.isnil true (.t 3)), o 5 (.mv (.t 4)), og 6 5 true (.mv (.t 0)), og 7 5 true (.nc (.t 6)), og 8 5 true (.fa (.t 7) 1), og 9 5 true (.ld (.t 8) none), og 10 5 true (.un .not (.t 9)), o 11 (.pk (.t 5) (.t 10) (kb false)), o 12 (.mv (.t 11)), og 13 12 true (.mv (.t 0)), og 14 12 true (.nc (.t 13)), og 15 12 true (.fa (.t 14) 0), og 16 12 true (.ld (.t 15) none), og 17 12 true (.ln (.t 16)), og 18 12 true (.bin .eql (.t 17) (ki 0)), o 19 (.pk (.t 12) (.t 18) (kb false)), o 2 (.mv (.t 19))])
 .ret))
def F101 : AFn := ⟨c101, [0, 2], [.tmp 2], 20⟩
theorem k101 : FnOk Try.prog 101 F101 := .of Try.f101 Try.func101 (by kernel_rfl) (by kernel_rfl) (by kernel_rfl) (by kernel_rfl)

/-- slices.Clip[[]plimsoll/api.Type,plimsoll/api.Type] -/
def c102 : AC :=
 (.seq (.reg 0 [o 2 (.mv (.c (.nilsl)))])
 (.seq (.reg 0 [o 3 (.mv (.t 0)), o 4 (.mv (.t 0)), o 5 (.ln (.t 4)), o 6 (.mv (.t 0)), o 7 (.ln (.t 6)), o 8 (.sl (.t 3) 2 none (some (.t 5)) (some (.t 7))), o 2 (.mv (.t 8))])
 .ret))
def F102 : AFn := ⟨c102, [0, 2], [.tmp 2], 9⟩
theorem k102 : FnOk Try.prog 102 F102 := .of Try.f102 Try.func102 (by kernel_rfl) (by kernel_rfl) (by kernel_rfl) (by kernel_rfl)

/-- slices.Clone[[]plimsoll/api.Type,plimsoll/api.Type] -/
def c103 : AC :=
 (.seq (.reg 0 [o 2 (.mv (.c (.nilsl)))])
 (.seq (.seq (.reg 0 [o 3 (.mv (.t 0)), o 4 (.snil false (.t 3))])
 (.cond (.t 4) (.seq (.reg 0 [o 2 (.mv (.c (.nilsl)))])
  .ret) .skip))
 (.seq (.reg 0 [o 5 (.bs 2 0 [.int .i64 0, .int .i64 0] []), o 6 (.mv (.t 0)), o 7 (.ap 2 16 [.int .i64 0, .int .i64 0] (.t 5) (.t 6)), o 2 (.mv (.t 7))])
 .ret)))
def F103 : AFn := ⟨c103, [0, 2, 4], [.tmp 2], 8⟩
theorem k103 : FnOk Try.prog 103 F103 := .of Try.f103 Try.func103 (by kernel_rfl) (by kernel_rfl) (by kernel_rfl) (by kernel_rfl)

/-- slices.Clip[[]int32,int32] -/
def c104 : AC :=
 (.seq (.reg 0 [o 2 (.mv (.c (.nilsl)))])
 (.seq (.reg 0 [o 3 (.mv (.t 0)), o 4 (.mv (.t 0)), o 5 (.ln (.t 4)), o 6 (.mv (.t 0)), o 7 (.ln (.t 6)), o 8 (.sl (.t 3) 1 none (some (.t 5)) (some (.t 7))), o 2 (.mv (.t 8))])
 .ret))
def F104 : AFn := ⟨c104, [0, 2], [.tmp 2], 9⟩
theorem k104 : FnOk Try.prog 104 F104 := .of Try.f104 Try.func104 (by kernel_rfl) (by kernel_rfl) (by kernel_rfl) (by kernel_rfl)

/-- slices.Clone[[]int32,int32] -/
def c105 : AC :=
 (.seq (.reg 0 [o 2 (.mv (.c (.nilsl)))])
 (.seq (.seq (.reg 0 [o 3 (.mv (.t 0)), o 4 (.snil false (.t 3))])
 (.cond (.t 4) (.seq (.reg 0 [o 2 (.mv (.c (.nilsl)))])
  .ret) .skip))
 (.seq (.reg 0 [o 5 (.bs 1 0 [.int .i32 0] []), o 6 (.mv (.t 0)), o 7 (.ap 1 4 [.int .i32 0] (.t 5) (.t 6)), o 2 (.mv (.t 7))])
 .ret)))
def F105 : AFn := ⟨c105, [0, 2, 4], [.tmp 2], 8⟩
theorem k105 : FnOk Try.prog 105 F105 := .of Try.f105 Try.func105 (by kernel_rfl) (by kernel_rfl) (by kernel_rfl) (by kernel_rfl)

/-- slices.Clip[[]int,int] -/
def c106 : AC :=
 (.seq (.reg 0 [o 2 (.mv (.c (.nilsl)))])
 (.seq (.reg 0 [o 3 (.mv (.t 0)), o 4 (.mv (.t 0)), o 5 (.ln (.t 4)), o 6 (.mv (.t 0)), o 7 (.ln (.t 6)), o 8 (.sl (.t 3) 1 none (some (.t 5)) (some (.t 7))), o 2 (.mv (.t 8))])
 .ret))
def F106 : AFn := ⟨c106, [0, 2], [.tmp 2], 9⟩
theorem k106 : FnOk Try.prog 106 F106 := .of Try.f106 Try.func106 (by kernel_rfl) (by kernel_rfl) (by kernel_rfl) (by kernel_rfl)

/-- slices.Clone[[]int,int] -/
def c107 : AC :=
 (.seq (.reg 0 [o 2 (.mv (.c (.nilsl)))])
 (.seq (.seq (.reg 0 [o 3 (.mv (.t 0)), o 4 (.snil false (.t 3))])
 (.cond (.t 4) (.seq (.reg 0 [o 2 (.mv (.c (.nilsl)))])
  .ret) .skip))
 (.seq (.reg 0 [o 5 (.bs 1 0 [.int .i64 0] []), o 6 (.mv (.t 0)), o 7 (.ap 1 8 [.int .i64 0] (.t 5) (.t 6)), o 2 (.mv (.t 7))])
 .ret)))
def F107 : AFn := ⟨c107, [0, 2, 4], [.tmp 2], 8⟩
theorem k107 : FnOk Try.prog 107 F107 := .of Try.f107 Try.func107 (by kernel_rfl) (by kernel_rfl) (by kernel_rfl) (by kernel_rfl)

/-- slices.Clip[[]plimsoll/api.Instr,plimsoll/api.Instr] -/
def c108 : AC :=
 (.seq (.reg 0 [o 2 (.mv (.c (.nilsl)))])
 (.seq (.reg 0 [o 3 (.mv (.t 0)), o 4 (.mv (.t 0)), o 5 (.ln (.t 4)), o 6 (.mv (.t 0)), o 7 (.ln (.t 6)), o 8 (.sl (.t 3) 3 none (some (.t 5)) (some (.t 7))), o 2 (.mv (.t 8))])
 .ret))
def F108 : AFn := ⟨c108, [0, 2], [.tmp 2], 9⟩
theorem k108 : FnOk Try.prog 108 F108 := .of Try.f108 Try.func108 (by kernel_rfl) (by kernel_rfl) (by kernel_rfl) (by kernel_rfl)

/-- slices.Clone[[]plimsoll/api.Instr,plimsoll/api.Instr] -/
def c109 : AC :=
 (.seq (.reg 0 [o 2 (.mv (.c (.nilsl)))])
 (.seq (.seq (.reg 0 [o 3 (.mv (.t 0)), o 4 (.snil false (.t 3))])
 (.cond (.t 4) (.seq (.reg 0 [o 2 (.mv (.c (.nilsl)))])
  .ret) .skip))
 (.seq (.reg 0 [o 5 (.bs 3 0 [.int .i64 0, .int .i64 0, .int .i64 0] []), o 6 (.mv (.t 0)), o 7 (.ap 3 24 [.int .i64 0, .int .i64 0, .int .i64 0] (.t 5) (.t 6)), o 2 (.mv (.t 7))])
 .ret)))
def F109 : AFn := ⟨c109, [0, 2, 4], [.tmp 2], 8⟩
theorem k109 : FnOk Try.prog 109 F109 := .of Try.f109 Try.func109 (by kernel_rfl) (by kernel_rfl) (by kernel_rfl) (by kernel_rfl)

/-- slices.Equal[[]plimsoll/api.Instr,plimsoll/api.Instr] -/
def c110 : AC :=
 (.seq (.reg 0 [o 4 (.mv (kb false))])
 (.seq (.seq (.reg 0 [o 6 (.mv (.t 0)), o 7 (.ln (.t 6)), o 8 (.mv (.t 1)), o 9 (.ln (.t 8)), o 10 (.bin .neq (.t 7) (.t 9))])
 (.cond (.t 10) (.seq (.reg 0 [o 4 (.mv (kb false))])
  .ret) .skip))
 (.seq (.seq (.reg 0 [o 11 (.mv (.t 0)), o 12 (.ln (.t 11)), o 13 (.mv (ki 0))])
 (.block 0 (.loop (.seq (.reg 0 [o 14 (.bin .lss (.t 13) (.t 12))])
   (.seq (.cond (.t 14) .skip (.exit 0))
   (.seq (.block 1 (.seq (.reg 0 [o 15 (.mv (.t 13)), o 5 (.mv (.t 15))])
    (.seq (.reg 0 [o 16 (.mv (.t 0)), o 17 (.mv (.t 5)), o 18 (.ia (.t 16) (.t 17) 3), o 19 (.ld (.t 18) (some 3)), o 20 (.mv (.t 1)), o 21 (.mv (.t 5)), o 22 (.ia (.t 20) (.t 21) 3), o 23 (.ld (.t 22) (some 3)), o 24 (.aeq true 3 (.t 19) (.t 23))])
    (.cond (.t 24) (.seq (.reg 0 [o 4 (.mv (kb false))])
     .ret) .skip))))
   (.reg 0 [o 25 (.bin .add (.t 13) (ki 1)), o 13 (.mv (.t 25))])))))))
 (.seq (.reg 0 [o 4 (.mv (kb true))])
 .ret))))
def F110 : AFn := ⟨c110, [0, 1, 4, 5, 10, 12, 13, 14, 24], [.tmp 4], 26⟩
theorem k110 : FnOk Try.prog 110 F110 := .of Try.f110 Try.func110 (by kernel_rfl) (by kernel_rfl) (by kernel_rfl) (by kernel_rfl)

/-- plimsoll/plimsollref08.Step -/
def c111 : AC :=
 (.seq (.reg 0 [o 4 (.bx 7 (.t 0)), o 8 (.mv (.c (.nilsl))), o 9 (.mv (.c (.nilsl))), o 10 (.mv (ki 0))])
 (.seq (.seq (.reg 0 [o 20 (.mv (.t 1)), o 21 (.bin .lss (.t 20) (ki 0)), o 22 (.mv (.t 21)), og 23 22 false (.mv (.t 1)), og 24 22 false (.fa (.t 4) 3), og 25 22 false (.ld (.t 24) none), og 26 22 false (.ln (.t 25)), og 27 22 false (.bin .geq (.t 23) (.t 26)), o 28 (.pk (.t 22) (kb true) (.t 27)), o 29 (.mv (.t 28)), og 30 29 false (.mv (.t 2)), og 31 29 false (.bin .lss (.t 30) (ki 0)), o 32 (.pk (.t 29) (kb true) (.t 31)), o 33 (.mv (.t 32)), og 34 33 false (.mv (.t 2)), og 35 33 false (.fa (.t 4) 3), og 36 33 false (.ld (.t 35) none), og 37 33 false (.mv (.t 1)), og 38 33 false (.ia (.t 36) (.t 37) 8), og 39 33 false (.fa (.t 38) 4), og 40 33 false (.ld (.t 39) none), og 41 33 false (.ln (.t 40)), og 42 33 false (.bin .geq (.t 34) (.t 41)), o 43 (.pk (.t 33) (kb true) (.t 42))])
 (.cond (.t 43) (.seq (.reg 0 [o 8 (.mv (.c (.nilsl))), o 9 (.mv (.c (.nilsl))), o 10 (.mv (ki 1))])
  .ret) .skip))
 (.seq (.reg 0 [o 44 (.fa (.t 4) 3), o 45 (.ld (.t 44) none), o 46 (.mv (.t 1)), o 47 (.ia (.t 45) (.t 46) 8), o 48 (.fa (.t 47) 4), o 49 (.ld (.t 48) none), o 50 (.mv (.t 2)), o 51 (.ia (.t 49) (.t 50) 3), o 52 (.ld (.t 51) (some 3)), o 11 (.al [.int .i64 0, .int .i64 0, .int .i64 0]), os (.st 3 (.t 11) (.t 52))])
 (.seq (.reg 0 [o 53 (.mv (.t 2)), o 54 (.bin .add (.t 53) (ki 1)), o 55 (.bs 1 1 [.int .i64 0] [(0, (.t 54))]), o 12 (.mv (.t 55))])
 (.seq (.seq (.reg 0 [o 56 (.fa (.t 11) 0), o 57 (.ld (.t 56) none), o 58 (.bin .eql (.t 57) (ki 18))])
 (.cond (.t 58) (.reg 0 [o 59 (.fa (.t 11) 1), o 60 (.ld (.t 59) none), o 61 (.bs 1 1 [.int .i64 0] [(0, (.t 60))]), o 12 (.mv (.t 61))]) .skip))
 (.seq (.seq (.reg 0 [o 62 (.fa (.t 11) 0), o 63 (.ld (.t 62) none), o 64 (.bin .eql (.t 63) (ki 19))])
 (.cond (.t 64) (.reg 0 [o 65 (.mv (.t 12)), o 66 (.fa (.t 11) 1), o 67 (.ld (.t 66) none), o 68 (.bs 1 1 [.int .i64 0] [(0, (.t 67))]), o 69 (.ap 1 8 [.int .i64 0] (.t 65) (.t 68)), o 12 (.mv (.t 69))]) .skip))
 (.seq (.seq (.reg 0 [o 70 (.fa (.t 11) 0), o 71 (.ld (.t 70) none), o 72 (.bin .eql (.t 71) (ki 33))])
 (.cond (.t 72) (.reg 0 [o 73 (.bs 1 0 [.int .i64 0] []), o 12 (.mv (.t 73))]) .skip))
 (.seq (.seq (.reg 0 [o 74 (.mv (.t 12)), o 75 (.ln (.t 74)), o 76 (.bin .gtr (.t 75) (ki 0)), o 77 (.mv (.t 76)), og 78 77 true (.mv (.t 12)), og 79 77 true (.ia (.t 78) (ki 0) 1), og 80 77 true (.ld (.t 79) none), og 81 77 true (.fa (.t 4) 3), og 82 77 true (.ld (.t 81) none), og 83 77 true (.mv (.t 1)), og 84 77 true (.ia (.t 82) (.t 83) 8), og 85 77 true (.fa (.t 84) 4), og 86 77 true (.ld (.t 85) none), og 87 77 true (.ln (.t 86)), og 88 77 true (.bin .geq (.t 80) (.t 87)), o 89 (.pk (.t 77) (.t 88) (kb false))])
 (.cond (.t 89) (.seq (.reg 0 [o 8 (.mv (.c (.nilsl))), o 9 (.mv (.c (.nilsl))), o 10 (.mv (ki 4))])
  .ret) .skip))
 (.seq (.reg 0 [o 91 (.ld (.t 4) (some 7)), o 92 (.mv (.t 1)), o 93 (.ld (.t 11) (some 3)), o 94 (.pc 139 [(.t 91), (.t 92), (.t 93)]), o 90 (.mv (.t 94)), o 95 (.ex (.t 90) 0), o 96 (.ex (.t 90) 1), o 13 (.mv (.t 95)), o 14 (.mv (.t 96))])
 (.seq (.seq (.reg 0 [o 97 (.fa (.t 11) 0), o 98 (.ld (.t 97) none), o 99 (.bin .eql (.t 98) (ki 6)), o 100 (.mv (.t 99)), og 101 100 true (.mv (.t 3)), og 102 100 true (.ln (.t 101)), og 103 100 true (.bin .gtr (.t 102) (ki 0)), o 104 (.pk (.t 100) (.t 103) (kb false))])
 (.cond (.t 104) (.seq (.reg 0 [o 105 (.mv (.t 3)), o 106 (.mv (.t 3)), o 107 (.ln (.t 106)), o 108 (.bin .sub (.t 107) (ki 1)), o 109 (.ia (.t 105) (.t 108) 2), o 110 (.ld (.t 109) (some 2)), o 15 (.al [.int .i64 0, .int .i64 0]), os (.st 2 (.t 15) (.t 110))])
  (.reg 2 [o 111 (.bd [.int .i64 0, .int .i64 0] []), ⟨some 112, none, some 0, false, .bs 2 1 [.int .i64 0, .int .i64 0] [(0, (.t 111))]⟩, ⟨some 113, none, none, true, .ld (.t 15) (some 2)⟩, ⟨some 114, none, none, true, .ld (.t 15) (some 2)⟩, ⟨some 115, none, some 1, false, .bs 2 2 [.int .i64 0, .int .i64 0] [(0, (.t 113)), (1, (.t 114))]⟩, o 13 (.mv (.t 112)), o 14 (.mv (.t 115))])) .skip))
 (.seq (.seq (.reg 0 [o 116 (.fa (.t 11) 0), o 117 (.ld (.t 116) none), o 118 (.bin .eql (.t 117) (ki 6)), o 119 (.mv (.t 118)), og 120 119 true (.mv (.t 3)), og 121 119 true (.ln (.t 120)), og 122 119 true (.bin .eql (.t 121) (ki 0)), o 123 (.pk (.t 119) (.t 122) (kb false)), o 124 (.mv (.t 123)), og 125 124 false (.mv (.t 13)), og 126 124 false (.ln (.t 125)), og 127 124 false (.mv (.t 3)), og 128 124 false (.ln (.t 127)), og 129 124 false (.bin .gtr (.t 126) (.t 128)), o 130 (.pk (.t 124) (kb true) (.t 129)), o 131 (.mv (.t 130)), og 132 131 false (.mv (.t 3)), og 133 131 false (.ln (.t 132)), og 134 131 false (.mv (.t 13)), og 135 131 false (.ln (.t 134)), og 136 131 false (.bin .sub (.t 133) (.t 135)), og 137 131 false (.mv (.t 14)), og 138 131 false (.ln (.t 137)), og 139 131 false (.bin .add (.t 136) (.t 138)), og 140 131 false (.bin .gtr (.t 139) (ki 8)), o 141 (.pk (.t 131) (kb true) (.t 140))])
 (.cond (.t 141) (.seq (.reg 0 [o 8 (.mv (.c (.nilsl))), o 9 (.mv (.c (.nilsl))), o 10 (.mv (ki 4))])
  .ret) .skip))
 (.seq (.reg 0 [o 142 (.mv (.t 3)), o 143 (.ln (.t 142)), o 144 (.mv (.t 13)), o 145 (.ln (.t 144)), o 146 (.bin .sub (.t 143) (.t 145)), o 16 (.mv (.t 146))])
 (.seq (.seq (.reg 0 [o 17 (.mv (ki 0))])
 (.block 0 (.loop (.seq (.seq (.reg 0 [o 147 (.mv (.t 17)), o 148 (.mv (.t 13)), o 149 (.ln (.t 148)), o 150 (.bin .lss (.t 147) (.t 149))])
   (.cond (.t 150) .skip (.exit 0)))
   (.seq (.block 1 (.seq (.reg 2 [o 153 (.mv (.t 3)), o 154 (.mv (.t 16)), o 155 (.mv (.t 17)), o 156 (.bin .add (.t 154) (.t 155)), o 157 (.ia (.t 153) (.t 156) 2), ⟨some 158, none, none, true, .ld (.t 157) (some 2)⟩, o 159 (.mv (.t 13)), o 160 (.mv (.t 17)), o 161 (.ia (.t 159) (.t 160) 2), ⟨some 162, none, none, true, .ld (.t 161) (some 2)⟩, ⟨some 18, none, some 0, false, .al [.int .i64 0, .int .i64 0]⟩, ⟨some 19, none, some 1, false, .al [.int .i64 0, .int .i64 0]⟩, ⟨none, none, none, true, .st 2 (.t 18) (.t 158)⟩, os (.st 2 (.t 19) (.t 162))])
    (.seq (.seq (.reg 0 [o 163 (.fa (.t 19) 0), o 164 (.ld (.t 163) none), o 165 (.bin .eql (.t 164) (ki 0))])
    (.cond (.t 165) (.exit 1) .skip))
    (.seq (.seq (.reg 0 [o 166 (.fa (.t 19) 0), o 167 (.ld (.t 166) none), o 168 (.bin .eql (.t 167) (ki 4))])
    (.cond (.t 168) (.seq (.seq (.reg 0 [o 169 (.ld (.t 18) (some 2)), o 170 (.pc 125 [(.t 169)]), o 171 (.un .not (.t 170)), o 172 (.mv (.t 171)), og 173 172 false (.fa (.t 11) 0), og 174 172 false (.ld (.t 173) none), og 175 172 false (.bin .eql (.t 174) (ki 34)), og 176 172 false (.mv (.t 175)), og 177 176 true (.fa (.t 18) 0), og 178 176 true (.ld (.t 177) none), og 179 176 true (.bin .eql (.t 178) (ki 2)), og 180 172 false (.pk (.t 176) (.t 179) (kb false)), o 181 (.pk (.t 172) (kb true) (.t 180))])
     (.cond (.t 181) (.seq (.reg 0 [o 8 (.mv (.c (.nilsl))), o 9 (.mv (.c (.nilsl))), o 10 (.mv (ki 4))])
      .ret) .skip))
     (.exit 1)) .skip))
    (.seq (.reg 0 [o 182 (.fa (.t 4) 0), o 183 (.ld (.t 182) none), o 184 (.ld (.t 18) (some 2)), o 185 (.ld (.t 19) (some 2)), o 186 (.pc 68 [(.t 183), (.t 184), (.t 185)]), o 187 (.un .not (.t 186))])
    (.cond (.t 187) (.seq (.reg 0 [o 8 (.mv (.c (.nilsl))), o 9 (.mv (.c (.nilsl))), o 10 (.mv (ki 4))])
     .ret) .skip))))))
   (.reg 0 [o 151 (.mv (.t 17)), o 152 (.bin .add (.t 151) (ki 1)), o 17 (.mv (.t 152))]))))))
 (.seq (.reg 0 [o 188 (.bs 2 0 [.int .i64 0, .int .i64 0] []), o 189 (.mv (.t 3)), o 190 (.mv (.t 16)), o 191 (.sl (.t 189) 2 none (some (.t 190)) none), o 192 (.ap 2 16 [.int .i64 0, .int .i64 0] (.t 188) (.t 191)), o 193 (.mv (.t 14)), o 194 (.ap 2 16 [.int .i64 0, .int .i64 0] (.t 192) (.t 193)), o 195 (.mv (.t 12)), o 8 (.mv (.t 194)), o 9 (.mv (.t 195)), o 10 (.mv (ki 0))])
 .ret))))))))))))))
def F111 : AFn := ⟨c111, [0, 1, 2, 3, 4, 8, 9, 10, 11, 12, 13, 14, 15, 16, 17, 18, 19, 43, 58, 64, 72, 89, 104, 141, 150, 165, 168, 181, 187], [.tmp 8, .tmp 9, .tmp 10], 196⟩
theorem k111 : FnOk Try.prog 111 F111 := .of Try.f111 Try.func111 (by kernel_rfl) (by kernel_rfl) (by kernel_rfl) (by kernel_rfl)

/-- plimsoll/plimsollref01.Join -/
def c112 : AC :=
 (.seq (.reg 0 [o 4 (.bx 2 (.t 1)), o 5 (.bx 2 (.t 2)), o 6 (.al [.int .i64 0, .int .i64 0])])
 (.seq (.seq (.reg 0 [o 10 (.mv (.t 0)), o 11 (.ld (.t 4) (some 2)), o 12 (.ld (.t 5) (some 2)), o 13 (.pc 68 [(.t 10), (.t 11), (.t 12)])])
 (.cond (.t 13) (.seq (.reg 0 [o 14 (.ld (.t 5) (some 2)), os (.st 2 (.t 6) (.t 14))])
  .ret) .skip))
 (.seq (.seq (.reg 0 [o 15 (.mv (.t 0)), o 16 (.ld (.t 5) (some 2)), o 17 (.ld (.t 4) (some 2)), o 18 (.pc 68 [(.t 15), (.t 16), (.t 17)])])
 (.cond (.t 18) (.seq (.reg 0 [o 19 (.ld (.t 4) (some 2)), os (.st 2 (.t 6) (.t 19))])
  .ret) .skip))
 (.seq (.seq (.reg 0 [o 20 (.fa (.t 4) 0), o 21 (.ld (.t 20) none), o 22 (.bin .neq (.t 21) (ki 3)), o 23 (.mv (.t 22)), og 24 23 false (.fa (.t 5) 0), og 25 23 false (.ld (.t 24) none), og 26 23 false (.bin .neq (.t 25) (ki 3)), o 27 (.pk (.t 23) (kb true) (.t 26))])
 (.cond (.t 27) (.seq (.reg 0 [o 28 (.bd [.int .i64 0, .int .i64 0] []), os (.st 2 (.t 6) (.t 28))])
  .ret) .skip))
 (.seq (.reg 0 [o 29 (.mv (.t 0)), o 30 (.fa (.t 4) 1), o 31 (.ld (.t 30) none), o 32 (.pc 124 [(.t 29), (.t 31)]), o 33 (.mv (.t 0)), o 34 (.fa (.t 5) 1), o 35 (.ld (.t 34) none), o 36 (.pc 124 [(.t 33), (.t 35)]), o 7 (.mv (.t 32)), o 8 (.mv (.t 36))])
 (.seq (.seq (.reg 0 [o 9 (.mv (ki 1))])
 (.block 0 (.loop (.seq (.seq (.reg 0 [o 37 (.mv (.t 9)), o 38 (.mv (.t 7)), o 39 (.ln (.t 38)), o 40 (.bin .lss (.t 37) (.t 39))])
   (.cond (.t 40) .skip (.exit 0)))
   (.seq (.block 1 (.seq (.reg 0 [o 43 (.mv (.t 8)), o 44 (.mv (.t 7)), o 45 (.mv (.t 9)), o 46 (.ia (.t 44) (.t 45) 1), o 47 (.ld (.t 46) none), o 48 (.pc 59 [(.t 43), (.t 47)])])
    (.cond (.t 48) (.seq (.reg 0 [o 49 (.mv (.t 7)), o 50 (.mv (.t 9)), o 51 (.ia (.t 49) (.t 50) 1), o 52 (.ld (.t 51) none), o 53 (.bd [.int .i64 0, .int .i64 0] [(0, 1, (ki 3)), (1, 1, (.t 52))]), os (.st 2 (.t 6) (.t 53))])
     .ret) .skip)))
   (.reg 0 [o 41 (.mv (.t 9)), o 42 (.bin .add (.t 41) (ki 1)), o 9 (.mv (.t 42))]))))))
 (.seq (.reg 0 [o 54 (.bd [.int .i64 0, .int .i64 0] []), os (.st 2 (.t 6) (.t 54))])
 .ret)))))))
def F112 : AFn := ⟨c112, [0, 1, 2, 4, 5, 6, 7, 8, 9, 13, 18, 27, 40, 48], [.cell 6 (some 2)], 55⟩
theorem k112 : FnOk Try.prog 112 F112 := .of Try.f112 Try.func112 (by kernel_rfl) (by kernel_rfl) (by kernel_rfl) (by kernel_rfl)

/-- plimsoll/calls.Targets -/
def c113 : AC :=
 (.seq (.reg 0 [o 2 (.bx 7 (.t 0)), o 3 (.bx 3 (.t 1)), o 4 (.mv (.c (.nilsl)))])
 (.seq (.reg 0 [o 5 (.mv (.c (.nilsl)))])
 (.seq (.seq (.reg 0 [o 10 (.fa (.t 3) 0), o 11 (.ld (.t 10) none)])
 (.block 0 (.seq (.reg 0 [o 13 (.bin .eql (.t 11) (ki 31)), o 12 (.mv (.t 13))])
  (.cond (.t 12) (.reg 0 [o 14 (.mv (.t 5)), o 15 (.fa (.t 3) 1), o 16 (.ld (.t 15) none), o 17 (.bs 1 1 [.int .i64 0] [(0, (.t 16))]), o 18 (.ap 1 8 [.int .i64 0] (.t 14) (.t 17)), o 5 (.mv (.t 18))]) (.seq (.reg 0 [o 20 (.bin .eql (.t 11) (ki 32)), o 19 (.mv (.t 20))])
   (.cond (.t 19) (.seq (.reg 0 [o 21 (.ld (.t 2) (some 7)), o 22 (.fa (.t 3) 1), o 23 (.ld (.t 22) none), o 24 (.pc 140 [(.t 21), (.t 23)]), o 25 (.ln (.t 24)), o 26 (.mv (ki 0))])
    (.block 1 (.loop (.seq (.reg 0 [o 27 (.bin .lss (.t 26) (.t 25))])
      (.seq (.cond (.t 27) .skip (.exit 1))
      (.seq (.block 2 (.seq (.reg 0 [o 28 (.ia (.t 24) (.t 26) 1), o 29 (.ld (.t 28) none), o 7 (.mv (.t 29))])
       (.seq (.reg 0 [o 31 (.ld (.t 2) (some 7)), o 32 (.mv (.t 7)), o 33 (.fa (.t 3) 2), o 34 (.ld (.t 33) none), o 35 (.pc 141 [(.t 31), (.t 32), (.t 34)]), o 30 (.mv (.t 35)), o 36 (.ex (.t 30) 0), o 37 (.ex (.t 30) 1), o 8 (.mv (.t 36)), o 9 (.mv (.t 37))])
       (.seq (.reg 0 [o 38 (.mv (.t 9))])
       (.cond (.t 38) (.reg 0 [o 39 (.mv (.t 5)), o 40 (.mv (.t 8)), o 41 (.bs 1 1 [.int .i64 0] [(0, (.t 40))]), o 42 (.ap 1 8 [.int .i64 0] (.t 39) (.t 41)), o 5 (.mv (.t 42))]) .skip)))))
      (.reg 0 [o 43 (.bin .add (.t 26) (ki 1)), o 26 (.mv (.t 43))]))))))) .skip))))))
 (.seq (.reg 0 [o 44 (.mv (.t 5)), o 4 (.mv (.t 44))])
 .ret))))
def F113 : AFn := ⟨c113, [0, 1, 2, 3, 4, 5, 7, 8, 9, 11, 12, 19, 24, 25, 26, 27, 38], [.tmp 4], 45⟩
theorem k113 : FnOk Try.prog 113 F113 := .of Try.f113 Try.func113 (by kernel_rfl) (by kernel_rfl) (by kernel_rfl) (by kernel_rfl)

/-- slices.Sort[[]int,int] -/
def c114 : AC :=
 (.seq (.reg 0 [o 3 (.mv (.t 0)), o 4 (.ln (.t 3)), o 2 (.mv (.t 4))])
 (.reg 0 [o 5 (.mv (.t 0)), o 6 (.mv (.t 2)), o 7 (.mv (.t 2)), o 8 (.cv .u64 (.t 7)), o 9 (.pc 143 [(.t 8)]), o 10 (.ec 142 [(.t 5), (ki 0), (.t 6), (.t 9)])]))
def F114 : AFn := ⟨c114, [0, 2], [], 11⟩
theorem k114 : FnOk Try.prog 114 F114 := .of Try.f114 Try.func114 (by kernel_rfl) (by kernel_rfl) (by kernel_rfl) (by kernel_rfl)

/-- slices.Clip[[][]int,[]int] -/
def c117 : AC :=
 (.seq (.reg 0 [o 2 (.mv (.c (.nilsl)))])
 (.seq (.reg 0 [o 3 (.mv (.t 0)), o 4 (.mv (.t 0)), o 5 (.ln (.t 4)), o 6 (.mv (.t 0)), o 7 (.ln (.t 6)), o 8 (.sl (.t 3) 1 none (some (.t 5)) (some (.t 7))), o 2 (.mv (.t 8))])
 .ret))
def F117 : AFn := ⟨c117, [0, 2], [.tmp 2], 9⟩
theorem k117 : FnOk Try.prog 117 F117 := .of Try.f117 Try.func117 (by kernel_rfl) (by kernel_rfl) (by kernel_rfl) (by kernel_rfl)

/-- slices.ContainsFunc[[]int,int] -/
def c118 : AC :=
 (.seq (.reg 0 [o 4 (.mv (kb false))])
 (.seq (.reg 0 [o 5 (.mv (.t 0)), o 6 (.mv (.t 1)), o 7 (.pc 146 [(.t 5), (.t 6)]), o 8 (.bin .geq (.t 7) (ki 0)), o 4 (.mv (.t 8))])
 .ret))
def F118 : AFn := ⟨c118, [0, 1, 4], [.tmp 4], 9⟩
theorem k118 : FnOk Try.prog 118 F118 := .of Try.f118 Try.func118 (by kernel_rfl) (by kernel_rfl) (by kernel_rfl) (by kernel_rfl)

/-- plimsoll/scc.Cyclic$1 -/
def c119 : AC :=
 (.seq (.reg 0 [o 3 (.mv (kb false))])
 (.seq (.reg 0 [o 4 (.ld (.t 1) none), o 5 (.mv (.t 0)), o 6 (.pc 57 [(.t 4), (.t 5)]), o 3 (.mv (.t 6))])
 .ret))
def F119 : AFn := ⟨c119, [0, 1, 3], [.tmp 3], 7⟩
theorem k119 : FnOk Try.prog 119 F119 := .of Try.f119 Try.func119 (by kernel_rfl) (by kernel_rfl) (by kernel_rfl) (by kernel_rfl)

/-- slices.Index[[]int,int] -/
def c120 : AC :=
 (.seq (.reg 0 [o 4 (.mv (ki 0))])
 (.seq (.seq (.reg 0 [o 6 (.mv (.t 0)), o 7 (.ln (.t 6)), o 8 (.mv (ki 0))])
 (.block 0 (.loop (.seq (.reg 0 [o 9 (.bin .lss (.t 8) (.t 7))])
   (.seq (.cond (.t 9) .skip (.exit 0))
   (.seq (.block 1 (.seq (.reg 0 [o 10 (.mv (.t 8)), o 5 (.mv (.t 10))])
    (.seq (.reg 0 [o 11 (.mv (.t 1)), o 12 (.mv (.t 0)), o 13 (.mv (.t 5)), o 14 (.ia (.t 12) (.t 13) 1), o 15 (.ld (.t 14) none), o 16 (.bin .eql (.t 11) (.t 15))])
    (.cond (.t 16) (.seq (.reg 0 [o 17 (.mv (.t 5)), o 4 (.mv (.t 17))])
     .ret) .skip))))
   (.reg 0 [o 18 (.bin .add (.t 8) (ki 1)), o 8 (.mv (.t 18))])))))))
 (.seq (.reg 0 [o 4 (.mv (ki (-1)))])
 .ret)))
def F120 : AFn := ⟨c120, [0, 1, 4, 5, 7, 8, 9, 16], [.tmp 4], 19⟩
theorem k120 : FnOk Try.prog 120 F120 := .of Try.f120 Try.func120 (by kernel_rfl) (by kernel_rfl) (by kernel_rfl) (by kernel_rfl)

/-- plimsoll/plimsollref05.Below -/
def c121 : AC :=
 (.seq (.reg 0 [o 2 (.bx 7 (.t 0)), o 4 (.mv (.c (.nilsl)))])
 (.seq (.reg 0 [o 7 (.bs 1 0 [.int .i64 0] []), o 5 (.mv (.t 7))])
 (.seq (.seq (.reg 0 [o 6 (.mv (ki 0))])
 (.block 0 (.loop (.seq (.seq (.reg 0 [o 8 (.mv (.t 6)), o 9 (.fa (.t 2) 0), o 10 (.ld (.t 9) none), o 11 (.ln (.t 10)), o 12 (.bin .lss (.t 8) (.t 11))])
   (.cond (.t 12) .skip (.exit 0)))
   (.seq (.block 1 (.seq (.reg 0 [o 15 (.fa (.t 2) 0), o 16 (.ld (.t 15) none), o 17 (.mv (.t 6)), o 18 (.pc 124 [(.t 16), (.t 17)]), o 19 (.mv (.t 1)), o 20 (.pc 59 [(.t 18), (.t 19)])])
    (.cond (.t 20) (.reg 0 [o 21 (.mv (.t 5)), o 22 (.mv (.t 6)), o 23 (.bs 1 1 [.int .i64 0] [(0, (.t 22))]), o 24 (.ap 1 8 [.int .i64 0] (.t 21) (.t 23)), o 5 (.mv (.t 24))]) .skip)))
   (.reg 0 [o 13 (.mv (.t 6)), o 14 (.bin .add (.t 13) (ki 1)), o 6 (.mv (.t 14))]))))))
 (.seq (.reg 0 [o 25 (.mv (.t 5)), o 4 (.mv (.t 25))])
 .ret))))
def F121 : AFn := ⟨c121, [0, 1, 2, 4, 5, 6, 12, 20], [.tmp 4], 26⟩
theorem k121 : FnOk Try.prog 121 F121 := .of Try.f121 Try.func121 (by kernel_rfl) (by kernel_rfl) (by kernel_rfl) (by kernel_rfl)

/-- plimsoll/plimsollref05.Slot -/
def c122 : AC :=
 (.seq (.reg 0 [o 3 (.bx 7 (.t 0)), o 6 (.mv (ki 0)), o 7 (.mv (kb false))])
 (.seq (.seq (.reg 0 [o 8 (.mv (.t 1)), o 9 (.bin .lss (.t 8) (ki 0)), o 10 (.mv (.t 9)), og 11 10 false (.mv (.t 1)), og 12 10 false (.fa (.t 3) 0), og 13 10 false (.ld (.t 12) none), og 14 10 false (.ln (.t 13)), og 15 10 false (.bin .geq (.t 11) (.t 14)), o 16 (.pk (.t 10) (kb true) (.t 15)), o 17 (.mv (.t 16)), og 18 17 false (.mv (.t 2)), og 19 17 false (.bin .lss (.t 18) (ki 0)), o 20 (.pk (.t 17) (kb true) (.t 19)), o 21 (.mv (.t 20)), og 22 21 false (.mv (.t 2)), og 23 21 false (.fa (.t 3) 0), og 24 21 false (.ld (.t 23) none), og 25 21 false (.mv (.t 1)), og 26 21 false (.ia (.t 24) (.t 25) 3), og 27 21 false (.fa (.t 26) 2), og 28 21 false (.ld (.t 27) none), og 29 21 false (.ln (.t 28)), og 30 21 false (.bin .geq (.t 22) (.t 29)), o 31 (.pk (.t 21) (kb true) (.t 30))])
 (.cond (.t 31) (.seq (.reg 0 [o 6 (.mv (ki 0)), o 7 (.mv (kb false))])
  .ret) .skip))
 (.seq (.reg 0 [o 32 (.fa (.t 3) 0), o 33 (.ld (.t 32) none), o 34 (.mv (.t 1)), o 35 (.ia (.t 33) (.t 34) 3), o 36 (.fa (.t 35) 2), o 37 (.ld (.t 36) none), o 38 (.mv (.t 2)), o 39 (.ia (.t 37) (.t 38) 1), o 40 (.ld (.t 39) none), o 6 (.mv (.t 40)), o 7 (.mv (kb true))])
 .ret)))
def F122 : AFn := ⟨c122, [0, 1, 2, 3, 6, 7, 31], [.tmp 6, .tmp 7], 41⟩
theorem k122 : FnOk Try.prog 122 F122 := .of Try.f122 Try.func122 (by kernel_rfl) (by kernel_rfl) (by kernel_rfl) (by kernel_rfl)

/-- plimsoll/plimsollref01.Args -/
def c123 : AC :=
 (.seq (.reg 0 [o 2 (.mv (ki 0))])
 (.seq (.reg 0 [o 4 (.bs 1 11 [.int .i64 0] [(0, (ki 1)), (1, (ki 3)), (2, (ki 4)), (3, (ki 18)), (4, (ki 19)), (5, (ki 22)), (6, (ki 23)), (7, (ki 29)), (8, (ki 30)), (9, (ki 31)), (10, (ki 34))]), o 3 (.mv (.t 4))])
 (.seq (.seq (.reg 0 [o 5 (.mv (.t 0)), o 6 (.bin .lss (.t 5) (ki 1)), o 7 (.mv (.t 6)), og 8 7 false (.mv (.t 0)), og 9 7 false (.bin .gtr (.t 8) (ki 34)), o 10 (.pk (.t 7) (kb true) (.t 9))])
 (.cond (.t 10) (.seq (.reg 0 [o 2 (.mv (ki (-1)))])
  .ret) .skip))
 (.seq (.seq (.reg 0 [o 11 (.mv (.t 3)), o 12 (.mv (.t 0)), o 13 (.pc 59 [(.t 11), (.t 12)])])
 (.cond (.t 13) (.seq (.reg 0 [o 2 (.mv (ki 1))])
  .ret) .skip))
 (.seq (.seq (.reg 0 [o 14 (.mv (.t 0)), o 15 (.bin .eql (.t 14) (ki 27)), o 16 (.mv (.t 15)), og 17 16 false (.mv (.t 0)), og 18 16 false (.bin .eql (.t 17) (ki 28)), o 19 (.pk (.t 16) (kb true) (.t 18)), o 20 (.mv (.t 19)), og 21 20 false (.mv (.t 0)), og 22 20 false (.bin .eql (.t 21) (ki 32)), o 23 (.pk (.t 20) (kb true) (.t 22))])
 (.cond (.t 23) (.seq (.reg 0 [o 2 (.mv (ki 2))])
  .ret) .skip))
 (.seq (.reg 0 [o 2 (.mv (ki 0))])
 .ret))))))
def F123 : AFn := ⟨c123, [0, 2, 3, 10, 13, 23], [.tmp 2], 24⟩
theorem k123 : FnOk Try.prog 123 F123 := .of Try.f123 Try.func123 (by kernel_rfl) (by kernel_rfl) (by kernel_rfl) (by kernel_rfl)

/-- plimsoll/plimsollref01.Above -/
def c124 : AC :=
 (.seq (.reg 0 [o 4 (.mv (.c (.nilsl)))])
 (.seq (.reg 0 [o 7 (.bs 1 0 [.int .i64 0] []), o 5 (.mv (.t 7))])
 (.seq (.block 0 (.loop (.seq (.seq (.reg 0 [o 8 (.mv (.t 1)), o 9 (.bin .geq (.t 8) (ki 0)), o 10 (.mv (.t 9)), og 11 10 true (.mv (.t 1)), og 12 10 true (.mv (.t 0)), og 13 10 true (.ln (.t 12)), og 14 10 true (.bin .lss (.t 11) (.t 13)), o 15 (.pk (.t 10) (.t 14) (kb false))])
   (.cond (.t 15) .skip (.exit 0)))
   (.block 1 (.seq (.reg 0 [o 16 (.mv (.t 5)), o 17 (.mv (.t 1)), o 18 (.bs 1 1 [.int .i64 0] [(0, (.t 17))]), o 19 (.ap 1 8 [.int .i64 0] (.t 16) (.t 18)), o 5 (.mv (.t 19))])
    (.seq (.reg 0 [o 20 (.mv (.t 0)), o 21 (.mv (.t 1)), o 22 (.ia (.t 20) (.t 21) 3), o 23 (.fa (.t 22) 0), o 24 (.ld (.t 23) none), o 6 (.mv (.t 24))])
    (.seq (.seq (.reg 0 [o 25 (.mv (.t 6)), o 26 (.mv (.t 1)), o 27 (.bin .geq (.t 25) (.t 26))])
    (.cond (.t 27) (.reg 0 [o 6 (.mv (ki (-1)))]) .skip))
    (.reg 0 [o 28 (.mv (.t 6)), o 1 (.mv (.t 28))]))))))))
 (.seq (.reg 0 [o 29 (.mv (.t 5)), o 4 (.mv (.t 29))])
 .ret))))
def F124 : AFn := ⟨c124, [0, 1, 4, 5, 6, 15, 27], [.tmp 4], 30⟩
theorem k124 : FnOk Try.prog 124 F124 := .of Try.f124 Try.func124 (by kernel_rfl) (by kernel_rfl) (by kernel_rfl) (by kernel_rfl)

/-- plimsoll/plimsollref01.IsRef -/
def c125 : AC :=
 (.seq (.reg 0 [o 1 (.bx 2 (.t 0)), o 2 (.mv (kb false))])
 (.seq (.reg 0 [o 3 (.fa (.t 1) 0), o 4 (.ld (.t 3) none), o 5 (.bin .eql (.t 4) (ki 2)), o 6 (.mv (.t 5)), og 7 6 false (.fa (.t 1) 0), og 8 6 false (.ld (.t 7) none), og 9 6 false (.bin .eql (.t 8) (ki 3)), o 10 (.pk (.t 6) (kb true) (.t 9)), o 11 (.mv (.t 10)), og 12 11 false (.fa (.t 1) 0), og 13 11 false (.ld (.t 12) none), og 14 11 false (.bin .eql (.t 13) (ki 4)), o 15 (.pk (.t 11) (kb true) (.t 14)), o 2 (.mv (.t 15))])
 .ret))
def F125 : AFn := ⟨c125, [0, 1, 2], [.tmp 2], 16⟩
theorem k125 : FnOk Try.prog 125 F125 := .of Try.f125 Try.func125 (by kernel_rfl) (by kernel_rfl) (by kernel_rfl) (by kernel_rfl)

/-- plimsoll/image.types$1 -/
def c126 : AC :=
 (.seq (.reg 0 [o 1 (.bx 2 (.t 0)), o 2 (.mv (kb false))])
 (.seq (.reg 0 [o 3 (.ld (.t 1) (some 2)), o 4 (.pc 127 [(.t 3)]), o 5 (.un .not (.t 4)), o 2 (.mv (.t 5))])
 .ret))
def F126 : AFn := ⟨c126, [0, 1, 2], [.tmp 2], 6⟩
theorem k126 : FnOk Try.prog 126 F126 := .of Try.f126 Try.func126 (by kernel_rfl) (by kernel_rfl) (by kernel_rfl) (by kernel_rfl)

/-- plimsoll/image.typ -/
def c127 : AC :=
 (.seq (.reg 0 [o 1 (.bx 2 (.t 0)), o 2 (.mv (kb false))])
 (.seq (.reg 0 [o 3 (.fa (.t 1) 0), o 4 (.ld (.t 3) none), o 5 (.pc 78 [(.t 4), (ki 5)]), o 6 (.mv (.t 5)), og 7 6 true (.fa (.t 1) 1), og 8 6 true (.ld (.t 7) none), og 9 6 true (.bin .eql (.t 8) (ki 0)), og 10 6 true (.mv (.t 9)), og 11 10 false (.fa (.t 1) 0), og 12 10 false (.ld (.t 11) none), og 13 10 false (.bin .eql (.t 12) (ki 3)), og 14 10 false (.mv (.t 13)), og 15 14 true (.fa (.t 1) 1), og 16 14 true (.ld (.t 15) none), og 17 14 true (.pc 78 [(.t 16), (ki 7)]), og 18 10 false (.pk (.t 14) (.t 17) (kb false)), og 19 6 true (.pk (.t 10) (kb true) (.t 18)), o 20 (.pk (.t 6) (.t 19) (kb false)), o 2 (.mv (.t 20))])
 .ret))
def F127 : AFn := ⟨c127, [0, 1, 2], [.tmp 2], 21⟩
theorem k127 : FnOk Try.prog 127 F127 := .of Try.f127 Try.func127 (by kernel_rfl) (by kernel_rfl) (by kernel_rfl) (by kernel_rfl)

/-- slices.IndexFunc[[]plimsoll/api.Class,plimsoll/api.Class] -/
def c128 : AC :=
 (.seq (.reg 0 [o 4 (.mv (ki 0))])
 (.seq (.seq (.reg 0 [o 6 (.mv (.t 0)), o 7 (.ln (.t 6)), o 8 (.mv (ki 0))])
 (.block 0 (.loop (.seq (.reg 0 [o 9 (.bin .lss (.t 8) (.t 7))])
   (.seq (.cond (.t 9) .skip (.exit 0))
   (.seq (.block 1 (.seq (.reg 0 [o 10 (.mv (.t 8)), o 5 (.mv (.t 10))])
    (.seq (.reg 0 [o 11 (.mv (.t 1)), o 12 (.mv (.t 0)), o 13 (.mv (.t 5)), o 14 (.ia (.t 12) (.t 13) 3), o 15 (.ld (.t 14) (some 3)), o 16 (.dp (.t 11) [(.t 15)])])
    (.cond (.t 16) (.seq (.reg 0 [o 17 (.mv (.t 5)), o 4 (.mv (.t 17))])
     .ret) .skip))))
   (.reg 0 [o 18 (.bin .add (.t 8) (ki 1)), o 8 (.mv (.t 18))])))))))
 (.seq (.reg 0 [o 4 (.mv (ki (-1)))])
 .ret)))
def F128 : AFn := ⟨c128, [0, 1, 4, 5, 7, 8, 9, 16], [.tmp 4], 19⟩
theorem k128 : FnOk Try.prog 128 F128 := .of Try.f128 Try.func128 (by kernel_rfl) (by kernel_rfl) (by kernel_rfl) (by kernel_rfl)

/-- slices.IndexFunc[[]plimsoll/api.Method,plimsoll/api.Method] -/
def c129 : AC :=
 (.seq (.reg 0 [o 4 (.mv (ki 0))])
 (.seq (.seq (.reg 0 [o 6 (.mv (.t 0)), o 7 (.ln (.t 6)), o 8 (.mv (ki 0))])
 (.block 0 (.loop (.seq (.reg 0 [o 9 (.bin .lss (.t 8) (.t 7))])
   (.seq (.cond (.t 9) .skip (.exit 0))
   (.seq (.block 1 (.seq (.reg 0 [o 10 (.mv (.t 8)), o 5 (.mv (.t 10))])
    (.seq (.reg 0 [o 11 (.mv (.t 1)), o 12 (.mv (.t 0)), o 13 (.mv (.t 5)), o 14 (.ia (.t 12) (.t 13) 8), o 15 (.ld (.t 14) (some 8)), o 16 (.dp (.t 11) [(.t 15)])])
    (.cond (.t 16) (.seq (.reg 0 [o 17 (.mv (.t 5)), o 4 (.mv (.t 17))])
     .ret) .skip))))
   (.reg 0 [o 18 (.bin .add (.t 8) (ki 1)), o 8 (.mv (.t 18))])))))))
 (.seq (.reg 0 [o 4 (.mv (ki (-1)))])
 .ret)))
def F129 : AFn := ⟨c129, [0, 1, 4, 5, 7, 8, 9, 16], [.tmp 4], 19⟩
theorem k129 : FnOk Try.prog 129 F129 := .of Try.f129 Try.func129 (by kernel_rfl) (by kernel_rfl) (by kernel_rfl) (by kernel_rfl)

/-- plimsoll/inst.Good -/
def c130 : AC :=
 (.seq (.reg 0 [o 1 (.bx 3 (.t 0)), o 2 (.mv (kb false))])
 (.seq (.reg 0 [o 4 (.fa (.t 1) 0), o 5 (.ld (.t 4) none), o 6 (.pc 147 [(.t 5)]), o 3 (.mv (.t 6))])
 (.seq (.reg 0 [o 7 (.mv (.t 3)), o 8 (.bin .geq (.t 7) (ki 0)), o 9 (.mv (.t 8)), og 10 9 true (.fa (.t 1) 1), og 11 9 true (.ld (.t 10) none), og 12 9 true (.mv (.t 3)), og 13 9 true (.pc 148 [(.t 11), (.t 12), (ki 0)]), o 14 (.pk (.t 9) (.t 13) (kb false)), o 15 (.mv (.t 14)), og 16 15 true (.fa (.t 1) 2), og 17 15 true (.ld (.t 16) none), og 18 15 true (.mv (.t 3)), og 19 15 true (.pc 148 [(.t 17), (.t 18), (ki 1)]), o 20 (.pk (.t 15) (.t 19) (kb false)), o 2 (.mv (.t 20))])
 .ret)))
def F130 : AFn := ⟨c130, [0, 1, 2, 3], [.tmp 2], 21⟩
theorem k130 : FnOk Try.prog 130 F130 := .of Try.f130 Try.func130 (by kernel_rfl) (by kernel_rfl) (by kernel_rfl) (by kernel_rfl)

/-- plimsoll/image.numbers$1 -/
def c131 : AC :=
 (.seq (.reg 0 [o 3 (.mv (kb false))])
 (.seq (.reg 0 [o 4 (.mv (.t 0)), o 5 (.ld (.t 1) none), o 6 (.pc 78 [(.t 4), (.t 5)]), o 7 (.un .not (.t 6)), o 3 (.mv (.t 7))])
 .ret))
def F131 : AFn := ⟨c131, [0, 1, 3], [.tmp 3], 8⟩
theorem k131 : FnOk Try.prog 131 F131 := .of Try.f131 Try.func131 (by kernel_rfl) (by kernel_rfl) (by kernel_rfl) (by kernel_rfl)

/-- plimsoll/kind.Sub -/
def c132 : AC :=
 (.seq (.reg 0 [o 4 (.bx 2 (.t 1)), o 5 (.bx 2 (.t 2)), o 6 (.mv (kb false))])
 (.seq (.block 0 (.seq (.reg 0 [o 8 (.fa (.t 4) 0), o 9 (.ld (.t 8) none), o 10 (.bin .eql (.t 9) (ki 4)), o 7 (.mv (.t 10))])
  (.cond (.t 7) (.seq (.reg 0 [o 11 (.ld (.t 5) (some 2)), o 12 (.pc 149 [(.t 11)]), o 6 (.mv (.t 12))])
   .ret) (.seq (.reg 0 [o 14 (.fa (.t 4) 0), o 15 (.ld (.t 14) none), o 16 (.bin .eql (.t 15) (ki 3)), o 17 (.mv (.t 16)), og 18 17 true (.fa (.t 5) 0), og 19 17 true (.ld (.t 18) none), og 20 17 true (.bin .eql (.t 19) (ki 3)), o 21 (.pk (.t 17) (.t 20) (kb false)), o 13 (.mv (.t 21))])
   (.cond (.t 13) (.seq (.reg 0 [o 22 (.mv (.t 0)), o 23 (.fa (.t 4) 1), o 24 (.ld (.t 23) none), o 25 (.fa (.t 5) 1), o 26 (.ld (.t 25) none), o 27 (.pc 150 [(.t 22), (.t 24), (.t 26)]), o 6 (.mv (.t 27))])
    .ret) .skip)))))
 (.seq (.reg 0 [o 28 (.ld (.t 4) (some 2)), o 29 (.ld (.t 5) (some 2)), o 30 (.aeq false 2 (.t 28) (.t 29)), o 31 (.mv (.t 30)), og 32 31 true (.fa (.t 4) 0), og 33 31 true (.ld (.t 32) none), og 34 31 true (.bin .eql (.t 33) (ki 1)), og 35 31 true (.mv (.t 34)), og 36 35 false (.fa (.t 4) 0), og 37 35 false (.ld (.t 36) none), og 38 35 false (.bin .eql (.t 37) (ki 2)), og 39 31 true (.pk (.t 35) (kb true) (.t 38)), o 40 (.pk (.t 31) (.t 39) (kb false)), o 6 (.mv (.t 40))])
 .ret)))
def F132 : AFn := ⟨c132, [0, 1, 2, 4, 5, 6, 7, 13], [.tmp 6], 41⟩
theorem k132 : FnOk Try.prog 132 F132 := .of Try.f132 Try.func132 (by kernel_rfl) (by kernel_rfl) (by kernel_rfl) (by kernel_rfl)

/-- slices.IndexFunc[[]plimsoll/api.Type,plimsoll/api.Type] -/
def c133 : AC :=
 (.seq (.reg 0 [o 4 (.mv (ki 0))])
 (.seq (.seq (.reg 0 [o 6 (.mv (.t 0)), o 7 (.ln (.t 6)), o 8 (.mv (ki 0))])
 (.block 0 (.loop (.seq (.reg 0 [o 9 (.bin .lss (.t 8) (.t 7))])
   (.seq (.cond (.t 9) .skip (.exit 0))
   (.seq (.block 1 (.seq (.reg 0 [o 10 (.mv (.t 8)), o 5 (.mv (.t 10))])
    (.seq (.reg 0 [o 11 (.mv (.t 1)), o 12 (.mv (.t 0)), o 13 (.mv (.t 5)), o 14 (.ia (.t 12) (.t 13) 2), o 15 (.ld (.t 14) (some 2)), o 16 (.dp (.t 11) [(.t 15)])])
    (.cond (.t 16) (.seq (.reg 0 [o 17 (.mv (.t 5)), o 4 (.mv (.t 17))])
     .ret) .skip))))
   (.reg 0 [o 18 (.bin .add (.t 8) (ki 1)), o 8 (.mv (.t 18))])))))))
 (.seq (.reg 0 [o 4 (.mv (ki (-1)))])
 .ret)))
def F133 : AFn := ⟨c133, [0, 1, 4, 5, 7, 8, 9, 16], [.tmp 4], 19⟩
theorem k133 : FnOk Try.prog 133 F133 := .of Try.f133 Try.func133 (by kernel_rfl) (by kernel_rfl) (by kernel_rfl) (by kernel_rfl)

/-- plimsoll/image.putType -/
def c134 : AC :=
 (.seq (.reg 0 [o 3 (.bx 2 (.t 1)), o 4 (.mv (.c (.nilsl)))])
 (.seq (.reg 0 [o 5 (.mv (.t 0)), o 6 (.fa (.t 3) 0), o 7 (.ld (.t 6) none), o 8 (.ec 89 [(.t 5), (.t 7)]), o 0 (.mv (.t 8))])
 (.seq (.seq (.reg 0 [o 9 (.fa (.t 3) 0), o 10 (.ld (.t 9) none), o 11 (.bin .eql (.t 10) (ki 3))])
 (.cond (.t 11) (.reg 0 [o 12 (.mv (.t 0)), o 13 (.fa (.t 3) 1), o 14 (.ld (.t 13) none), o 15 (.ec 89 [(.t 12), (.t 14)]), o 0 (.mv (.t 15))]) .skip))
 (.seq (.reg 0 [o 16 (.mv (.t 0)), o 4 (.mv (.t 16))])
 .ret))))
def F134 : AFn := ⟨c134, [0, 1, 3, 4, 11], [.tmp 4], 17⟩
theorem k134 : FnOk Try.prog 134 F134 := .of Try.f134 Try.func134 (by kernel_rfl) (by kernel_rfl) (by kernel_rfl) (by kernel_rfl)

/-- plimsoll/inst.Put -/
def c135 : AC :=
 (.seq (.reg 0 [o 3 (.bx 3 (.t 1)), o 4 (.mv (.c (.nilsl)))])
 (.seq (.reg 0 [o 7 (.mv (.t 0)), o 8 (.fa (.t 3) 0), o 9 (.ld (.t 8) none), o 10 (.ec 89 [(.t 7), (.t 9)]), o 0 (.mv (.t 10))])
 (.seq (.seq (.reg 1 [o 11 (.fa (.t 3) 1), o 12 (.ld (.t 11) none), o 13 (.fa (.t 3) 2), o 14 (.ld (.t 13) none), ⟨some 15, none, some 0, false, .bs 1 2 [.int .i64 0] [(0, (.t 12)), (1, (.t 14))]⟩, o 16 (.fa (.t 3) 0), ⟨some 17, none, none, true, .ld (.t 16) none⟩, ⟨some 18, none, none, true, .pc 147 [(.t 17)]⟩, o 19 (.mx true (.t 18) [(ki 0)]), o 20 (.sl (.t 15) 1 none (some (.t 19)) none), o 21 (.ln (.t 20)), o 22 (.mv (ki 0))])
 (.block 0 (.loop (.seq (.reg 0 [o 23 (.bin .lss (.t 22) (.t 21))])
   (.seq (.cond (.t 23) .skip (.exit 0))
   (.seq (.block 1 (.seq (.reg 0 [o 24 (.ia (.t 20) (.t 22) 1), o 25 (.ld (.t 24) none), o 6 (.mv (.t 25))])
    (.reg 0 [o 26 (.mv (.t 0)), o 27 (.mv (.t 6)), o 28 (.ec 89 [(.t 26), (.t 27)]), o 0 (.mv (.t 28))])))
   (.reg 0 [o 29 (.bin .add (.t 22) (ki 1)), o 22 (.mv (.t 29))])))))))
 (.seq (.reg 0 [o 30 (.mv (.t 0)), o 4 (.mv (.t 30))])
 .ret))))
def F135 : AFn := ⟨c135, [0, 1, 3, 4, 6, 20, 21, 22, 23], [.tmp 4], 31⟩
theorem k135 : FnOk Try.prog 135 F135 := .of Try.f135 Try.func135 (by kernel_rfl) (by kernel_rfl) (by kernel_rfl) (by kernel_rfl)

/-- (*plimsoll/bits.Reader).next -/
def c136 : AC :=
 (.seq (.reg 0 [o 2 (.mv (.c (.int .u64 0))), o 3 (.mv (kb false))])
 (.seq (.reg 0 [o 4 (.mv (.c (.int .u64 0)))])
 (.seq (.seq (.reg 0 [o 7 (.mv (.t 0)), o 8 (.nc (.t 7)), o 9 (.fa (.t 8) 0), o 10 (.ld (.t 9) none), o 11 (.ln (.t 10)), o 12 (.mv (ki 0))])
 (.block 0 (.loop (.seq (.reg 0 [o 13 (.bin .lss (.t 12) (.t 11))])
   (.seq (.cond (.t 13) .skip (.exit 0))
   (.seq (.block 1 (.seq (.reg 0 [o 14 (.mv (.t 12)), o 15 (.ia (.t 10) (.t 12) 1), o 16 (.ld (.t 15) none), o 5 (.mv (.t 14)), o 6 (.mv (.t 16))])
    (.seq (.seq (.reg 0 [o 17 (.mv (.t 5)), o 18 (.bin .eql (.t 17) (ki 5))])
    (.cond (.t 18) (.exit 0) .skip))
    (.seq (.reg 0 [o 19 (.mv (.t 4)), o 20 (.mv (.t 6)), o 21 (.bin .rem (.t 20) (.c (.int .u8 128))), o 22 (.cv .u64 (.t 21)), o 23 (.mv (.t 5)), o 24 (.bin .mul (ki 7) (.t 23)), o 25 (.bin .shl (.t 22) (.t 24)), o 26 (.bin .or (.t 19) (.t 25)), o 4 (.mv (.t 26))])
    (.seq (.reg 0 [o 27 (.mv (.t 6)), o 28 (.bin .lss (.t 27) (.c (.int .u8 128)))])
    (.cond (.t 28) (.seq (.reg 0 [o 29 (.mv (.t 0)), o 30 (.mv (.t 0)), o 31 (.nc (.t 30)), o 32 (.fa (.t 31) 0), o 33 (.ld (.t 32) none), o 34 (.mv (.t 5)), o 35 (.bin .add (.t 34) (ki 1)), o 36 (.sl (.t 33) 1 (some (.t 35)) none none), o 37 (.nc (.t 29)), o 38 (.fa (.t 37) 0), os (.st 1 (.t 38) (.t 36))])
     (.seq (.reg 0 [o 39 (.mv (.t 4)), o 40 (.mv (.t 5)), o 41 (.bin .eql (.t 40) (ki 0)), o 42 (.mv (.t 41)), og 43 42 false (.mv (.t 6)), og 44 42 false (.bin .gtr (.t 43) (.c (.int .u8 0))), o 45 (.pk (.t 42) (kb true) (.t 44)), o 2 (.mv (.t 39)), o 3 (.mv (.t 45))])
     .ret)) .skip))))))
   (.reg 0 [o 46 (.bin .add (.t 12) (ki 1)), o 12 (.mv (.t 46))])))))))
 (.seq (.reg 0 [o 2 (.mv (.c (.int .u64 0))), o 3 (.mv (kb false))])
 .ret))))
def F136 : AFn := ⟨c136, [0, 2, 3, 4, 5, 6, 10, 11, 12, 13, 18, 28], [.tmp 2, .tmp 3], 47⟩
theorem k136 : FnOk Try.prog 136 F136 := .of Try.f136 Try.func136 (by kernel_rfl) (by kernel_rfl) (by kernel_rfl) (by kernel_rfl)

/-- plimsoll/image.getType -/
def c137 : AC :=
 (.seq (.reg 0 [o 2 (.al [.int .i64 0, .int .i64 0])])
 (.seq (.reg 0 [o 4 (.mv (.t 0)), o 5 (.ec 96 [(.t 4), (ki 5)]), o 6 (.bd [.int .i64 0, .int .i64 0] [(0, 1, (.t 5))]), o 3 (.al [.int .i64 0, .int .i64 0]), os (.st 2 (.t 3) (.t 6))])
 (.seq (.seq (.reg 0 [o 7 (.fa (.t 3) 0), o 8 (.ld (.t 7) none), o 9 (.bin .eql (.t 8) (ki 3))])
 (.cond (.t 9) (.reg 0 [o 10 (.mv (.t 0)), o 11 (.ec 96 [(.t 10), (ki 7)]), o 12 (.fa (.t 3) 1), os (.st 1 (.t 12) (.t 11))]) .skip))
 (.seq (.reg 0 [o 13 (.ld (.t 3) (some 2)), os (.st 2 (.t 2) (.t 13))])
 .ret))))
def F137 : AFn := ⟨c137, [0, 2, 3, 9], [.cell 2 (some 2)], 14⟩
theorem k137 : FnOk Try.prog 137 F137 := .of Try.f137 Try.func137 (by kernel_rfl) (by kernel_rfl) (by kernel_rfl) (by kernel_rfl)

/-- plimsoll/inst.Get -/
def c138 : AC :=
 (.seq (.reg 0 [o 2 (.al [.int .i64 0, .int .i64 0, .int .i64 0])])
 (.seq (.reg 0 [o 5 (.mv (.t 0)), o 6 (.ec 96 [(.t 5), (ki 34)]), o 7 (.bd [.int .i64 0, .int .i64 0, .int .i64 0] [(0, 1, (.t 6))]), o 3 (.al [.int .i64 0, .int .i64 0, .int .i64 0]), os (.st 3 (.t 3) (.t 7))])
 (.seq (.reg 0 [o 8 (.fa (.t 3) 0), o 9 (.ld (.t 8) none), o 10 (.pc 147 [(.t 9)]), o 4 (.mv (.t 10))])
 (.seq (.seq (.reg 0 [o 11 (.mv (.t 4)), o 12 (.bin .gtr (.t 11) (ki 0))])
 (.cond (.t 12) (.reg 0 [o 13 (.mv (.t 0)), o 14 (.ec 96 [(.t 13), (ki 255)]), o 15 (.fa (.t 3) 1), os (.st 1 (.t 15) (.t 14))]) .skip))
 (.seq (.seq (.reg 0 [o 16 (.mv (.t 4)), o 17 (.bin .gtr (.t 16) (ki 1))])
 (.cond (.t 17) (.reg 0 [o 18 (.mv (.t 0)), o 19 (.ec 96 [(.t 18), (ki 255)]), o 20 (.fa (.t 3) 2), os (.st 1 (.t 20) (.t 19))]) .skip))
 (.seq (.reg 0 [o 21 (.ld (.t 3) (some 3)), os (.st 3 (.t 2) (.t 21))])
 .ret))))))
def F138 : AFn := ⟨c138, [0, 2, 3, 4, 12, 17], [.cell 2 (some 3)], 22⟩
theorem k138 : FnOk Try.prog 138 F138 := .of Try.f138 Try.func138 (by kernel_rfl) (by kernel_rfl) (by kernel_rfl) (by kernel_rfl)

/-- plimsoll/plimsollref08.Rule -/
def c139 : AC :=
 (.seq (.reg 0 [o 3 (.bx 7 (.t 0)), o 5 (.bx 3 (.t 2)), o 6 (.mv (.c (.nilsl))), o 7 (.mv (.c (.nilsl)))])
 (.seq (.reg 0 [o 15 (.bd [.int .i64 0, .int .i64 0] [(0, 1, (ki 1))]), o 16 (.bd [.int .i64 0, .int .i64 0] [(0, 1, (ki 2))]), o 17 (.bd [.int .i64 0, .int .i64 0] [(0, 1, (ki 4))]), o 18 (.bd [.int .i64 0, .int .i64 0] []), o 8 (.al [.int .i64 0, .int .i64 0]), o 9 (.al [.int .i64 0, .int .i64 0]), o 10 (.al [.int .i64 0, .int .i64 0]), o 11 (.al [.int .i64 0, .int .i64 0]), os (.st 2 (.t 8) (.t 15)), os (.st 2 (.t 9) (.t 16)), os (.st 2 (.t 10) (.t 17)), os (.st 2 (.t 11) (.t 18))])
 (.seq (.reg 0 [o 19 (.fa (.t 5) 1), o 20 (.ld (.t 19) none), o 21 (.bd [.int .i64 0, .int .i64 0] [(0, 1, (ki 3)), (1, 1, (.t 20))]), o 12 (.al [.int .i64 0, .int .i64 0]), os (.st 2 (.t 12) (.t 21))])
 (.seq (.seq (.reg 0 [o 22 (.fa (.t 5) 0), o 23 (.ld (.t 22) none)])
 (.block 0 (.seq (.reg 0 [o 25 (.bin .eql (.t 23) (ki 1)), o 24 (.mv (.t 25))])
  (.cond (.t 24) (.seq (.reg 0 [o 26 (.ld (.t 8) (some 2)), o 27 (.bs 2 1 [.int .i64 0, .int .i64 0] [(0, (.t 26))]), o 6 (.mv (.c (.nilsl))), o 7 (.mv (.t 27))])
   .ret) (.seq (.reg 0 [o 29 (.bin .eql (.t 23) (ki 2)), o 28 (.mv (.t 29))])
   (.cond (.t 28) (.seq (.reg 0 [o 30 (.ld (.t 10) (some 2)), o 31 (.bs 2 1 [.int .i64 0, .int .i64 0] [(0, (.t 30))]), o 6 (.mv (.c (.nilsl))), o 7 (.mv (.t 31))])
    .ret) (.seq (.reg 0 [o 33 (.bin .eql (.t 23) (ki 3)), o 32 (.mv (.t 33))])
    (.cond (.t 32) (.seq (.reg 0 [o 34 (.fa (.t 3) 3), o 35 (.ld (.t 34) none), o 36 (.mv (.t 1)), o 37 (.ia (.t 35) (.t 36) 8), o 38 (.ld (.t 37) (some 8)), o 39 (.fa (.t 5) 1), o 40 (.ld (.t 39) none), o 41 (.pc 151 [(.t 38), (.t 40)]), o 42 (.bs 2 1 [.int .i64 0, .int .i64 0] [(0, (.t 41))]), o 6 (.mv (.c (.nilsl))), o 7 (.mv (.t 42))])
     .ret) (.seq (.reg 0 [o 44 (.bin .eql (.t 23) (ki 4)), o 43 (.mv (.t 44))])
     (.cond (.t 43) (.seq (.reg 0 [o 45 (.fa (.t 3) 3), o 46 (.ld (.t 45) none), o 47 (.mv (.t 1)), o 48 (.ia (.t 46) (.t 47) 8), o 49 (.ld (.t 48) (some 8)), o 50 (.fa (.t 5) 1), o 51 (.ld (.t 50) none), o 52 (.pc 151 [(.t 49), (.t 51)]), o 53 (.bs 2 1 [.int .i64 0, .int .i64 0] [(0, (.t 52))]), o 6 (.mv (.t 53)), o 7 (.mv (.c (.nilsl)))])
      .ret) (.seq (.reg 0 [o 55 (.bin .eql (.t 23) (ki 5)), o 54 (.mv (.t 55))])
      (.cond (.t 54) (.seq (.reg 0 [o 56 (.ld (.t 11) (some 2)), o 57 (.bs 2 1 [.int .i64 0, .int .i64 0] [(0, (.t 56))]), o 6 (.mv (.t 57)), o 7 (.mv (.c (.nilsl)))])
       .ret) (.seq (.reg 0 [o 59 (.bin .eql (.t 23) (ki 19)), o 58 (.mv (.t 59))])
       (.cond (.t 58) (.seq (.reg 0 [o 60 (.ld (.t 8) (some 2)), o 61 (.bs 2 1 [.int .i64 0, .int .i64 0] [(0, (.t 60))]), o 6 (.mv (.t 61)), o 7 (.mv (.c (.nilsl)))])
        .ret) (.seq (.reg 0 [o 63 (.bin .eql (.t 23) (ki 20)), o 62 (.mv (.t 63))])
        (.cond (.t 62) (.seq (.reg 2 [⟨some 64, none, none, true, .ld (.t 10) (some 2)⟩, ⟨some 65, none, some 0, false, .bs 2 1 [.int .i64 0, .int .i64 0] [(0, (.t 64))]⟩, ⟨some 66, none, none, true, .ld (.t 8) (some 2)⟩, ⟨some 67, none, some 1, false, .bs 2 1 [.int .i64 0, .int .i64 0] [(0, (.t 66))]⟩, o 6 (.mv (.t 65)), o 7 (.mv (.t 67))])
         .ret) (.seq (.reg 0 [o 69 (.bin .eql (.t 23) (ki 21)), o 68 (.mv (.t 69))])
         (.cond (.t 68) (.seq (.reg 2 [⟨some 70, none, none, true, .ld (.t 10) (some 2)⟩, ⟨some 71, none, none, true, .ld (.t 10) (some 2)⟩, ⟨some 72, none, some 0, false, .bs 2 2 [.int .i64 0, .int .i64 0] [(0, (.t 70)), (1, (.t 71))]⟩, ⟨some 73, none, none, true, .ld (.t 8) (some 2)⟩, ⟨some 74, none, some 1, false, .bs 2 1 [.int .i64 0, .int .i64 0] [(0, (.t 73))]⟩, o 6 (.mv (.t 72)), o 7 (.mv (.t 74))])
          .ret) (.seq (.reg 0 [o 76 (.bin .eql (.t 23) (ki 22)), o 75 (.mv (.t 76))])
          (.cond (.t 75) (.seq (.reg 0 [o 77 (.ld (.t 12) (some 2)), o 78 (.bs 2 1 [.int .i64 0, .int .i64 0] [(0, (.t 77))]), o 6 (.mv (.c (.nilsl))), o 7 (.mv (.t 78))])
           .ret) (.seq (.reg 0 [o 80 (.bin .eql (.t 23) (ki 23)), o 79 (.mv (.t 80))])
           (.cond (.t 79) (.seq (.reg 2 [⟨some 81, none, none, true, .ld (.t 8) (some 2)⟩, ⟨some 82, none, some 0, false, .bs 2 1 [.int .i64 0, .int .i64 0] [(0, (.t 81))]⟩, ⟨some 83, none, none, true, .ld (.t 9) (some 2)⟩, ⟨some 84, none, some 1, false, .bs 2 1 [.int .i64 0, .int .i64 0] [(0, (.t 83))]⟩, o 6 (.mv (.t 82)), o 7 (.mv (.t 84))])
            .ret) (.seq (.reg 0 [o 86 (.bin .eql (.t 23) (ki 24)), o 85 (.mv (.t 86))])
            (.cond (.t 85) (.seq (.reg 2 [⟨some 87, none, none, true, .ld (.t 9) (some 2)⟩, ⟨some 88, none, none, true, .ld (.t 8) (some 2)⟩, ⟨some 89, none, some 0, false, .bs 2 2 [.int .i64 0, .int .i64 0] [(0, (.t 87)), (1, (.t 88))]⟩, ⟨some 90, none, none, true, .ld (.t 8) (some 2)⟩, ⟨some 91, none, some 1, false, .bs 2 1 [.int .i64 0, .int .i64 0] [(0, (.t 90))]⟩, o 6 (.mv (.t 89)), o 7 (.mv (.t 91))])
             .ret) (.seq (.reg 0 [o 93 (.bin .eql (.t 23) (ki 25)), o 92 (.mv (.t 93))])
             (.cond (.t 92) (.seq (.reg 0 [o 94 (.ld (.t 9) (some 2)), o 95 (.ld (.t 8) (some 2)), o 96 (.ld (.t 8) (some 2)), o 97 (.bs 2 3 [.int .i64 0, .int .i64 0] [(0, (.t 94)), (1, (.t 95)), (2, (.t 96))]), o 6 (.mv (.t 97)), o 7 (.mv (.c (.nilsl)))])
              .ret) (.seq (.reg 0 [o 99 (.bin .eql (.t 23) (ki 26)), o 98 (.mv (.t 99))])
              (.cond (.t 98) (.seq (.reg 2 [⟨some 100, none, none, true, .ld (.t 9) (some 2)⟩, ⟨some 101, none, some 0, false, .bs 2 1 [.int .i64 0, .int .i64 0] [(0, (.t 100))]⟩, ⟨some 102, none, none, true, .ld (.t 8) (some 2)⟩, ⟨some 103, none, some 1, false, .bs 2 1 [.int .i64 0, .int .i64 0] [(0, (.t 102))]⟩, o 6 (.mv (.t 101)), o 7 (.mv (.t 103))])
               .ret) (.seq (.reg 0 [o 105 (.bin .eql (.t 23) (ki 27)), o 104 (.mv (.t 105))])
               (.cond (.t 104) (.seq (.reg 1 [o 106 (.ld (.t 12) (some 2)), ⟨some 107, none, some 0, false, .bs 2 1 [.int .i64 0, .int .i64 0] [(0, (.t 106))]⟩, ⟨some 108, none, none, true, .ld (.t 3) (some 7)⟩, o 109 (.fa (.t 5) 1), ⟨some 110, none, none, true, .ld (.t 109) none⟩, ⟨some 111, none, none, true, .pc 67 [(.t 108), (.t 110)]⟩, o 112 (.fa (.t 5) 2), ⟨some 113, none, none, true, .ld (.t 112) none⟩, o 114 (.fa (.t 5) 2), ⟨some 115, none, none, true, .ld (.t 114) none⟩, o 116 (.bin .add (.t 115) (ki 1)), o 117 (.sl (.t 111) 2 (some (.t 113)) (some (.t 116)) none), o 6 (.mv (.t 107)), o 7 (.mv (.t 117))])
                .ret) (.seq (.reg 0 [o 119 (.bin .eql (.t 23) (ki 28)), o 118 (.mv (.t 119))])
                (.cond (.t 118) (.seq (.reg 0 [o 120 (.ld (.t 12) (some 2)), o 121 (.ld (.t 3) (some 7)), o 122 (.fa (.t 5) 1), o 123 (.ld (.t 122) none), o 124 (.pc 67 [(.t 121), (.t 123)]), o 125 (.fa (.t 5) 2), o 126 (.ld (.t 125) none), o 127 (.ia (.t 124) (.t 126) 2), o 128 (.ld (.t 127) (some 2)), o 129 (.bs 2 2 [.int .i64 0, .int .i64 0] [(0, (.t 120)), (1, (.t 128))]), o 6 (.mv (.t 129)), o 7 (.mv (.c (.nilsl)))])
                 .ret) (.seq (.reg 0 [o 131 (.bin .eql (.t 23) (ki 29)), o 130 (.mv (.t 131))])
                 (.cond (.t 130) (.seq (.reg 0 [o 132 (.fa (.t 3) 1), o 133 (.ld (.t 132) none), o 134 (.fa (.t 5) 1), o 135 (.ld (.t 134) none), o 136 (.ia (.t 133) (.t 135) 2), o 137 (.ld (.t 136) (some 2)), o 138 (.bs 2 1 [.int .i64 0, .int .i64 0] [(0, (.t 137))]), o 6 (.mv (.c (.nilsl))), o 7 (.mv (.t 138))])
                  .ret) (.seq (.reg 0 [o 140 (.bin .eql (.t 23) (ki 30)), o 139 (.mv (.t 140))])
                  (.cond (.t 139) (.seq (.reg 0 [o 141 (.fa (.t 3) 1), o 142 (.ld (.t 141) none), o 143 (.fa (.t 5) 1), o 144 (.ld (.t 143) none), o 145 (.ia (.t 142) (.t 144) 2), o 146 (.ld (.t 145) (some 2)), o 147 (.bs 2 1 [.int .i64 0, .int .i64 0] [(0, (.t 146))]), o 6 (.mv (.t 147)), o 7 (.mv (.c (.nilsl)))])
                   .ret) (.seq (.reg 0 [o 149 (.bin .eql (.t 23) (ki 34)), o 148 (.mv (.t 149))])
                   (.cond (.t 148) (.seq (.reg 2 [⟨some 150, none, none, true, .ld (.t 10) (some 2)⟩, ⟨some 151, none, some 0, false, .bs 2 1 [.int .i64 0, .int .i64 0] [(0, (.t 150))]⟩, ⟨some 152, none, none, true, .ld (.t 12) (some 2)⟩, ⟨some 153, none, some 1, false, .bs 2 1 [.int .i64 0, .int .i64 0] [(0, (.t 152))]⟩, o 6 (.mv (.t 151)), o 7 (.mv (.t 153))])
                    .ret) (.seq (.reg 0 [o 155 (.bin .eql (.t 23) (ki 33)), o 154 (.mv (.t 155))])
                    (.cond (.t 154) (.seq (.reg 0 [o 156 (.fa (.t 3) 3), o 157 (.ld (.t 156) none), o 158 (.mv (.t 1)), o 159 (.ia (.t 157) (.t 158) 8), o 160 (.ld (.t 159) (some 8)), o 161 (.pc 152 [(.t 160)]), o 6 (.mv (.t 161)), o 7 (.mv (.c (.nilsl)))])
                     .ret) (.seq (.reg 0 [o 163 (.bin .eql (.t 23) (ki 31)), o 162 (.mv (.t 163))])
                     (.cond (.t 162) (.seq (.reg 0 [o 164 (.fa (.t 3) 3), o 165 (.ld (.t 164) none), o 166 (.fa (.t 5) 1), o 167 (.ld (.t 166) none), o 168 (.ia (.t 165) (.t 167) 8), o 169 (.fa (.t 168) 0), o 170 (.ld (.t 169) none), o 171 (.fa (.t 3) 3), o 172 (.ld (.t 171) none), o 173 (.fa (.t 5) 1), o 174 (.ld (.t 173) none), o 175 (.ia (.t 172) (.t 174) 8), o 176 (.ld (.t 175) (some 8)), o 177 (.pc 152 [(.t 176)]), o 6 (.mv (.t 170)), o 7 (.mv (.t 177))])
                      .ret) (.seq (.reg 0 [o 179 (.bin .eql (.t 23) (ki 32)), o 178 (.mv (.t 179))])
                      (.cond (.t 178) (.seq (.reg 0 [o 181 (.ld (.t 3) (some 7)), o 182 (.fa (.t 5) 1), o 183 (.ld (.t 182) none), o 184 (.fa (.t 5) 2), o 185 (.ld (.t 184) none), o 186 (.pc 122 [(.t 181), (.t 183), (.t 185)]), o 180 (.mv (.t 186)), o 187 (.ex (.t 180) 0), o 188 (.ex (.t 180) 1), o 13 (.mv (.t 187)), o 14 (.mv (.t 188))])
                       (.seq (.reg 2 [o 189 (.ld (.t 12) (some 2)), ⟨some 190, none, some 0, false, .bs 2 1 [.int .i64 0, .int .i64 0] [(0, (.t 189))]⟩, o 191 (.fa (.t 3) 3), ⟨some 192, none, none, true, .ld (.t 191) none⟩, o 193 (.mv (.t 13)), o 194 (.ia (.t 192) (.t 193) 8), o 195 (.fa (.t 194) 0), ⟨some 196, none, none, true, .ld (.t 195) none⟩, o 197 (.sl (.t 196) 2 (some (ki 1)) none none), ⟨some 198, none, some 1, true, .ap 2 16 [.int .i64 0, .int .i64 0] (.t 190) (.t 197)⟩, o 199 (.fa (.t 3) 3), ⟨some 200, none, none, true, .ld (.t 199) none⟩, o 201 (.mv (.t 13)), o 202 (.ia (.t 200) (.t 201) 8), ⟨some 203, none, none, true, .ld (.t 202) (some 8)⟩, o 204 (.pc 152 [(.t 203)]), o 6 (.mv (.t 198)), o 7 (.mv (.t 204))])
                       .ret)) .skip))))))))))))))))))))))))))))))))))))))))))))
 (.seq (.seq (.reg 0 [o 205 (.fa (.t 5) 0), o 206 (.ld (.t 205) none), o 207 (.bin .geq (.t 206) (ki 7)), o 208 (.mv (.t 207)), og 209 208 true (.fa (.t 5) 0), og 210 208 true (.ld (.t 209) none), og 211 208 true (.bin .leq (.t 210) (ki 17)), o 212 (.pk (.t 208) (.t 211) (kb false))])
 (.cond (.t 212) (.seq (.reg 2 [⟨some 213, none, none, true, .ld (.t 8) (some 2)⟩, ⟨some 214, none, none, true, .ld (.t 8) (some 2)⟩, ⟨some 215, none, some 0, false, .bs 2 2 [.int .i64 0, .int .i64 0] [(0, (.t 213)), (1, (.t 214))]⟩, ⟨some 216, none, none, true, .ld (.t 8) (some 2)⟩, ⟨some 217, none, some 1, false, .bs 2 1 [.int .i64 0, .int .i64 0] [(0, (.t 216))]⟩, o 6 (.mv (.t 215)), o 7 (.mv (.t 217))])
  .ret) .skip))
 (.seq (.reg 0 [o 6 (.mv (.c (.nilsl))), o 7 (.mv (.c (.nilsl)))])
 .ret))))))
def F139 : AFn := ⟨c139, [0, 1, 2, 3, 5, 6, 7, 8, 9, 10, 11, 12, 13, 23, 24, 28, 32, 43, 54, 58, 62, 68, 75, 79, 85, 92, 98, 104, 118, 130, 139, 148, 154, 162, 178, 212], [.tmp 6, .tmp 7], 218⟩
theorem k139 : FnOk Try.prog 139 F139 := .of Try.f139 Try.func139 (by kernel_rfl) (by kernel_rfl) (by kernel_rfl) (by kernel_rfl)

/-- plimsoll/class.Below -/
def c140 : AC :=
 (.seq (.reg 0 [o 2 (.bx 7 (.t 0)), o 4 (.mv (.c (.nilsl)))])
 (.seq (.reg 0 [o 5 (.mv (.c (.nilsl)))])
 (.seq (.seq (.reg 0 [o 7 (.fa (.t 2) 0), o 8 (.ld (.t 7) none), o 9 (.ln (.t 8)), o 10 (.mv (ki 0))])
 (.block 0 (.loop (.seq (.reg 0 [o 11 (.bin .lss (.t 10) (.t 9))])
   (.seq (.cond (.t 11) .skip (.exit 0))
   (.seq (.block 1 (.seq (.reg 0 [o 12 (.mv (.t 10)), o 6 (.mv (.t 12))])
    (.seq (.reg 0 [o 13 (.fa (.t 2) 0), o 14 (.ld (.t 13) none), o 15 (.mv (.t 6)), o 16 (.mv (.t 1)), o 17 (.pc 150 [(.t 14), (.t 15), (.t 16)])])
    (.cond (.t 17) (.reg 0 [o 18 (.mv (.t 5)), o 19 (.mv (.t 6)), o 20 (.bs 1 1 [.int .i64 0] [(0, (.t 19))]), o 21 (.ap 1 8 [.int .i64 0] (.t 18) (.t 20)), o 5 (.mv (.t 21))]) .skip))))
   (.reg 0 [o 22 (.bin .add (.t 10) (ki 1)), o 10 (.mv (.t 22))])))))))
 (.seq (.reg 0 [o 23 (.mv (.t 5)), o 24 (.ec 106 [(.t 23)]), o 4 (.mv (.t 24))])
 .ret))))
def F140 : AFn := ⟨c140, [0, 1, 2, 4, 5, 6, 9, 10, 11, 17], [.tmp 4], 25⟩
theorem k140 : FnOk Try.prog 140 F140 := .of Try.f140 Try.func140 (by kernel_rfl) (by kernel_rfl) (by kernel_rfl) (by kernel_rfl)

/-- plimsoll/class.Slot -/
def c141 : AC :=
 (.seq (.reg 0 [o 3 (.bx 7 (.t 0)), o 6 (.mv (ki 0)), o 7 (.mv (kb false))])
 (.seq (.seq (.reg 0 [o 8 (.mv (.t 1)), o 9 (.bin .lss (.t 8) (ki 0)), o 10 (.mv (.t 9)), og 11 10 false (.mv (.t 1)), og 12 10 false (.fa (.t 3) 0), og 13 10 false (.ld (.t 12) none), og 14 10 false (.ln (.t 13)), og 15 10 false (.bin .geq (.t 11) (.t 14)), o 16 (.pk (.t 10) (kb true) (.t 15)), o 17 (.mv (.t 16)), og 18 17 false (.mv (.t 2)), og 19 17 false (.bin .lss (.t 18) (ki 0)), o 20 (.pk (.t 17) (kb true) (.t 19)), o 21 (.mv (.t 20)), og 22 21 false (.mv (.t 2)), og 23 21 false (.fa (.t 3) 0), og 24 21 false (.ld (.t 23) none), og 25 21 false (.mv (.t 1)), og 26 21 false (.ia (.t 24) (.t 25) 3), og 27 21 false (.fa (.t 26) 2), og 28 21 false (.ld (.t 27) none), og 29 21 false (.ln (.t 28)), og 30 21 false (.bin .geq (.t 22) (.t 29)), o 31 (.pk (.t 21) (kb true) (.t 30))])
 (.cond (.t 31) (.seq (.reg 0 [o 6 (.mv (ki 0)), o 7 (.mv (kb false))])
  .ret) .skip))
 (.seq (.reg 0 [o 32 (.fa (.t 3) 0), o 33 (.ld (.t 32) none), o 34 (.mv (.t 1)), o 35 (.ia (.t 33) (.t 34) 3), o 36 (.fa (.t 35) 2), o 37 (.ld (.t 36) none), o 38 (.mv (.t 2)), o 39 (.ia (.t 37) (.t 38) 1), o 40 (.ld (.t 39) none), o 6 (.mv (.t 40)), o 7 (.mv (kb true))])
 .ret)))
def F141 : AFn := ⟨c141, [0, 1, 2, 3, 6, 7, 31], [.tmp 6, .tmp 7], 41⟩
theorem k141 : FnOk Try.prog 141 F141 := .of Try.f141 Try.func141 (by kernel_rfl) (by kernel_rfl) (by kernel_rfl) (by kernel_rfl)

/-- slices.pdqsortOrdered[int] -/
def c142 : AC :=
 (.seq (.reg 0 [o 8 (.mv (kb true))])
 (.seq (.reg 0 [o 9 (.mv (kb true))])
 (.block 0 (.loop (.block 1 (.seq (.reg 0 [o 19 (.mv (.t 2)), o 20 (.mv (.t 1)), o 21 (.bin .sub (.t 19) (.t 20)), o 10 (.mv (.t 21))])
    (.seq (.seq (.reg 0 [o 22 (.mv (.t 10)), o 23 (.bin .leq (.t 22) (ki 12))])
    (.cond (.t 23) (.seq (.reg 0 [o 24 (.mv (.t 0)), o 25 (.mv (.t 1)), o 26 (.mv (.t 2)), o 27 (.ec 153 [(.t 24), (.t 25), (.t 26)])])
     .ret) .skip))
    (.seq (.seq (.reg 0 [o 28 (.mv (.t 3)), o 29 (.bin .eql (.t 28) (ki 0))])
    (.cond (.t 29) (.seq (.reg 0 [o 30 (.mv (.t 0)), o 31 (.mv (.t 1)), o 32 (.mv (.t 2)), o 33 (.ec 154 [(.t 30), (.t 31), (.t 32)])])
     .ret) .skip))
    (.seq (.seq (.reg 0 [o 34 (.mv (.t 8)), o 35 (.un .not (.t 34))])
    (.cond (.t 35) (.seq (.reg 0 [o 36 (.mv (.t 0)), o 37 (.mv (.t 1)), o 38 (.mv (.t 2)), o 39 (.ec 155 [(.t 36), (.t 37), (.t 38)])])
     (.reg 0 [o 40 (.mv (.t 3)), o 41 (.bin .sub (.t 40) (ki 1)), o 3 (.mv (.t 41))])) .skip))
    (.seq (.reg 0 [o 43 (.mv (.t 0)), o 44 (.mv (.t 1)), o 45 (.mv (.t 2)), o 46 (.ec 156 [(.t 43), (.t 44), (.t 45)]), o 42 (.mv (.t 46)), o 47 (.ex (.t 42) 0), o 48 (.ex (.t 42) 1), o 11 (.mv (.t 47)), o 12 (.mv (.t 48))])
    (.seq (.seq (.reg 0 [o 49 (.mv (.t 12)), o 50 (.bin .eql (.t 49) (ki 2))])
    (.cond (.t 50) (.seq (.reg 0 [o 51 (.mv (.t 0)), o 52 (.mv (.t 1)), o 53 (.mv (.t 2)), o 54 (.ec 157 [(.t 51), (.t 52), (.t 53)])])
     (.seq (.reg 0 [o 55 (.mv (.t 2)), o 56 (.bin .sub (.t 55) (ki 1)), o 57 (.mv (.t 11)), o 58 (.mv (.t 1)), o 59 (.bin .sub (.t 57) (.t 58)), o 60 (.bin .sub (.t 56) (.t 59)), o 11 (.mv (.t 60))])
     (.reg 0 [o 12 (.mv (ki 1))]))) .skip))
    (.seq (.seq (.reg 0 [o 61 (.mv (.t 8)), o 62 (.mv (.t 61)), og 63 62 true (.mv (.t 9)), o 64 (.pk (.t 62) (.t 63) (kb false)), o 65 (.mv (.t 64)), og 66 65 true (.mv (.t 12)), og 67 65 true (.bin .eql (.t 66) (ki 1)), o 68 (.pk (.t 65) (.t 67) (kb false))])
    (.cond (.t 68) (.seq (.reg 0 [o 69 (.mv (.t 0)), o 70 (.mv (.t 1)), o 71 (.mv (.t 2)), o 72 (.ec 158 [(.t 69), (.t 70), (.t 71)])])
     (.cond (.t 72) .ret .skip)) .skip))
    (.seq (.seq (.reg 0 [o 73 (.mv (.t 1)), o 74 (.bin .gtr (.t 73) (ki 0)), o 75 (.mv (.t 74)), og 76 75 true (.mv (.t 0)), og 77 75 true (.mv (.t 1)), og 78 75 true (.bin .sub (.t 77) (ki 1)), og 79 75 true (.ia (.t 76) (.t 78) 1), og 80 75 true (.ld (.t 79) none), og 81 75 true (.mv (.t 0)), og 82 75 true (.mv (.t 11)), og 83 75 true (.ia (.t 81) (.t 82) 1), og 84 75 true (.ld (.t 83) none), og 85 75 true (.ec 159 [(.t 80), (.t 84)]), og 86 75 true (.un .not (.t 85)), o 87 (.pk (.t 75) (.t 86) (kb false))])
    (.cond (.t 87) (.seq (.reg 0 [o 88 (.mv (.t 0)), o 89 (.mv (.t 1)), o 90 (.mv (.t 2)), o 91 (.mv (.t 11)), o 92 (.ec 160 [(.t 88), (.t 89), (.t 90), (.t 91)]), o 13 (.mv (.t 92))])
     (.seq (.reg 0 [o 93 (.mv (.t 13)), o 1 (.mv (.t 93))])
     (.exit 1))) .skip))
    (.seq (.reg 0 [o 95 (.mv (.t 0)), o 96 (.mv (.t 1)), o 97 (.mv (.t 2)), o 98 (.mv (.t 11)), o 99 (.ec 161 [(.t 95), (.t 96), (.t 97), (.t 98)]), o 94 (.mv (.t 99)), o 100 (.ex (.t 94) 0), o 101 (.ex (.t 94) 1), o 14 (.mv (.t 100)), o 15 (.mv (.t 101))])
    (.seq (.reg 0 [o 102 (.mv (.t 15)), o 9 (.mv (.t 102))])
    (.seq (.reg 0 [o 103 (.mv (.t 14)), o 104 (.mv (.t 1)), o 105 (.bin .sub (.t 103) (.t 104)), o 106 (.mv (.t 2)), o 107 (.mv (.t 14)), o 108 (.bin .sub (.t 106) (.t 107)), o 16 (.mv (.t 105)), o 17 (.mv (.t 108))])
    (.seq (.reg 0 [o 109 (.mv (.t 10)), o 110 (.bin .quo (.t 109) (ki 8)), o 18 (.mv (.t 110))])
    (.seq (.reg 0 [o 111 (.mv (.t 16)), o 112 (.mv (.t 17)), o 113 (.bin .lss (.t 111) (.t 112))])
    (.cond (.t 113) (.seq (.reg 0 [o 114 (.mv (.t 16)), o 115 (.mv (.t 18)), o 116 (.bin .geq (.t 114) (.t 115)), o 8 (.mv (.t 116))])
     (.seq (.reg 0 [o 117 (.mv (.t 0)), o 118 (.mv (.t 1)), o 119 (.mv (.t 14)), o 120 (.mv (.t 3)), o 121 (.ec 142 [(.t 117), (.t 118), (.t 119), (.t 120)])])
     (.reg 0 [o 122 (.mv (.t 14)), o 123 (.bin .add (.t 122) (ki 1)), o 1 (.mv (.t 123))]))) (.seq (.reg 0 [o 124 (.mv (.t 17)), o 125 (.mv (.t 18)), o 126 (.bin .geq (.t 124) (.t 125)), o 8 (.mv (.t 126))])
     (.seq (.reg 0 [o 127 (.mv (.t 0)), o 128 (.mv (.t 14)), o 129 (.bin .add (.t 128) (ki 1)), o 130 (.mv (.t 2)), o 131 (.mv (.t 3)), o 132 (.ec 142 [(.t 127), (.t 129), (.t 130), (.t 131)])])
     (.reg 0 [o 133 (.mv (.t 14)), o 2 (.mv (.t 133))]))))))))))))))))))))))
def F142 : AFn := ⟨c142, [0, 1, 2, 3, 8, 9, 10, 11, 12, 13, 14, 15, 16, 17, 18, 23, 29, 35, 50, 68, 72, 87, 113], [], 134⟩
theorem k142 : FnOk Try.prog 142 F142 := .of Try.f142 Try.func142 (by kernel_rfl) (by kernel_rfl) (by kernel_rfl) (by kernel_rfl)

/-- math/bits.Len -/
def c143 : AC :=
 (.seq (.reg 0 [o 2 (.mv (ki 0))])
 (.seq (.cond (kb false) (.seq (.reg 0 [o 3 (.mv (.t 0)), o 4 (.cv .u32 (.t 3)), o 5 (.ec 162 [(.t 4)]), o 2 (.mv (.t 5))])
  .ret) .skip)
 (.seq (.reg 0 [o 6 (.mv (.t 0)), o 7 (.ec 163 [(.t 6)]), o 2 (.mv (.t 7))])
 .ret)))
def F143 : AFn := ⟨c143, [0, 2], [.tmp 2], 8⟩
theorem k143 : FnOk Try.prog 143 F143 := .of Try.f143 Try.func143 (by kernel_rfl) (by kernel_rfl) (by kernel_rfl) (by kernel_rfl)

/-- (*plimsoll/scc.finder).enter -/
def c144 : AC :=
 (.seq (.reg 0 [o 4 (.mv (.t 0)), o 5 (.nc (.t 4)), o 6 (.fa (.t 5) 5), o 7 (.ld (.t 6) none), o 8 (.bin .add (.t 7) (ki 1)), o 9 (.nc (.t 4)), o 10 (.fa (.t 9) 5), os (.st 1 (.t 10) (.t 8))])
 (.seq (.reg 0 [o 11 (.mv (.t 0)), o 12 (.nc (.t 11)), o 13 (.fa (.t 12) 1), o 14 (.ld (.t 13) none), o 15 (.mv (.t 1)), o 16 (.mv (.t 0)), o 17 (.nc (.t 16)), o 18 (.fa (.t 17) 2), o 19 (.ld (.t 18) none), o 20 (.mv (.t 1)), o 21 (.mv (.t 0)), o 22 (.nc (.t 21)), o 23 (.fa (.t 22) 5), o 24 (.ld (.t 23) none), o 25 (.mv (.t 0)), o 26 (.nc (.t 25)), o 27 (.fa (.t 26) 5), o 28 (.ld (.t 27) none), o 29 (.ia (.t 14) (.t 15) 1), os (.st 1 (.t 29) (.t 24)), o 30 (.ia (.t 19) (.t 20) 1), os (.st 1 (.t 30) (.t 28))])
 (.seq (.reg 0 [o 31 (.mv (.t 0)), o 32 (.nc (.t 31)), o 33 (.fa (.t 32) 3), o 34 (.ld (.t 33) none), o 35 (.mv (.t 1)), o 36 (.ia (.t 34) (.t 35) 1), os (.st 1 (.t 36) (kb true))])
 (.reg 0 [o 37 (.mv (.t 0)), o 38 (.mv (.t 0)), o 39 (.nc (.t 38)), o 40 (.fa (.t 39) 4), o 41 (.ld (.t 40) none), o 42 (.mv (.t 1)), o 43 (.bs 1 1 [.int .i64 0] [(0, (.t 42))]), o 44 (.ap 1 8 [.int .i64 0] (.t 41) (.t 43)), o 45 (.nc (.t 37)), o 46 (.fa (.t 45) 4), os (.st 1 (.t 46) (.t 44))]))))
def F144 : AFn := ⟨c144, [0, 1], [], 47⟩
theorem k144 : FnOk Try.prog 144 F144 := .of Try.f144 Try.func144 (by kernel_rfl) (by kernel_rfl) (by kernel_rfl) (by kernel_rfl)

/-- slices.IndexFunc[[]int,int] -/
def c146 : AC :=
 (.seq (.reg 0 [o 4 (.mv (ki 0))])
 (.seq (.seq (.reg 0 [o 6 (.mv (.t 0)), o 7 (.ln (.t 6)), o 8 (.mv (ki 0))])
 (.block 0 (.loop (.seq (.reg 0 [o 9 (.bin .lss (.t 8) (.t 7))])
   (.seq (.cond (.t 9) .skip (.exit 0))
   (.seq (.block 1 (.seq (.reg 0 [o 10 (.mv (.t 8)), o 5 (.mv (.t 10))])
    (.seq (.reg 0 [o 11 (.mv (.t 1)), o 12 (.mv (.t 0)), o 13 (.mv (.t 5)), o 14 (.ia (.t 12) (.t 13) 1), o 15 (.ld (.t 14) none), o 16 (.dp (.t 11) [(.t 15)])])
    (.cond (.t 16) (.seq (.reg 0 [o 17 (.mv (.t 5)), o 4 (.mv (.t 17))])
     .ret) .skip))))
   (.reg 0 [o 18 (.bin .add (.t 8) (ki 1)), o 8 (.mv (.t 18))])))))))
 (.seq (.reg 0 [o 4 (.mv (ki (-1)))])
 .ret)))
def F146 : AFn := ⟨c146, [0, 1, 4, 5, 7, 8, 9, 16], [.tmp 4], 19⟩
theorem k146 : FnOk Try.prog 146 F146 := .of Try.f146 Try.func146 (by kernel_rfl) (by kernel_rfl) (by kernel_rfl) (by kernel_rfl)

/-- plimsoll/inst.Args -/
def c147 : AC :=
 (.seq (.reg 0 [o 2 (.mv (ki 0))])
 (.seq (.seq (.reg 0 [o 3 (.mv (.t 0))])
 (.block 0 (.seq (.seq (.reg 0 [o 5 (.bin .eql (.t 3) (ki 1)), o 4 (.mv (.t 5))])
  (.cond (.t 4) .skip (.seq (.reg 0 [o 6 (.bin .eql (.t 3) (ki 3)), o 4 (.mv (.t 6))])
   (.cond (.t 4) .skip (.seq (.reg 0 [o 7 (.bin .eql (.t 3) (ki 4)), o 4 (.mv (.t 7))])
    (.cond (.t 4) .skip (.seq (.reg 0 [o 8 (.bin .eql (.t 3) (ki 18)), o 4 (.mv (.t 8))])
     (.cond (.t 4) .skip (.seq (.reg 0 [o 9 (.bin .eql (.t 3) (ki 19)), o 4 (.mv (.t 9))])
      (.cond (.t 4) .skip (.seq (.reg 0 [o 10 (.bin .eql (.t 3) (ki 22)), o 4 (.mv (.t 10))])
       (.cond (.t 4) .skip (.seq (.reg 0 [o 11 (.bin .eql (.t 3) (ki 23)), o 4 (.mv (.t 11))])
        (.cond (.t 4) .skip (.seq (.reg 0 [o 12 (.bin .eql (.t 3) (ki 29)), o 4 (.mv (.t 12))])
         (.cond (.t 4) .skip (.seq (.reg 0 [o 13 (.bin .eql (.t 3) (ki 30)), o 4 (.mv (.t 13))])
          (.cond (.t 4) .skip (.seq (.reg 0 [o 14 (.bin .eql (.t 3) (ki 31)), o 4 (.mv (.t 14))])
           (.cond (.t 4) .skip (.reg 0 [o 15 (.bin .eql (.t 3) (ki 34)), o 4 (.mv (.t 15))])))))))))))))))))))))
  (.cond (.t 4) (.seq (.reg 0 [o 2 (.mv (ki 1))])
   .ret) (.seq (.seq (.reg 0 [o 17 (.bin .eql (.t 3) (ki 27)), o 16 (.mv (.t 17))])
   (.cond (.t 16) .skip (.seq (.reg 0 [o 18 (.bin .eql (.t 3) (ki 28)), o 16 (.mv (.t 18))])
    (.cond (.t 16) .skip (.reg 0 [o 19 (.bin .eql (.t 3) (ki 32)), o 16 (.mv (.t 19))])))))
   (.cond (.t 16) (.seq (.reg 0 [o 2 (.mv (ki 2))])
    .ret) .skip))))))
 (.seq (.seq (.reg 0 [o 20 (.mv (.t 0)), o 21 (.bin .lss (.t 20) (ki 1)), o 22 (.mv (.t 21)), og 23 22 false (.mv (.t 0)), og 24 22 false (.bin .gtr (.t 23) (ki 34)), o 25 (.pk (.t 22) (kb true) (.t 24))])
 (.cond (.t 25) (.seq (.reg 0 [o 2 (.mv (ki (-1)))])
  .ret) .skip))
 (.seq (.reg 0 [o 2 (.mv (ki 0))])
 .ret))))
def F147 : AFn := ⟨c147, [0, 2, 3, 4, 16, 25], [.tmp 2], 26⟩
theorem k147 : FnOk Try.prog 147 F147 := .of Try.f147 Try.func147 (by kernel_rfl) (by kernel_rfl) (by kernel_rfl) (by kernel_rfl)

/-- plimsoll/inst.within -/
def c148 : AC :=
 (.seq (.reg 0 [o 6 (.mv (kb false))])
 (.seq (.seq (.reg 0 [o 7 (.mv (.t 2)), o 8 (.mv (.t 1)), o 9 (.bin .geq (.t 7) (.t 8))])
 (.cond (.t 9) (.seq (.reg 0 [o 10 (.mv (.t 0)), o 11 (.bin .eql (.t 10) (ki 0)), o 6 (.mv (.t 11))])
  .ret) .skip))
 (.seq (.reg 0 [o 12 (.mv (.t 0)), o 13 (.bin .geq (.t 12) (ki 0)), o 14 (.mv (.t 13)), og 15 14 true (.mv (.t 0)), og 16 14 true (.bin .leq (.t 15) (ki 255)), o 17 (.pk (.t 14) (.t 16) (kb false)), o 6 (.mv (.t 17))])
 .ret)))
def F148 : AFn := ⟨c148, [0, 1, 2, 6, 9], [.tmp 6], 18⟩
theorem k148 : FnOk Try.prog 148 F148 := .of Try.f148 Try.func148 (by kernel_rfl) (by kernel_rfl) (by kernel_rfl) (by kernel_rfl)

/-- plimsoll/kind.IsRef -/
def c149 : AC :=
 (.seq (.reg 0 [o 1 (.bx 2 (.t 0)), o 2 (.mv (kb false))])
 (.seq (.reg 0 [o 3 (.fa (.t 1) 0), o 4 (.ld (.t 3) none), o 5 (.bin .eql (.t 4) (ki 2)), o 6 (.mv (.t 5)), og 7 6 false (.fa (.t 1) 0), og 8 6 false (.ld (.t 7) none), og 9 6 false (.bin .eql (.t 8) (ki 3)), o 10 (.pk (.t 6) (kb true) (.t 9)), o 11 (.mv (.t 10)), og 12 11 false (.fa (.t 1) 0), og 13 11 false (.ld (.t 12) none), og 14 11 false (.bin .eql (.t 13) (ki 4)), o 15 (.pk (.t 11) (kb true) (.t 14)), o 2 (.mv (.t 15))])
 .ret))
def F149 : AFn := ⟨c149, [0, 1, 2], [.tmp 2], 16⟩
theorem k149 : FnOk Try.prog 149 F149 := .of Try.f149 Try.func149 (by kernel_rfl) (by kernel_rfl) (by kernel_rfl) (by kernel_rfl)

/-- plimsoll/kind.Below -/
def c150 : AC :=
 (.seq (.reg 0 [o 6 (.mv (kb false))])
 (.seq (.seq (.reg 0 [o 7 (.mv (.t 2)), o 8 (.bin .lss (.t 7) (ki 0)), o 9 (.mv (.t 8)), og 10 9 false (.mv (.t 2)), og 11 9 false (.mv (.t 0)), og 12 9 false (.ln (.t 11)), og 13 9 false (.bin .geq (.t 10) (.t 12)), o 14 (.pk (.t 9) (kb true) (.t 13)), o 15 (.mv (.t 14)), og 16 15 false (.mv (.t 1)), og 17 15 false (.mv (.t 0)), og 18 15 false (.ln (.t 17)), og 19 15 false (.bin .geq (.t 16) (.t 18)), o 20 (.pk (.t 15) (kb true) (.t 19))])
 (.cond (.t 20) (.seq (.reg 0 [o 6 (.mv (kb false))])
  .ret) .skip))
 (.seq (.block 0 (.loop (.seq (.seq (.reg 0 [o 21 (.mv (.t 1)), o 22 (.bin .geq (.t 21) (ki 0))])
   (.cond (.t 22) .skip (.exit 0)))
   (.seq (.block 1 (.seq (.reg 0 [o 26 (.mv (.t 1)), o 27 (.mv (.t 2)), o 28 (.bin .eql (.t 26) (.t 27))])
    (.cond (.t 28) (.seq (.reg 0 [o 6 (.mv (kb true))])
     .ret) .skip)))
   (.reg 0 [o 23 (.mv (.t 0)), o 24 (.mv (.t 1)), o 25 (.pc 164 [(.t 23), (.t 24)]), o 1 (.mv (.t 25))])))))
 (.seq (.reg 0 [o 6 (.mv (kb false))])
 .ret))))
def F150 : AFn := ⟨c150, [0, 1, 2, 6, 20, 22, 28], [.tmp 6], 29⟩
theorem k150 : FnOk Try.prog 150 F150 := .of Try.f150 Try.func150 (by kernel_rfl) (by kernel_rfl) (by kernel_rfl) (by kernel_rfl)

/-- plimsoll/plimsollref05.Local -/
def c151 : AC :=
 (.seq (.reg 0 [o 2 (.bx 8 (.t 0)), o 4 (.al [.int .i64 0, .int .i64 0])])
 (.seq (.reg 2 [⟨some 6, none, some 0, false, .bs 2 0 [.int .i64 0, .int .i64 0] []⟩, o 7 (.fa (.t 2) 0), ⟨some 8, none, none, true, .ld (.t 7) none⟩, ⟨some 9, none, some 1, true, .ap 2 16 [.int .i64 0, .int .i64 0] (.t 6) (.t 8)⟩, o 10 (.fa (.t 2) 1), ⟨some 11, none, none, true, .ld (.t 10) none⟩, o 12 (.ap 2 16 [.int .i64 0, .int .i64 0] (.t 9) (.t 11)), o 5 (.mv (.t 12))])
 (.seq (.seq (.reg 0 [o 13 (.mv (.t 1)), o 14 (.bin .lss (.t 13) (ki 0)), o 15 (.mv (.t 14)), og 16 15 false (.mv (.t 1)), og 17 15 false (.mv (.t 5)), og 18 15 false (.ln (.t 17)), og 19 15 false (.bin .geq (.t 16) (.t 18)), o 20 (.pk (.t 15) (kb true) (.t 19))])
 (.cond (.t 20) (.seq (.reg 0 [o 21 (.bd [.int .i64 0, .int .i64 0] []), os (.st 2 (.t 4) (.t 21))])
  .ret) .skip))
 (.seq (.reg 0 [o 22 (.mv (.t 5)), o 23 (.mv (.t 1)), o 24 (.ia (.t 22) (.t 23) 2), o 25 (.ld (.t 24) (some 2)), os (.st 2 (.t 4) (.t 25))])
 .ret))))
def F151 : AFn := ⟨c151, [0, 1, 2, 4, 5, 20], [.cell 4 (some 2)], 26⟩
theorem k151 : FnOk Try.prog 151 F151 := .of Try.f151 Try.func151 (by kernel_rfl) (by kernel_rfl) (by kernel_rfl) (by kernel_rfl)

/-- plimsoll/plimsollref08.gives -/
def c152 : AC :=
 (.seq (.reg 0 [o 1 (.bx 8 (.t 0)), o 2 (.mv (.c (.nilsl)))])
 (.seq (.seq (.reg 0 [o 3 (.fa (.t 1) 2), o 4 (.fa (.t 3) 0), o 5 (.ld (.t 4) none), o 6 (.bin .eql (.t 5) (ki 5))])
 (.cond (.t 6) (.seq (.reg 0 [o 2 (.mv (.c (.nilsl)))])
  .ret) .skip))
 (.seq (.reg 0 [o 7 (.fa (.t 1) 2), o 8 (.ld (.t 7) (some 2)), o 9 (.bs 2 1 [.int .i64 0, .int .i64 0] [(0, (.t 8))]), o 2 (.mv (.t 9))])
 .ret)))
def F152 : AFn := ⟨c152, [0, 1, 2, 6], [.tmp 2], 10⟩
theorem k152 : FnOk Try.prog 152 F152 := .of Try.f152 Try.func152 (by kernel_rfl) (by kernel_rfl) (by kernel_rfl) (by kernel_rfl)

/-- slices.insertionSortOrdered[int] -/
def c153 : AC :=
 (.seq (.reg 0 [o 8 (.mv (.t 1)), o 9 (.bin .add (.t 8) (ki 1)), o 6 (.mv (.t 9))])
 (.block 0 (.loop (.seq (.seq (.reg 0 [o 10 (.mv (.t 6)), o 11 (.mv (.t 2)), o 12 (.bin .lss (.t 10) (.t 11))])
   (.cond (.t 12) .skip (.exit 0)))
   (.seq (.block 1 (.seq (.reg 0 [o 15 (.mv (.t 6)), o 7 (.mv (.t 15))])
    (.block 2 (.loop (.seq (.seq (.reg 0 [o 16 (.mv (.t 7)), o 17 (.mv (.t 1)), o 18 (.bin .gtr (.t 16) (.t 17)), o 19 (.mv (.t 18)), og 20 19 true (.mv (.t 0)), og 21 19 true (.mv (.t 7)), og 22 19 true (.ia (.t 20) (.t 21) 1), og 23 19 true (.ld (.t 22) none), og 24 19 true (.mv (.t 0)), og 25 19 true (.mv (.t 7)), og 26 19 true (.bin .sub (.t 25) (ki 1)), og 27 19 true (.ia (.t 24) (.t 26) 1), og 28 19 true (.ld (.t 27) none), og 29 19 true (.ec 159 [(.t 23), (.t 28)]), o 30 (.pk (.t 19) (.t 29) (kb false))])
      (.cond (.t 30) .skip (.exit 2)))
      (.seq (.block 3 (.reg 0 [o 33 (.mv (.t 0)), o 34 (.mv (.t 7)), o 35 (.mv (.t 0)), o 36 (.mv (.t 7)), o 37 (.bin .sub (.t 36) (ki 1)), o 38 (.mv (.t 0)), o 39 (.mv (.t 7)), o 40 (.bin .sub (.t 39) (ki 1)), o 41 (.ia (.t 38) (.t 40) 1), o 42 (.ld (.t 41) none), o 43 (.mv (.t 0)), o 44 (.mv (.t 7)), o 45 (.ia (.t 43) (.t 44) 1), o 46 (.ld (.t 45) none), o 47 (.ia (.t 33) (.t 34) 1), os (.st 1 (.t 47) (.t 42)), o 48 (.ia (.t 35) (.t 37) 1), os (.st 1 (.t 48) (.t 46))]))
      (.reg 0 [o 31 (.mv (.t 7)), o 32 (.bin .sub (.t 31) (ki 1)), o 7 (.mv (.t 32))])))))))
   (.reg 0 [o 13 (.mv (.t 6)), o 14 (.bin .add (.t 13) (ki 1)), o 6 (.mv (.t 14))]))))))
def F153 : AFn := ⟨c153, [0, 1, 2, 6, 7, 12, 30], [], 49⟩
theorem k153 : FnOk Try.prog 153 F153 := .of Try.f153 Try.func153 (by kernel_rfl) (by kernel_rfl) (by kernel_rfl) (by kernel_rfl)

/-- slices.heapSortOrdered[int] -/
def c154 : AC :=
 (.seq (.reg 0 [o 11 (.mv (.t 1)), o 6 (.mv (.t 11))])
 (.seq (.reg 0 [o 7 (.mv (ki 0))])
 (.seq (.reg 0 [o 12 (.mv (.t 2)), o 13 (.mv (.t 1)), o 14 (.bin .sub (.t 12) (.t 13)), o 8 (.mv (.t 14))])
 (.seq (.seq (.reg 0 [o 15 (.mv (.t 8)), o 16 (.bin .sub (.t 15) (ki 1)), o 17 (.bin .quo (.t 16) (ki 2)), o 9 (.mv (.t 17))])
 (.block 0 (.loop (.seq (.seq (.reg 0 [o 18 (.mv (.t 9)), o 19 (.bin .geq (.t 18) (ki 0))])
   (.cond (.t 19) .skip (.exit 0)))
   (.seq (.block 1 (.reg 0 [o 22 (.mv (.t 0)), o 23 (.mv (.t 9)), o 24 (.mv (.t 8)), o 25 (.mv (.t 6)), o 26 (.ec 165 [(.t 22), (.t 23), (.t 24), (.t 25)])]))
   (.reg 0 [o 20 (.mv (.t 9)), o 21 (.bin .sub (.t 20) (ki 1)), o 9 (.mv (.t 21))]))))))
 (.seq (.reg 0 [o 27 (.mv (.t 8)), o 28 (.bin .sub (.t 27) (ki 1)), o 10 (.mv (.t 28))])
 (.block 2 (.loop (.seq (.seq (.reg 0 [o 29 (.mv (.t 10)), o 30 (.bin .geq (.t 29) (ki 0))])
   (.cond (.t 30) .skip (.exit 2)))
   (.seq (.block 3 (.seq (.reg 0 [o 33 (.mv (.t 0)), o 34 (.mv (.t 6)), o 35 (.mv (.t 0)), o 36 (.mv (.t 6)), o 37 (.mv (.t 10)), o 38 (.bin .add (.t 36) (.t 37)), o 39 (.mv (.t 0)), o 40 (.mv (.t 6)), o 41 (.mv (.t 10)), o 42 (.bin .add (.t 40) (.t 41)), o 43 (.ia (.t 39) (.t 42) 1), o 44 (.ld (.t 43) none), o 45 (.mv (.t 0)), o 46 (.mv (.t 6)), o 47 (.ia (.t 45) (.t 46) 1), o 48 (.ld (.t 47) none), o 49 (.ia (.t 33) (.t 34) 1), os (.st 1 (.t 49) (.t 44)), o 50 (.ia (.t 35) (.t 38) 1), os (.st 1 (.t 50) (.t 48))])
    (.reg 0 [o 51 (.mv (.t 0)), o 52 (.mv (.t 7)), o 53 (.mv (.t 10)), o 54 (.mv (.t 6)), o 55 (.ec 165 [(.t 51), (.t 52), (.t 53), (.t 54)])])))
   (.reg 0 [o 31 (.mv (.t 10)), o 32 (.bin .sub (.t 31) (ki 1)), o 10 (.mv (.t 32))]))))))))))
def F154 : AFn := ⟨c154, [0, 1, 2, 6, 7, 8, 9, 10, 19, 30], [], 56⟩
theorem k154 : FnOk Try.prog 154 F154 := .of Try.f154 Try.func154 (by kernel_rfl) (by kernel_rfl) (by kernel_rfl) (by kernel_rfl)

/-- slices.breakPatternsOrdered[int] -/
def c155 : AC :=
 (.seq (.reg 0 [o 11 (.mv (.t 2)), o 12 (.mv (.t 1)), o 13 (.bin .sub (.t 11) (.t 12)), o 6 (.mv (.t 13))])
 (.seq (.reg 0 [o 14 (.mv (.t 6)), o 15 (.bin .geq (.t 14) (ki 8))])
 (.cond (.t 15) (.seq (.reg 0 [o 16 (.mv (.t 6)), o 17 (.cv .u64 (.t 16)), o 7 (.al [.int .u64 0]), os (.st 1 (.t 7) (.t 17))])
  (.seq (.reg 0 [o 18 (.mv (.t 6)), o 19 (.ec 166 [(.t 18)]), o 8 (.mv (.t 19))])
  (.seq (.reg 0 [o 20 (.mv (.t 1)), o 21 (.mv (.t 6)), o 22 (.bin .quo (.t 21) (ki 4)), o 23 (.bin .mul (.t 22) (ki 2)), o 24 (.bin .add (.t 20) (.t 23)), o 25 (.bin .sub (.t 24) (ki 1)), o 9 (.mv (.t 25))])
  (.block 0 (.loop (.seq (.seq (.reg 0 [o 26 (.mv (.t 9)), o 27 (.mv (.t 1)), o 28 (.mv (.t 6)), o 29 (.bin .quo (.t 28) (ki 4)), o 30 (.bin .mul (.t 29) (ki 2)), o 31 (.bin .add (.t 27) (.t 30)), o 32 (.bin .add (.t 31) (ki 1)), o 33 (.bin .leq (.t 26) (.t 32))])
    (.cond (.t 33) .skip (.exit 0)))
    (.seq (.block 1 (.seq (.reg 0 [o 36 (.ec 167 [(.t 7)]), o 37 (.mv (.t 8)), o 38 (.bin .sub (.t 37) (.c (.int .u64 1))), o 39 (.bin .and (.t 36) (.t 38)), o 40 (.cv .i64 (.t 39)), o 10 (.mv (.t 40))])
     (.seq (.seq (.reg 0 [o 41 (.mv (.t 10)), o 42 (.mv (.t 6)), o 43 (.bin .geq (.t 41) (.t 42))])
     (.cond (.t 43) (.reg 0 [o 44 (.mv (.t 10)), o 45 (.mv (.t 6)), o 46 (.bin .sub (.t 44) (.t 45)), o 10 (.mv (.t 46))]) .skip))
     (.reg 0 [o 47 (.mv (.t 0)), o 48 (.mv (.t 9)), o 49 (.mv (.t 0)), o 50 (.mv (.t 1)), o 51 (.mv (.t 10)), o 52 (.bin .add (.t 50) (.t 51)), o 53 (.mv (.t 0)), o 54 (.mv (.t 1)), o 55 (.mv (.t 10)), o 56 (.bin .add (.t 54) (.t 55)), o 57 (.ia (.t 53) (.t 56) 1), o 58 (.ld (.t 57) none), o 59 (.mv (.t 0)), o 60 (.mv (.t 9)), o 61 (.ia (.t 59) (.t 60) 1), o 62 (.ld (.t 61) none), o 63 (.ia (.t 47) (.t 48) 1), os (.st 1 (.t 63) (.t 58)), o 64 (.ia (.t 49) (.t 52) 1), os (.st 1 (.t 64) (.t 62))]))))
    (.reg 0 [o 34 (.mv (.t 9)), o 35 (.bin .add (.t 34) (ki 1)), o 9 (.mv (.t 35))])))))))) .skip)))
def F155 : AFn := ⟨c155, [0, 1, 2, 6, 7, 8, 9, 10, 15, 33, 43], [], 65⟩
theorem k155 : FnOk Try.prog 155 F155 := .of Try.f155 Try.func155 (by kernel_rfl) (by kernel_rfl) (by kernel_rfl) (by kernel_rfl)

/-- slices.choosePivotOrdered[int] -/
def c156 : AC :=
 (.seq (.reg 0 [o 6 (.mv (ki 0)), o 7 (.mv (ki 0))])
 (.seq (.reg 0 [o 13 (.mv (.t 2)), o 14 (.mv (.t 1)), o 15 (.bin .sub (.t 13) (.t 14)), o 8 (.mv (.t 15))])
 (.seq (.reg 0 [o 9 (.al [.int .i64 0])])
 (.seq (.reg 0 [o 16 (.mv (.t 1)), o 17 (.mv (.t 8)), o 18 (.bin .quo (.t 17) (ki 4)), o 19 (.bin .mul (.t 18) (ki 1)), o 20 (.bin .add (.t 16) (.t 19)), o 10 (.mv (.t 20))])
 (.seq (.reg 0 [o 21 (.mv (.t 1)), o 22 (.mv (.t 8)), o 23 (.bin .quo (.t 22) (ki 4)), o 24 (.bin .mul (.t 23) (ki 2)), o 25 (.bin .add (.t 21) (.t 24)), o 11 (.mv (.t 25))])
 (.seq (.reg 0 [o 26 (.mv (.t 1)), o 27 (.mv (.t 8)), o 28 (.bin .quo (.t 27) (ki 4)), o 29 (.bin .mul (.t 28) (ki 3)), o 30 (.bin .add (.t 26) (.t 29)), o 12 (.mv (.t 30))])
 (.seq (.seq (.reg 0 [o 31 (.mv (.t 8)), o 32 (.bin .geq (.t 31) (ki 8))])
 (.cond (.t 32) (.seq (.seq (.reg 0 [o 33 (.mv (.t 8)), o 34 (.bin .geq (.t 33) (ki 50))])
  (.cond (.t 34) (.seq (.reg 0 [o 35 (.mv (.t 0)), o 36 (.mv (.t 10)), o 37 (.ec 168 [(.t 35), (.t 36), (.t 9)]), o 10 (.mv (.t 37))])
   (.seq (.reg 0 [o 38 (.mv (.t 0)), o 39 (.mv (.t 11)), o 40 (.ec 168 [(.t 38), (.t 39), (.t 9)]), o 11 (.mv (.t 40))])
   (.reg 0 [o 41 (.mv (.t 0)), o 42 (.mv (.t 12)), o 43 (.ec 168 [(.t 41), (.t 42), (.t 9)]), o 12 (.mv (.t 43))]))) .skip))
  (.reg 0 [o 44 (.mv (.t 0)), o 45 (.mv (.t 10)), o 46 (.mv (.t 11)), o 47 (.mv (.t 12)), o 48 (.ec 169 [(.t 44), (.t 45), (.t 46), (.t 47), (.t 9)]), o 11 (.mv (.t 48))])) .skip))
 (.seq (.reg 0 [o 49 (.ld (.t 9) none)])
 (.block 0 (.seq (.reg 0 [o 52 (.bin .eql (.t 49) (ki 0)), o 51 (.mv (.t 52))])
  (.cond (.t 51) (.seq (.reg 0 [o 53 (.mv (.t 11)), o 6 (.mv (.t 53)), o 7 (.mv (ki 1))])
   .ret) (.seq (.reg 0 [o 55 (.bin .eql (.t 49) (ki 12)), o 54 (.mv (.t 55))])
   (.cond (.t 54) (.seq (.reg 0 [o 56 (.mv (.t 11)), o 6 (.mv (.t 56)), o 7 (.mv (ki 2))])
    .ret) (.seq (.reg 0 [o 50 (.mv (.t 11)), o 6 (.mv (.t 50)), o 7 (.mv (ki 0))])
    .ret))))))))))))))
def F156 : AFn := ⟨c156, [0, 1, 2, 6, 7, 8, 9, 10, 11, 12, 32, 34, 49, 51, 54], [.tmp 6, .tmp 7], 57⟩
theorem k156 : FnOk Try.prog 156 F156 := .of Try.f156 Try.func156 (by kernel_rfl) (by kernel_rfl) (by kernel_rfl) (by kernel_rfl)

/-- slices.reverseRangeOrdered[int] -/
def c157 : AC :=
 (.seq (.reg 0 [o 8 (.mv (.t 1)), o 6 (.mv (.t 8))])
 (.seq (.reg 0 [o 9 (.mv (.t 2)), o 10 (.bin .sub (.t 9) (ki 1)), o 7 (.mv (.t 10))])
 (.block 0 (.loop (.seq (.seq (.reg 0 [o 11 (.mv (.t 6)), o 12 (.mv (.t 7)), o 13 (.bin .lss (.t 11) (.t 12))])
   (.cond (.t 13) .skip (.exit 0)))
   (.block 1 (.seq (.reg 0 [o 14 (.mv (.t 0)), o 15 (.mv (.t 6)), o 16 (.mv (.t 0)), o 17 (.mv (.t 7)), o 18 (.mv (.t 0)), o 19 (.mv (.t 7)), o 20 (.ia (.t 18) (.t 19) 1), o 21 (.ld (.t 20) none), o 22 (.mv (.t 0)), o 23 (.mv (.t 6)), o 24 (.ia (.t 22) (.t 23) 1), o 25 (.ld (.t 24) none), o 26 (.ia (.t 14) (.t 15) 1), os (.st 1 (.t 26) (.t 21)), o 27 (.ia (.t 16) (.t 17) 1), os (.st 1 (.t 27) (.t 25))])
    (.seq (.reg 0 [o 28 (.mv (.t 6)), o 29 (.bin .add (.t 28) (ki 1)), o 6 (.mv (.t 29))])
    (.reg 0 [o 30 (.mv (.t 7)), o 31 (.bin .sub (.t 30) (ki 1)), o 7 (.mv (.t 31))])))))))))
def F157 : AFn := ⟨c157, [0, 1, 2, 6, 7, 13], [], 32⟩
theorem k157 : FnOk Try.prog 157 F157 := .of Try.f157 Try.func157 (by kernel_rfl) (by kernel_rfl) (by kernel_rfl) (by kernel_rfl)

/-- slices.partialInsertionSortOrdered[int] -/
def c158 : AC :=
 (.seq (.reg 0 [o 6 (.mv (kb false))])
 (.seq (.reg 0 [o 11 (.mv (.t 1)), o 12 (.bin .add (.t 11) (ki 1)), o 7 (.mv (.t 12))])
 (.seq (.seq (.reg 0 [o 8 (.mv (ki 0))])
 (.block 0 (.loop (.seq (.seq (.reg 0 [o 13 (.mv (.t 8)), o 14 (.bin .lss (.t 13) (ki 5))])
   (.cond (.t 14) .skip (.exit 0)))
   (.seq (.block 1 (.seq (.block 2 (.loop (.seq (.seq (.reg 0 [o 17 (.mv (.t 7)), o 18 (.mv (.t 2)), o 19 (.bin .lss (.t 17) (.t 18)), o 20 (.mv (.t 19)), og 21 20 true (.mv (.t 0)), og 22 20 true (.mv (.t 7)), og 23 20 true (.ia (.t 21) (.t 22) 1), og 24 20 true (.ld (.t 23) none), og 25 20 true (.mv (.t 0)), og 26 20 true (.mv (.t 7)), og 27 20 true (.bin .sub (.t 26) (ki 1)), og 28 20 true (.ia (.t 25) (.t 27) 1), og 29 20 true (.ld (.t 28) none), og 30 20 true (.ec 159 [(.t 24), (.t 29)]), og 31 20 true (.un .not (.t 30)), o 32 (.pk (.t 20) (.t 31) (kb false))])
      (.cond (.t 32) .skip (.exit 2)))
      (.block 3 (.reg 0 [o 33 (.mv (.t 7)), o 34 (.bin .add (.t 33) (ki 1)), o 7 (.mv (.t 34))])))))
    (.seq (.seq (.reg 0 [o 35 (.mv (.t 7)), o 36 (.mv (.t 2)), o 37 (.bin .eql (.t 35) (.t 36))])
    (.cond (.t 37) (.seq (.reg 0 [o 6 (.mv (kb true))])
     .ret) .skip))
    (.seq (.seq (.reg 0 [o 38 (.mv (.t 2)), o 39 (.mv (.t 1)), o 40 (.bin .sub (.t 38) (.t 39)), o 41 (.bin .lss (.t 40) (ki 50))])
    (.cond (.t 41) (.seq (.reg 0 [o 6 (.mv (kb false))])
     .ret) .skip))
    (.seq (.reg 0 [o 42 (.mv (.t 0)), o 43 (.mv (.t 7)), o 44 (.mv (.t 0)), o 45 (.mv (.t 7)), o 46 (.bin .sub (.t 45) (ki 1)), o 47 (.mv (.t 0)), o 48 (.mv (.t 7)), o 49 (.bin .sub (.t 48) (ki 1)), o 50 (.ia (.t 47) (.t 49) 1), o 51 (.ld (.t 50) none), o 52 (.mv (.t 0)), o 53 (.mv (.t 7)), o 54 (.ia (.t 52) (.t 53) 1), o 55 (.ld (.t 54) none), o 56 (.ia (.t 42) (.t 43) 1), os (.st 1 (.t 56) (.t 51)), o 57 (.ia (.t 44) (.t 46) 1), os (.st 1 (.t 57) (.t 55))])
    (.seq (.seq (.reg 0 [o 58 (.mv (.t 7)), o 59 (.mv (.t 1)), o 60 (.bin .sub (.t 58) (.t 59)), o 61 (.bin .geq (.t 60) (ki 2))])
    (.cond (.t 61) (.seq (.reg 0 [o 62 (.mv (.t 7)), o 63 (.bin .sub (.t 62) (ki 1)), o 9 (.mv (.t 63))])
     (.block 4 (.loop (.seq (.seq (.reg 0 [o 64 (.mv (.t 9)), o 65 (.bin .geq (.t 64) (ki 1))])
       (.cond (.t 65) .skip (.exit 4)))
       (.seq (.block 5 (.seq (.seq (.reg 0 [o 68 (.mv (.t 0)), o 69 (.mv (.t 9)), o 70 (.ia (.t 68) (.t 69) 1), o 71 (.ld (.t 70) none), o 72 (.mv (.t 0)), o 73 (.mv (.t 9)), o 74 (.bin .sub (.t 73) (ki 1)), o 75 (.ia (.t 72) (.t 74) 1), o 76 (.ld (.t 75) none), o 77 (.ec 159 [(.t 71), (.t 76)]), o 78 (.un .not (.t 77))])
        (.cond (.t 78) (.exit 4) .skip))
        (.reg 0 [o 79 (.mv (.t 0)), o 80 (.mv (.t 9)), o 81 (.mv (.t 0)), o 82 (.mv (.t 9)), o 83 (.bin .sub (.t 82) (ki 1)), o 84 (.mv (.t 0)), o 85 (.mv (.t 9)), o 86 (.bin .sub (.t 85) (ki 1)), o 87 (.ia (.t 84) (.t 86) 1), o 88 (.ld (.t 87) none), o 89 (.mv (.t 0)), o 90 (.mv (.t 9)), o 91 (.ia (.t 89) (.t 90) 1), o 92 (.ld (.t 91) none), o 93 (.ia (.t 79) (.t 80) 1), os (.st 1 (.t 93) (.t 88)), o 94 (.ia (.t 81) (.t 83) 1), os (.st 1 (.t 94) (.t 92))])))
       (.reg 0 [o 66 (.mv (.t 9)), o 67 (.bin .sub (.t 66) (ki 1)), o 9 (.mv (.t 67))])))))) .skip))
    (.seq (.reg 0 [o 95 (.mv (.t 2)), o 96 (.mv (.t 7)), o 97 (.bin .sub (.t 95) (.t 96)), o 98 (.bin .geq (.t 97) (ki 2))])
    (.cond (.t 98) (.seq (.reg 0 [o 99 (.mv (.t 7)), o 100 (.bin .add (.t 99) (ki 1)), o 10 (.mv (.t 100))])
     (.block 6 (.loop (.seq (.seq (.reg 0 [o 101 (.mv (.t 10)), o 102 (.mv (.t 2)), o 103 (.bin .lss (.t 101) (.t 102))])
       (.cond (.t 103) .skip (.exit 6)))
       (.seq (.block 7 (.seq (.seq (.reg 0 [o 106 (.mv (.t 0)), o 107 (.mv (.t 10)), o 108 (.ia (.t 106) (.t 107) 1), o 109 (.ld (.t 108) none), o 110 (.mv (.t 0)), o 111 (.mv (.t 10)), o 112 (.bin .sub (.t 111) (ki 1)), o 113 (.ia (.t 110) (.t 112) 1), o 114 (.ld (.t 113) none), o 115 (.ec 159 [(.t 109), (.t 114)]), o 116 (.un .not (.t 115))])
        (.cond (.t 116) (.exit 6) .skip))
        (.reg 0 [o 117 (.mv (.t 0)), o 118 (.mv (.t 10)), o 119 (.mv (.t 0)), o 120 (.mv (.t 10)), o 121 (.bin .sub (.t 120) (ki 1)), o 122 (.mv (.t 0)), o 123 (.mv (.t 10)), o 124 (.bin .sub (.t 123) (ki 1)), o 125 (.ia (.t 122) (.t 124) 1), o 126 (.ld (.t 125) none), o 127 (.mv (.t 0)), o 128 (.mv (.t 10)), o 129 (.ia (.t 127) (.t 128) 1), o 130 (.ld (.t 129) none), o 131 (.ia (.t 117) (.t 118) 1), os (.st 1 (.t 131) (.t 126)), o 132 (.ia (.t 119) (.t 121) 1), os (.st 1 (.t 132) (.t 130))])))
       (.reg 0 [o 104 (.mv (.t 10)), o 105 (.bin .add (.t 104) (ki 1)), o 10 (.mv (.t 105))])))))) .skip))))))))
   (.reg 0 [o 15 (.mv (.t 8)), o 16 (.bin .add (.t 15) (ki 1)), o 8 (.mv (.t 16))]))))))
 (.seq (.reg 0 [o 6 (.mv (kb false))])
 .ret))))
def F158 : AFn := ⟨c158, [0, 1, 2, 6, 7, 8, 9, 10, 14, 32, 37, 41, 61, 65, 78, 98, 103, 116], [.tmp 6], 133⟩
theorem k158 : FnOk Try.prog 158 F158 := .of Try.f158 Try.func158 (by kernel_rfl) (by kernel_rfl) (by kernel_rfl) (by kernel_rfl)

/-- cmp.Less[int] -/
def c159 : AC :=
 (.seq (.reg 0 [o 4 (.mv (kb false))])
 (.seq (.reg 0 [o 5 (.mv (.t 0)), o 6 (.ec 170 [(.t 5)]), o 7 (.mv (.t 6)), og 8 7 true (.mv (.t 1)), og 9 7 true (.ec 170 [(.t 8)]), og 10 7 true (.un .not (.t 9)), o 11 (.pk (.t 7) (.t 10) (kb false)), o 12 (.mv (.t 11)), og 13 12 false (.mv (.t 0)), og 14 12 false (.mv (.t 1)), og 15 12 false (.bin .lss (.t 13) (.t 14)), o 16 (.pk (.t 12) (kb true) (.t 15)), o 4 (.mv (.t 16))])
 .ret))
def F159 : AFn := ⟨c159, [0, 1, 4], [.tmp 4], 17⟩
theorem k159 : FnOk Try.prog 159 F159 := .of Try.f159 Try.func159 (by kernel_rfl) (by kernel_rfl) (by kernel_rfl) (by kernel_rfl)

/-- slices.partitionEqualOrdered[int] -/
def c160 : AC :=
 (.seq (.reg 0 [o 8 (.mv (ki 0))])
 (.seq (.reg 0 [o 11 (.mv (.t 0)), o 12 (.mv (.t 1)), o 13 (.mv (.t 0)), o 14 (.mv (.t 3)), o 15 (.mv (.t 0)), o 16 (.mv (.t 3)), o 17 (.ia (.t 15) (.t 16) 1), o 18 (.ld (.t 17) none), o 19 (.mv (.t 0)), o 20 (.mv (.t 1)), o 21 (.ia (.t 19) (.t 20) 1), o 22 (.ld (.t 21) none), o 23 (.ia (.t 11) (.t 12) 1), os (.st 1 (.t 23) (.t 18)), o 24 (.ia (.t 13) (.t 14) 1), os (.st 1 (.t 24) (.t 22))])
 (.seq (.reg 0 [o 25 (.mv (.t 1)), o 26 (.bin .add (.t 25) (ki 1)), o 27 (.mv (.t 2)), o 28 (.bin .sub (.t 27) (ki 1)), o 9 (.mv (.t 26)), o 10 (.mv (.t 28))])
 (.seq (.block 0 (.loop (.block 1 (.seq (.block 2 (.loop (.seq (.seq (.reg 0 [o 29 (.mv (.t 9)), o 30 (.mv (.t 10)), o 31 (.bin .leq (.t 29) (.t 30)), o 32 (.mv (.t 31)), og 33 32 true (.mv (.t 0)), og 34 32 true (.mv (.t 1)), og 35 32 true (.ia (.t 33) (.t 34) 1), og 36 32 true (.ld (.t 35) none), og 37 32 true (.mv (.t 0)), og 38 32 true (.mv (.t 9)), og 39 32 true (.ia (.t 37) (.t 38) 1), og 40 32 true (.ld (.t 39) none), og 41 32 true (.ec 159 [(.t 36), (.t 40)]), og 42 32 true (.un .not (.t 41)), o 43 (.pk (.t 32) (.t 42) (kb false))])
      (.cond (.t 43) .skip (.exit 2)))
      (.block 3 (.reg 0 [o 44 (.mv (.t 9)), o 45 (.bin .add (.t 44) (ki 1)), o 9 (.mv (.t 45))])))))
    (.seq (.block 4 (.loop (.seq (.seq (.reg 0 [o 46 (.mv (.t 9)), o 47 (.mv (.t 10)), o 48 (.bin .leq (.t 46) (.t 47)), o 49 (.mv (.t 48)), og 50 49 true (.mv (.t 0)), og 51 49 true (.mv (.t 1)), og 52 49 true (.ia (.t 50) (.t 51) 1), og 53 49 true (.ld (.t 52) none), og 54 49 true (.mv (.t 0)), og 55 49 true (.mv (.t 10)), og 56 49 true (.ia (.t 54) (.t 55) 1), og 57 49 true (.ld (.t 56) none), og 58 49 true (.ec 159 [(.t 53), (.t 57)]), o 59 (.pk (.t 49) (.t 58) (kb false))])
      (.cond (.t 59) .skip (.exit 4)))
      (.block 5 (.reg 0 [o 60 (.mv (.t 10)), o 61 (.bin .sub (.t 60) (ki 1)), o 10 (.mv (.t 61))])))))
    (.seq (.seq (.reg 0 [o 62 (.mv (.t 9)), o 63 (.mv (.t 10)), o 64 (.bin .gtr (.t 62) (.t 63))])
    (.cond (.t 64) (.exit 0) .skip))
    (.seq (.reg 0 [o 65 (.mv (.t 0)), o 66 (.mv (.t 9)), o 67 (.mv (.t 0)), o 68 (.mv (.t 10)), o 69 (.mv (.t 0)), o 70 (.mv (.t 10)), o 71 (.ia (.t 69) (.t 70) 1), o 72 (.ld (.t 71) none), o 73 (.mv (.t 0)), o 74 (.mv (.t 9)), o 75 (.ia (.t 73) (.t 74) 1), o 76 (.ld (.t 75) none), o 77 (.ia (.t 65) (.t 66) 1), os (.st 1 (.t 77) (.t 72)), o 78 (.ia (.t 67) (.t 68) 1), os (.st 1 (.t 78) (.t 76))])
    (.seq (.reg 0 [o 79 (.mv (.t 9)), o 80 (.bin .add (.t 79) (ki 1)), o 9 (.mv (.t 80))])
    (.reg 0 [o 81 (.mv (.t 10)), o 82 (.bin .sub (.t 81) (ki 1)), o 10 (.mv (.t 82))])))))))))
 (.seq (.reg 0 [o 83 (.mv (.t 9)), o 8 (.mv (.t 83))])
 .ret)))))
def F160 : AFn := ⟨c160, [0, 1, 2, 3, 8, 9, 10, 43, 59, 64], [.tmp 8], 84⟩
theorem k160 : FnOk Try.prog 160 F160 := .of Try.f160 Try.func160 (by kernel_rfl) (by kernel_rfl) (by kernel_rfl) (by kernel_rfl)

/-- slices.partitionOrdered[int] -/
def c161 : AC :=
 (.seq (.reg 0 [o 8 (.mv (ki 0)), o 9 (.mv (kb false))])
 (.seq (.reg 0 [o 12 (.mv (.t 0)), o 13 (.mv (.t 1)), o 14 (.mv (.t 0)), o 15 (.mv (.t 3)), o 16 (.mv (.t 0)), o 17 (.mv (.t 3)), o 18 (.ia (.t 16) (.t 17) 1), o 19 (.ld (.t 18) none), o 20 (.mv (.t 0)), o 21 (.mv (.t 1)), o 22 (.ia (.t 20) (.t 21) 1), o 23 (.ld (.t 22) none), o 24 (.ia (.t 12) (.t 13) 1), os (.st 1 (.t 24) (.t 19)), o 25 (.ia (.t 14) (.t 15) 1), os (.st 1 (.t 25) (.t 23))])
 (.seq (.reg 0 [o 26 (.mv (.t 1)), o 27 (.bin .add (.t 26) (ki 1)), o 28 (.mv (.t 2)), o 29 (.bin .sub (.t 28) (ki 1)), o 10 (.mv (.t 27)), o 11 (.mv (.t 29))])
 (.seq (.block 0 (.loop (.seq (.seq (.reg 0 [o 30 (.mv (.t 10)), o 31 (.mv (.t 11)), o 32 (.bin .leq (.t 30) (.t 31)), o 33 (.mv (.t 32)), og 34 33 true (.mv (.t 0)), og 35 33 true (.mv (.t 10)), og 36 33 true (.ia (.t 34) (.t 35) 1), og 37 33 true (.ld (.t 36) none), og 38 33 true (.mv (.t 0)), og 39 33 true (.mv (.t 1)), og 40 33 true (.ia (.t 38) (.t 39) 1), og 41 33 true (.ld (.t 40) none), og 42 33 true (.ec 159 [(.t 37), (.t 41)]), o 43 (.pk (.t 33) (.t 42) (kb false))])
   (.cond (.t 43) .skip (.exit 0)))
   (.block 1 (.reg 0 [o 44 (.mv (.t 10)), o 45 (.bin .add (.t 44) (ki 1)), o 10 (.mv (.t 45))])))))
 (.seq (.block 2 (.loop (.seq (.seq (.reg 0 [o 46 (.mv (.t 10)), o 47 (.mv (.t 11)), o 48 (.bin .leq (.t 46) (.t 47)), o 49 (.mv (.t 48)), og 50 49 true (.mv (.t 0)), og 51 49 true (.mv (.t 11)), og 52 49 true (.ia (.t 50) (.t 51) 1), og 53 49 true (.ld (.t 52) none), og 54 49 true (.mv (.t 0)), og 55 49 true (.mv (.t 1)), og 56 49 true (.ia (.t 54) (.t 55) 1), og 57 49 true (.ld (.t 56) none), og 58 49 true (.ec 159 [(.t 53), (.t 57)]), og 59 49 true (.un .not (.t 58)), o 60 (.pk (.t 49) (.t 59) (kb false))])
   (.cond (.t 60) .skip (.exit 2)))
   (.block 3 (.reg 0 [o 61 (.mv (.t 11)), o 62 (.bin .sub (.t 61) (ki 1)), o 11 (.mv (.t 62))])))))
 (.seq (.seq (.reg 0 [o 63 (.mv (.t 10)), o 64 (.mv (.t 11)), o 65 (.bin .gtr (.t 63) (.t 64))])
 (.cond (.t 65) (.seq (.reg 0 [o 66 (.mv (.t 0)), o 67 (.mv (.t 11)), o 68 (.mv (.t 0)), o 69 (.mv (.t 1)), o 70 (.mv (.t 0)), o 71 (.mv (.t 1)), o 72 (.ia (.t 70) (.t 71) 1), o 73 (.ld (.t 72) none), o 74 (.mv (.t 0)), o 75 (.mv (.t 11)), o 76 (.ia (.t 74) (.t 75) 1), o 77 (.ld (.t 76) none), o 78 (.ia (.t 66) (.t 67) 1), os (.st 1 (.t 78) (.t 73)), o 79 (.ia (.t 68) (.t 69) 1), os (.st 1 (.t 79) (.t 77))])
  (.seq (.reg 0 [o 80 (.mv (.t 11)), o 8 (.mv (.t 80)), o 9 (.mv (kb true))])
  .ret)) .skip))
 (.seq (.reg 0 [o 81 (.mv (.t 0)), o 82 (.mv (.t 10)), o 83 (.mv (.t 0)), o 84 (.mv (.t 11)), o 85 (.mv (.t 0)), o 86 (.mv (.t 11)), o 87 (.ia (.t 85) (.t 86) 1), o 88 (.ld (.t 87) none), o 89 (.mv (.t 0)), o 90 (.mv (.t 10)), o 91 (.ia (.t 89) (.t 90) 1), o 92 (.ld (.t 91) none), o 93 (.ia (.t 81) (.t 82) 1), os (.st 1 (.t 93) (.t 88)), o 94 (.ia (.t 83) (.t 84) 1), os (.st 1 (.t 94) (.t 92))])
 (.seq (.reg 0 [o 95 (.mv (.t 10)), o 96 (.bin .add (.t 95) (ki 1)), o 10 (.mv (.t 96))])
 (.seq (.reg 0 [o 97 (.mv (.t 11)), o 98 (.bin .sub (.t 97) (ki 1)), o 11 (.mv (.t 98))])
 (.seq (.block 4 (.loop (.block 5 (.seq (.block 6 (.loop (.seq (.seq (.reg 0 [o 99 (.mv (.t 10)), o 100 (.mv (.t 11)), o 101 (.bin .leq (.t 99) (.t 100)), o 102 (.mv (.t 101)), og 103 102 true (.mv (.t 0)), og 104 102 true (.mv (.t 10)), og 105 102 true (.ia (.t 103) (.t 104) 1), og 106 102 true (.ld (.t 105) none), og 107 102 true (.mv (.t 0)), og 108 102 true (.mv (.t 1)), og 109 102 true (.ia (.t 107) (.t 108) 1), og 110 102 true (.ld (.t 109) none), og 111 102 true (.ec 159 [(.t 106), (.t 110)]), o 112 (.pk (.t 102) (.t 111) (kb false))])
      (.cond (.t 112) .skip (.exit 6)))
      (.block 7 (.reg 0 [o 113 (.mv (.t 10)), o 114 (.bin .add (.t 113) (ki 1)), o 10 (.mv (.t 114))])))))
    (.seq (.block 8 (.loop (.seq (.seq (.reg 0 [o 115 (.mv (.t 10)), o 116 (.mv (.t 11)), o 117 (.bin .leq (.t 115) (.t 116)), o 118 (.mv (.t 117)), og 119 118 true (.mv (.t 0)), og 120 118 true (.mv (.t 11)), og 121 118 true (.ia (.t 119) (.t 120) 1), og 122 118 true (.ld (.t 121) none), og 123 118 true (.mv (.t 0)), og 124 118 true (.mv (.t 1)), og 125 118 true (.ia (.t 123) (.t 124) 1), og 126 118 true (.ld (.t 125) none), og 127 118 true (.ec 159 [(.t 122), (.t 126)]), og 128 118 true (.un .not (.t 127)), o 129 (.pk (.t 118) (.t 128) (kb false))])
      (.cond (.t 129) .skip (.exit 8)))
      (.block 9 (.reg 0 [o 130 (.mv (.t 11)), o 131 (.bin .sub (.t 130) (ki 1)), o 11 (.mv (.t 131))])))))
    (.seq (.seq (.reg 0 [o 132 (.mv (.t 10)), o 133 (.mv (.t 11)), o 134 (.bin .gtr (.t 132) (.t 133))])
    (.cond (.t 134) (.exit 4) .skip))
    (.seq (.reg 0 [o 135 (.mv (.t 0)), o 136 (.mv (.t 10)), o 137 (.mv (.t 0)), o 138 (.mv (.t 11)), o 139 (.mv (.t 0)), o 140 (.mv (.t 11)), o 141 (.ia (.t 139) (.t 140) 1), o 142 (.ld (.t 141) none), o 143 (.mv (.t 0)), o 144 (.mv (.t 10)), o 145 (.ia (.t 143) (.t 144) 1), o 146 (.ld (.t 145) none), o 147 (.ia (.t 135) (.t 136) 1), os (.st 1 (.t 147) (.t 142)), o 148 (.ia (.t 137) (.t 138) 1), os (.st 1 (.t 148) (.t 146))])
    (.seq (.reg 0 [o 149 (.mv (.t 10)), o 150 (.bin .add (.t 149) (ki 1)), o 10 (.mv (.t 150))])
    (.reg 0 [o 151 (.mv (.t 11)), o 152 (.bin .sub (.t 151) (ki 1)), o 11 (.mv (.t 152))])))))))))
 (.seq (.reg 0 [o 153 (.mv (.t 0)), o 154 (.mv (.t 11)), o 155 (.mv (.t 0)), o 156 (.mv (.t 1)), o 157 (.mv (.t 0)), o 158 (.mv (.t 1)), o 159 (.ia (.t 157) (.t 158) 1), o 160 (.ld (.t 159) none), o 161 (.mv (.t 0)), o 162 (.mv (.t 11)), o 163 (.ia (.t 161) (.t 162) 1), o 164 (.ld (.t 163) none), o 165 (.ia (.t 153) (.t 154) 1), os (.st 1 (.t 165) (.t 160)), o 166 (.ia (.t 155) (.t 156) 1), os (.st 1 (.t 166) (.t 164))])
 (.seq (.reg 0 [o 167 (.mv (.t 11)), o 8 (.mv (.t 167)), o 9 (.mv (kb false))])
 .ret))))))))))))
def F161 : AFn := ⟨c161, [0, 1, 2, 3, 8, 9, 10, 11, 43, 60, 65, 112, 129, 134], [.tmp 8, .tmp 9], 168⟩
theorem k161 : FnOk Try.prog 161 F161 := .of Try.f161 Try.func161 (by kernel_rfl) (by kernel_rfl) (by kernel_rfl) (by kernel_rfl)

/-- plimsoll/kind.up -/
def c164 : AC :=
 (.seq (.reg 0 [o 4 (.mv (ki 0))])
 (.seq (.seq (.reg 0 [o 5 (.mv (.t 1)), o 6 (.bin .lss (.t 5) (ki 0)), o 7 (.mv (.t 6)), og 8 7 false (.mv (.t 1)), og 9 7 false (.mv (.t 0)), og 10 7 false (.ln (.t 9)), og 11 7 false (.bin .geq (.t 8) (.t 10)), o 12 (.pk (.t 7) (kb true) (.t 11)), o 13 (.mv (.t 12)), og 14 13 false (.mv (.t 0)), og 15 13 false (.mv (.t 1)), og 16 13 false (.ia (.t 14) (.t 15) 3), og 17 13 false (.fa (.t 16) 0), og 18 13 false (.ld (.t 17) none), og 19 13 false (.mv (.t 1)), og 20 13 false (.bin .geq (.t 18) (.t 19)), o 21 (.pk (.t 13) (kb true) (.t 20))])
 (.cond (.t 21) (.seq (.reg 0 [o 4 (.mv (ki (-1)))])
  .ret) .skip))
 (.seq (.reg 0 [o 22 (.mv (.t 0)), o 23 (.mv (.t 1)), o 24 (.ia (.t 22) (.t 23) 3), o 25 (.fa (.t 24) 0), o 26 (.ld (.t 25) none), o 4 (.mv (.t 26))])
 .ret)))
def F164 : AFn := ⟨c164, [0, 1, 4, 21], [.tmp 4], 27⟩
theorem k164 : FnOk Try.prog 164 F164 := .of Try.f164 Try.func164 (by kernel_rfl) (by kernel_rfl) (by kernel_rfl) (by kernel_rfl)

/-- slices.siftDownOrdered[int] -/
def c165 : AC :=
 (.seq (.reg 0 [o 10 (.mv (.t 1)), o 8 (.mv (.t 10))])
 (.block 0 (.loop (.block 1 (.seq (.reg 0 [o 11 (.mv (.t 8)), o 12 (.bin .mul (ki 2) (.t 11)), o 13 (.bin .add (.t 12) (ki 1)), o 9 (.mv (.t 13))])
    (.seq (.seq (.reg 0 [o 14 (.mv (.t 9)), o 15 (.mv (.t 2)), o 16 (.bin .geq (.t 14) (.t 15))])
    (.cond (.t 16) (.exit 0) .skip))
    (.seq (.seq (.reg 0 [o 17 (.mv (.t 9)), o 18 (.bin .add (.t 17) (ki 1)), o 19 (.mv (.t 2)), o 20 (.bin .lss (.t 18) (.t 19)), o 21 (.mv (.t 20)), og 22 21 true (.mv (.t 0)), og 23 21 true (.mv (.t 3)), og 24 21 true (.mv (.t 9)), og 25 21 true (.bin .add (.t 23) (.t 24)), og 26 21 true (.ia (.t 22) (.t 25) 1), og 27 21 true (.ld (.t 26) none), og 28 21 true (.mv (.t 0)), og 29 21 true (.mv (.t 3)), og 30 21 true (.mv (.t 9)), og 31 21 true (.bin .add (.t 29) (.t 30)), og 32 21 true (.bin .add (.t 31) (ki 1)), og 33 21 true (.ia (.t 28) (.t 32) 1), og 34 21 true (.ld (.t 33) none), og 35 21 true (.ec 159 [(.t 27), (.t 34)]), o 36 (.pk (.t 21) (.t 35) (kb false))])
    (.cond (.t 36) (.reg 0 [o 37 (.mv (.t 9)), o 38 (.bin .add (.t 37) (ki 1)), o 9 (.mv (.t 38))]) .skip))
    (.seq (.seq (.reg 0 [o 39 (.mv (.t 0)), o 40 (.mv (.t 3)), o 41 (.mv (.t 8)), o 42 (.bin .add (.t 40) (.t 41)), o 43 (.ia (.t 39) (.t 42) 1), o 44 (.ld (.t 43) none), o 45 (.mv (.t 0)), o 46 (.mv (.t 3)), o 47 (.mv (.t 9)), o 48 (.bin .add (.t 46) (.t 47)), o 49 (.ia (.t 45) (.t 48) 1), o 50 (.ld (.t 49) none), o 51 (.ec 159 [(.t 44), (.t 50)]), o 52 (.un .not (.t 51))])
    (.cond (.t 52) .ret .skip))
    (.seq (.reg 0 [o 53 (.mv (.t 0)), o 54 (.mv (.t 3)), o 55 (.mv (.t 8)), o 56 (.bin .add (.t 54) (.t 55)), o 57 (.mv (.t 0)), o 58 (.mv (.t 3)), o 59 (.mv (.t 9)), o 60 (.bin .add (.t 58) (.t 59)), o 61 (.mv (.t 0)), o 62 (.mv (.t 3)), o 63 (.mv (.t 9)), o 64 (.bin .add (.t 62) (.t 63)), o 65 (.ia (.t 61) (.t 64) 1), o 66 (.ld (.t 65) none), o 67 (.mv (.t 0)), o 68 (.mv (.t 3)), o 69 (.mv (.t 8)), o 70 (.bin .add (.t 68) (.t 69)), o 71 (.ia (.t 67) (.t 70) 1), o 72 (.ld (.t 71) none), o 73 (.ia (.t 53) (.t 56) 1), os (.st 1 (.t 73) (.t 66)), o 74 (.ia (.t 57) (.t 60) 1), os (.st 1 (.t 74) (.t 72))])
    (.reg 0 [o 75 (.mv (.t 9)), o 8 (.mv (.t 75))]))))))))))
def F165 : AFn := ⟨c165, [0, 1, 2, 3, 8, 9, 16, 36, 52], [], 76⟩
theorem k165 : FnOk Try.prog 165 F165 := .of Try.f165 Try.func165 (by kernel_rfl) (by kernel_rfl) (by kernel_rfl) (by kernel_rfl)

/-- slices.nextPowerOfTwo -/
def c166 : AC :=
 (.seq (.reg 0 [o 2 (.mv (.c (.int .u64 0)))])
 (.seq (.reg 0 [o 3 (.mv (.t 0)), o 4 (.cv .u64 (.t 3)), o 5 (.pc 143 [(.t 4)]), o 6 (.bin .shl (.c (.int .u64 1)) (.t 5)), o 2 (.mv (.t 6))])
 .ret))
def F166 : AFn := ⟨c166, [0, 2], [.tmp 2], 7⟩
theorem k166 : FnOk Try.prog 166 F166 := .of Try.f166 Try.func166 (by kernel_rfl) (by kernel_rfl) (by kernel_rfl) (by kernel_rfl)

/-- (*slices.xorshift).Next -/
def c167 : AC :=
 (.seq (.reg 0 [o 2 (.mv (.c (.int .u64 0)))])
 (.seq (.reg 0 [o 3 (.mv (.t 0)), o 4 (.nc (.t 3)), o 5 (.ld (.t 4) none), o 6 (.mv (.t 0)), o 7 (.nc (.t 6)), o 8 (.ld (.t 7) none), o 9 (.bin .shl (.t 8) (.c (.int .u64 13))), o 10 (.bin .xor (.t 5) (.t 9)), o 11 (.nc (.t 3)), os (.st 1 (.t 11) (.t 10))])
 (.seq (.reg 0 [o 12 (.mv (.t 0)), o 13 (.nc (.t 12)), o 14 (.ld (.t 13) none), o 15 (.mv (.t 0)), o 16 (.nc (.t 15)), o 17 (.ld (.t 16) none), o 18 (.bin .shr (.t 17) (.c (.int .u64 7))), o 19 (.bin .xor (.t 14) (.t 18)), o 20 (.nc (.t 12)), os (.st 1 (.t 20) (.t 19))])
 (.seq (.reg 0 [o 21 (.mv (.t 0)), o 22 (.nc (.t 21)), o 23 (.ld (.t 22) none), o 24 (.mv (.t 0)), o 25 (.nc (.t 24)), o 26 (.ld (.t 25) none), o 27 (.bin .shl (.t 26) (.c (.int .u64 17))), o 28 (.bin .xor (.t 23) (.t 27)), o 29 (.nc (.t 21)), os (.st 1 (.t 29) (.t 28))])
 (.seq (.reg 0 [o 30 (.mv (.t 0)), o 31 (.nc (.t 30)), o 32 (.ld (.t 31) none), o 2 (.mv (.t 32))])
 .ret)))))
def F167 : AFn := ⟨c167, [0, 2], [.tmp 2], 33⟩
theorem k167 : FnOk Try.prog 167 F167 := .of Try.f167 Try.func167 (by kernel_rfl) (by kernel_rfl) (by kernel_rfl) (by kernel_rfl)

/-- slices.medianAdjacentOrdered[int] -/
def c168 : AC :=
 (.seq (.reg 0 [o 6 (.mv (ki 0))])
 (.seq (.reg 0 [o 7 (.mv (.t 0)), o 8 (.mv (.t 1)), o 9 (.bin .sub (.t 8) (ki 1)), o 10 (.mv (.t 1)), o 11 (.mv (.t 1)), o 12 (.bin .add (.t 11) (ki 1)), o 13 (.mv (.t 2)), o 14 (.ec 169 [(.t 7), (.t 9), (.t 10), (.t 12), (.t 13)]), o 6 (.mv (.t 14))])
 .ret))
def F168 : AFn := ⟨c168, [0, 1, 2, 6], [.tmp 6], 15⟩
theorem k168 : FnOk Try.prog 168 F168 := .of Try.f168 Try.func168 (by kernel_rfl) (by kernel_rfl) (by kernel_rfl) (by kernel_rfl)

/-- slices.medianOrdered[int] -/
def c169 : AC :=
 (.seq (.reg 0 [o 10 (.mv (ki 0))])
 (.seq (.reg 0 [o 12 (.mv (.t 0)), o 13 (.mv (.t 1)), o 14 (.mv (.t 2)), o 15 (.mv (.t 4)), o 16 (.ec 171 [(.t 12), (.t 13), (.t 14), (.t 15)]), o 11 (.mv (.t 16)), o 17 (.ex (.t 11) 0), o 18 (.ex (.t 11) 1), o 1 (.mv (.t 17)), o 2 (.mv (.t 18))])
 (.seq (.reg 0 [o 20 (.mv (.t 0)), o 21 (.mv (.t 2)), o 22 (.mv (.t 3)), o 23 (.mv (.t 4)), o 24 (.ec 171 [(.t 20), (.t 21), (.t 22), (.t 23)]), o 19 (.mv (.t 24)), o 25 (.ex (.t 19) 0), o 26 (.ex (.t 19) 1), o 2 (.mv (.t 25)), o 3 (.mv (.t 26))])
 (.seq (.reg 0 [o 28 (.mv (.t 0)), o 29 (.mv (.t 1)), o 30 (.mv (.t 2)), o 31 (.mv (.t 4)), o 32 (.ec 171 [(.t 28), (.t 29), (.t 30), (.t 31)]), o 27 (.mv (.t 32)), o 33 (.ex (.t 27) 0), o 34 (.ex (.t 27) 1), o 1 (.mv (.t 33)), o 2 (.mv (.t 34))])
 (.seq (.reg 0 [o 35 (.mv (.t 2)), o 10 (.mv (.t 35))])
 .ret)))))
def F169 : AFn := ⟨c169, [0, 1, 2, 3, 4, 10], [.tmp 10], 36⟩
theorem k169 : FnOk Try.prog 169 F169 := .of Try.f169 Try.func169 (by kernel_rfl) (by kernel_rfl) (by kernel_rfl) (by kernel_rfl)

/-- cmp.isNaN[int] -/
def c170 : AC :=
 (.seq (.reg 0 [o 2 (.mv (kb false))])
 (.seq (.reg 0 [o 3 (.mv (.t 0)), o 4 (.mv (.t 0)), o 5 (.bin .neq (.t 3) (.t 4)), o 2 (.mv (.t 5))])
 .ret))
def F170 : AFn := ⟨c170, [0, 2], [.tmp 2], 6⟩
theorem k170 : FnOk Try.prog 170 F170 := .of Try.f170 Try.func170 (by kernel_rfl) (by kernel_rfl) (by kernel_rfl) (by kernel_rfl)

/-- slices.order2Ordered[int] -/
def c171 : AC :=
 (.seq (.reg 0 [o 8 (.mv (ki 0)), o 9 (.mv (ki 0))])
 (.seq (.seq (.reg 0 [o 10 (.mv (.t 0)), o 11 (.mv (.t 2)), o 12 (.ia (.t 10) (.t 11) 1), o 13 (.ld (.t 12) none), o 14 (.mv (.t 0)), o 15 (.mv (.t 1)), o 16 (.ia (.t 14) (.t 15) 1), o 17 (.ld (.t 16) none), o 18 (.ec 159 [(.t 13), (.t 17)])])
 (.cond (.t 18) (.seq (.reg 0 [o 19 (.mv (.t 3)), o 20 (.nc (.t 19)), o 21 (.ld (.t 20) none), o 22 (.bin .add (.t 21) (ki 1)), o 23 (.nc (.t 19)), os (.st 1 (.t 23) (.t 22))])
  (.seq (.reg 0 [o 24 (.mv (.t 2)), o 25 (.mv (.t 1)), o 8 (.mv (.t 24)), o 9 (.mv (.t 25))])
  .ret)) .skip))
 (.seq (.reg 0 [o 26 (.mv (.t 1)), o 27 (.mv (.t 2)), o 8 (.mv (.t 26)), o 9 (.mv (.t 27))])
 .ret)))
def F171 : AFn := ⟨c171, [0, 1, 2, 3, 8, 9, 18], [.tmp 8, .tmp 9], 28⟩
theorem k171 : FnOk Try.prog 171 F171 := .of Try.f171 Try.func171 (by kernel_rfl) (by kernel_rfl) (by kernel_rfl) (by kernel_rfl)

end Go.Proofs.Yteelkalenpbmmaa.Ab
